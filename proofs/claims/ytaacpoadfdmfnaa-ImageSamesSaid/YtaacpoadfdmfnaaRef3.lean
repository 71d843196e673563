/-
  What the document's tables answers.
-/
import Derived.Test.YtaacpoadfdmfnaaRef2
import Derived.Test.YtaacpoadfdmfnaaTables3
namespace Go.Proofs.Ytaacpoadfdmfnaa
open Go Go.RowKit Go.Shelf
namespace Aq
theorem tableErr_bad {cs : List Comp} {qs : List Quant} {k : Nat} {q : Quant} (hq : qs[k]? = some q) (h : q.pl < 0 ∨ 3 < q.pl) : tableErr cs qs k = 5 := by
  simp only [tableErr, hq]
  rw [if_neg]
  rintro ⟨h1, h2, _⟩
  omega
theorem tableErr_order {cs : List Comp} {qs : List Quant} {k : Nat} {q r : Quant} (hq : qs[k]? = some q) (hk : 0 < k) (hr : qs[k - 1]? = some r) (h : q.pl ≤ r.pl) : tableErr cs qs k = 5 := by
  simp only [tableErr, hq]
  rw [if_neg]
  rintro ⟨_, _, h3, _⟩
  simp [List.getD_eq_getElem?_getD, hr] at h3
  omega
theorem tableErr_unused {cs : List Comp} {qs : List Quant} {k : Nat} {q : Quant} (hq : qs[k]? = some q) (h : usedAt cs q.pl = false) : tableErr cs qs k = 5 := by
  simp only [tableErr, hq]
  rw [if_neg]
  rintro ⟨_, _, _, _, h5⟩
  rw [h] at h5; cases h5
theorem tableErr_nought {cs : List Comp} {qs : List Quant} {k j : Nat} {q : Quant} (hq : qs[k]? = some q) (hj : q.q[j]? = some 0) : tableErr cs qs k = 5 := by
  simp only [tableErr, hq]
  rw [if_neg]
  rintro ⟨_, _, _, h4, _⟩
  rw [List.any_eq_false] at h4
  have := h4 0 (List.mem_of_getElem? hj)
  simp at this
theorem tableErr_ok {cs : List Comp} {qs : List Quant} {k : Nat} {q : Quant} (hq : qs[k]? = some q) (h1 : 0 ≤ q.pl) (h2 : q.pl ≤ 3) (h3 : k = 0 ∨ ∃ r, qs[k - 1]? = some r ∧ r.pl < q.pl) (h4 : ∀ (j : Nat) (x : Int), q.q[j]? = some x → x ≠ 0) (h5 : usedAt cs q.pl = true) : tableErr cs qs k = 0 := by
  simp only [tableErr, hq]
  rw [if_pos]
  refine ⟨h1, by omega, ?_, ?_, h5⟩
  · rcases h3 with h | ⟨r, hr, hlt⟩
    · exact .inl h
    · right
      simp [List.getD_eq_getElem?_getD, hr]
      exact hlt
  · rw [List.any_eq_false]
    intro x hx
    obtain ⟨j, hj⟩ := List.mem_iff_getElem?.1 hx
    have := h4 j x hj
    simp only [beq_iff_eq]
    omega
/-- The k-th table's cells. -/
theorem RdImg.qrow {w : World} {cv qv tv : Value} {cs : List Comp} {qs : List Quant} {ts : List Tag} (h : RdImg w cv qv tv cs qs ts) {p : Option Addr} {n cap : Nat} (e : qv = .slice p n cap) {k : Nat} {q : Quant} (hq : qs[k]? = some q) :
    ∃ b o, p = some ⟨b, o, none⟩ ∧ b < w.heap.size ∧ w.rangeAt b (o + k * 65) (quantRow q) ∧ w.cell? ⟨b, o + k * 65, none⟩ = some (.int .i64 q.pl) := by
  obtain ⟨p', cap', e', _, _, hx⟩ := h.quants.form
  rw [e] at e'
  cases e'
  obtain ⟨b, o, rfl, hr⟩ := hx (fun e => by rw [List.map_eq_nil_iff] at e; rw [e] at hq; simp at hq)
  have hr := hr k (quantRow q) (by simp [hq])
  exact ⟨b, o, rfl, lt_of_cell (hr 0 _ rfl), hr, hr 0 _ rfl⟩
theorem RdImg.qfacts {w : World} {cv qv tv : Value} {cs : List Comp} {qs : List Quant} {ts : List Tag} (h : RdImg w cv qv tv cs qs ts) {q : Quant} (hq : q ∈ qs) :
    (Try.prog.info? 39).map (·.size) = some (quantRow q).length ∧ (Try.prog.info? 39).map (·.size) = some (quantRow q).toArray.size ∧ 65 = (quantRow q).toArray.size ∧ (quantRow q).toArray.all (·.oneCell') = true := by
  have hl := h.quants.len (quantRow q) (List.mem_map.2 ⟨q, hq, rfl⟩)
  refine ⟨by rw [hl]; exact size_Quant, by rw [List.size_toArray, hl]; exact size_Quant, by rw [List.size_toArray, hl], ?_⟩
  have := h.quants.one (quantRow q) (List.mem_map.2 ⟨q, hq, rfl⟩)
  simpa using this
theorem used_take {cs : List Comp} {n : Int} {k : Nat} {c : Comp} (hc : cs[k]? = some c) : usedAt (cs.take (k + 1)) n = (usedAt (cs.take k) n || (c.q == n)) := by
  unfold usedAt
  rw [List.take_add_one, hc, List.any_append]
  simp
end Aq
end Go.Proofs.Ytaacpoadfdmfnaa
