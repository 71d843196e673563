/-
  Grids of a right frame; a cell of an own row is written.
-/
import Derived.Test.YtaacpoadfdmfnaaPlaneNew
namespace Go.Proofs.Ytaacpoadfdmfnaa
open Go Go.RowKit
namespace Aq
theorem fixP_length (ps : List Part) : (fixP ps).length = ps.length := by
  unfold fixP
  split
  · rename_i h; rw [h]; rfl
  · rfl
theorem fixP_ok {ps : List Part} (h : ∀ p, p ∈ ps → 1 ≤ p.h ∧ p.h ≤ 4 ∧ 1 ≤ p.v ∧ p.v ≤ 4) : ∀ p, p ∈ fixP ps → 1 ≤ p.h ∧ p.h ≤ 4 ∧ 1 ≤ p.v ∧ p.v ≤ 4 := by
  unfold fixP
  split
  · intro p hp
    have : p = ⟨1, 1⟩ := by simpa using hp
    subst this
    simp
  · exact h
theorem newErr_zero {W H : Int} {ps : List Part} (h : newErr W H ps = 0) : rightErr W H ps = 0 ∧ (ps.length ≤ 1 ∨ sumOf (fixP ps) ≤ 10) ∧ totalOf (gridsOf W H (fixP ps)) ≤ 16384 := by
  unfold newErr at h
  split at h
  · rename_i h1; exact absurd h h1
  · rename_i h1
    split at h
    · omega
    · rename_i h2
      split at h
      · omega
      · rename_i h3
        refine ⟨by simpa using h1, ?_, by omega⟩
        by_cases h4 : 1 < ps.length
        · right; have : ¬ (10 < sumOf (fixP ps)) := fun hh => h2 ⟨h4, hh⟩; omega
        · left; omega
theorem upN_pos {x y : Int} (hx : 1 ≤ x) (hy : 1 ≤ y) : 1 ≤ upN x y := by
  unfold upN
  exact (Int.le_ediv_iff_mul_le (by omega)).2 (by omega)
theorem gridOf_pos {W H : Int} {ps : List Part} {p : Part} (hW : 1 ≤ W) (hH : 1 ≤ H) (hps : ∀ p, p ∈ ps → 1 ≤ p.h ∧ p.h ≤ 4 ∧ 1 ≤ p.v ∧ p.v ≤ 4) (hp : p ∈ ps) : 1 ≤ (gridOf W H ps p).cols ∧ 1 ≤ (gridOf W H ps p).rows := by
  obtain ⟨a1, a2, a3, a4⟩ := hps p hp
  obtain ⟨b1, b2⟩ := hh_pos hps (List.length_pos_of_mem hp)
  have c1 := upN_pos hW (show 1 ≤ 8 * hhOf ps by omega)
  have c2 := upN_pos hH (show 1 ≤ 8 * vvOf ps by omega)
  have m1 : 1 * 1 ≤ upN W (8 * hhOf ps) * p.h := Int.mul_le_mul c1 a1 (by omega) (by omega)
  have m2 : 1 * 1 ≤ upN H (8 * vvOf ps) * p.v := Int.mul_le_mul c2 a3 (by omega) (by omega)
  unfold gridOf
  exact ⟨by simpa using m1, by simpa using m2⟩
theorem total_ge : ∀ {gs : List Grid} (a : Int), (∀ g, g ∈ gs → 0 ≤ g.cols * g.rows) → a ≤ gs.foldl (fun a g => a + g.cols * g.rows) a ∧ ∀ g, g ∈ gs → a + g.cols * g.rows ≤ gs.foldl (fun a g => a + g.cols * g.rows) a
  | [], a, _ => ⟨Int.le_refl _, fun g hg => absurd hg List.not_mem_nil⟩
  | x :: r, a, h => by
    have hx := h x (List.mem_cons_self ..)
    obtain ⟨h1, h2⟩ := total_ge (gs := r) (a + x.cols * x.rows) (fun g hg => h g (List.mem_cons_of_mem _ hg))
    simp only [List.foldl_cons]
    refine ⟨by omega, fun g hg => ?_⟩
    rcases List.mem_cons.1 hg with rfl | hg
    · exact h1
    · have := h2 g hg; omega
theorem sized_of {c r : Int} (h1 : 1 ≤ c) (h2 : 1 ≤ r) (h3 : c * r ≤ 16384) : sizedErr c r = 0 := by
  have h4 : c * 1 ≤ c * r := Int.mul_le_mul_of_nonneg_left h2 (by omega)
  unfold sizedErr
  rw [if_neg (by omega), if_neg]
  rintro (h | h)
  · omega
  · have : 16384 < r * c := (Int.ediv_lt_iff_lt_mul (by omega)).1 h
    rw [Int.mul_comm] at this
    omega
/-- What is known of a right frame. -/
theorem new_grids {W H : Int} {ps : List Part} (h : newErr W H ps = 0) : (gridsOf W H (fixP ps)).length = ps.length ∧ ∀ g, g ∈ gridsOf W H (fixP ps) → 1 ≤ g.cols ∧ 1 ≤ g.rows ∧ g.cols * g.rows ≤ 16384 ∧ sizedErr g.cols g.rows = 0 := by
  obtain ⟨h1, h2, h3⟩ := newErr_zero h
  obtain ⟨a1, a2, a3, a4, a5, a6, a7⟩ := rightErr_zero h1
  have hf := fixP_ok a7
  have hpos : ∀ g, g ∈ gridsOf W H (fixP ps) → 1 ≤ g.cols ∧ 1 ≤ g.rows := by
    intro g hg
    obtain ⟨p, hp, rfl⟩ := List.mem_map.1 hg
    exact gridOf_pos a1 a3 hf hp
  refine ⟨by unfold gridsOf; rw [List.length_map, fixP_length], fun g hg => ?_⟩
  obtain ⟨p1, p2⟩ := hpos g hg
  have := (total_ge 0 (fun g hg => Int.mul_nonneg (by have := (hpos g hg).1; omega) (by have := (hpos g hg).2; omega))).2 g hg
  have hle : g.cols * g.rows ≤ 16384 := by unfold totalOf at h3; omega
  exact ⟨p1, p2, hle, sized_of p1 p2 hle⟩
theorem flatten_set {k : Nat} : ∀ {rows : List (List Value)}, (∀ x, x ∈ rows → x.length = k) → ∀ {i j : Nat} {x : List Value} (u : Value), rows[i]? = some x → j < k → (rows.set i (x.set j u)).flatten = rows.flatten.set (i * k + j) u
  | [], _, i, _, _, _, h, _ => by simp at h
  | y :: r, hk, 0, j, x, u, h, hj => by
    have : y = x := by simpa using h
    subst this
    rw [List.set_cons_zero, List.flatten_cons, List.flatten_cons, Nat.zero_mul, Nat.zero_add, List.set_append_left _ _ (by rw [hk y (List.mem_cons_self ..)]; exact hj)]
  | y :: r, hk, i + 1, j, x, u, h, hj => by
    have hy := hk y (List.mem_cons_self ..)
    rw [List.set_cons_succ, List.flatten_cons, List.flatten_cons, List.set_append_right _ _ (by rw [hy, Nat.succ_mul]; omega), hy, flatten_set (fun z hz => hk z (List.mem_cons_of_mem _ hz)) u (by simpa using h) hj]
    congr 2
    rw [Nat.succ_mul]; omega
/-- An own row that is not empty, opened. -/
theorem owns_open {w : World} {base k : Nat} {e : TypeId} {v : Value} {n : Nat} {xs : List Value} (h : w.ownsRow base e k v n xs) (hn : 0 < n) : ∃ g cap cur, v = .slice (some ⟨g, 0, none⟩) n cap ∧ base ≤ g ∧ w.heap[g]? = some (.cells cur e (0, 0)) ∧ n ≤ cap ∧ cur.size = cap * k ∧ cur.toList.take (n * k) = xs := by
  obtain ⟨hl, ⟨_, h0⟩ | ⟨g, cap, cur, rfl, hg, hh, hc, hm, hs, ht⟩⟩ := h
  · subst h0; omega
  · exact ⟨g, cap, cur, rfl, hg, hh, hc, hs, ht⟩
/-- A cell of an own row is written. -/
theorem owns_setCell {w : World} {base k n : Nat} {e : TypeId} {g cap : Nat} {rows : List (List Value)} (hk : ∀ x, x ∈ rows → x.length = k) (hn : rows.length = n) (h : w.ownsRow base e k (.slice (some ⟨g, 0, none⟩) n cap) n rows.flatten) {i j o : Nat} {x : List Value} (u : Value) (hx : rows[i]? = some x) (hj : j < k) (ho : o = i * k + j) :
    (w.setCell ⟨g, o, none⟩ u).ownsRow base e k (.slice (some ⟨g, 0, none⟩) n cap) n (rows.set i (x.set j u)).flatten := by
  have hi : i < n := by rw [← hn]; exact (List.getElem?_eq_some_iff.1 hx).1
  obtain ⟨g', cap', cur, hv, hg, hh, hc, hs, ht⟩ := owns_open h (by omega)
  cases hv
  have hl : rows.flatten.length = n * k := h.1
  have hm : cap ≤ maxLen := by
    rcases h.2 with ⟨h0, _⟩ | ⟨g', cap', cur', hv, _, _, _, hm, _⟩
    · cases h0
    · cases hv; exact hm
  rw [flatten_set hk u hx hj]
  refine ⟨by rw [List.length_set]; exact hl, .inr ⟨g, cap, cur.setIfInBounds o u, rfl, hg, blk_set hh o u, hc, hm, by simpa using hs, ?_⟩⟩
  rw [Array.toList_setIfInBounds, List.take_set, ht, ho]
theorem set_length_all {k : Nat} {rows : List (List Value)} (hk : ∀ x, x ∈ rows → x.length = k) {i j : Nat} {x : List Value} (hx : rows[i]? = some x) (u : Value) : ∀ y, y ∈ rows.set i (x.set j u) → y.length = k := by
  intro y hy
  rcases List.mem_or_eq_of_mem_set hy with h | h
  · exact hk y h
  · rw [h, List.length_set]; exact hk x (List.mem_of_getElem? hx)
end Aq
end Go.Proofs.Ytaacpoadfdmfnaa
