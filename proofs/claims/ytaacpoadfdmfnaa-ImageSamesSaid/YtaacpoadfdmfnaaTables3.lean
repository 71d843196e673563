/-
  What image.tables answers: the first error of the tables, then of the components' places.
-/
import Derived.Test.YtaacpoadfdmfnaaTables
import Derived.Test.YtaacpoadfdmfnaaTable
import Derived.Laws.EntriesVeiled
namespace Go.Proofs.Ytaacpoadfdmfnaa
open Go Go.RowKit Go.Shelf
namespace Aq
/-- The error of the i-th component's table. -/
def thereErr (cs : List Comp) (qs : List Quant) (i : Nat) : Int :=
  match cs[i]? with
  | some c => if (qs.find? fun q => q.pl == c.q).isSome then 0 else 5
  | none => 0
theorem size_zero64 : (ints IntKind.u16 zero64).toArray.size = 64 := by simp [zero64]
set_option maxRecDepth 100000 in
set_option maxHeartbeats 1000000 in
theorem tables3_any (w : World) (B : Nat) (W H : Int) (cv qv tv : Value) (cs : List Comp) (qs : List Quant) (i : Nat) (c : Comp) (hc : cs[i]? = some c) (hQ : RdL w 65 qv (qs.map quantRow))
    (h0 : w.cell? ⟨B, 0, none⟩ = some (.int .i64 W)) (h1 : w.cell? ⟨B, 1, none⟩ = some (.int .i64 H)) (h2 : w.cell? ⟨B, 2, none⟩ = some cv) (h3 : w.cell? ⟨B, 3, none⟩ = some qv) (h4 : w.cell? ⟨B, 4, none⟩ = some tv) :
    Calls Try.prog 116 #[.int .i64 i, .agg (compRow c).toArray, .pointer (some ⟨B, 0, none⟩)] w (Ret (.int .i64 (thereErr cs qs i)) w) := by
  simp only [compRow]
  have hBs : B < w.heap.size := lt_of_cell h0
  have hB1 : Below w.heap.size w (w.alloc (.cells #[.int .i64 c.id, .int .i64 c.h, .int .i64 c.v, .int .i64 c.q, .int .i64 c.cols, .int .i64 c.rows, c.bv] 63)) := below_new _
  have HE := Lib.hid (show thereErr cs qs i = if (qs.find? fun q => q.pl == c.q).isSome then 0 else 5 from by simp only [thereErr, hc])
  have HT := Lib.hid (table_any (W := W) (H := H) (cv := cv) (tv := tv) c.q (hQ.below hB1))
  have hq : ∀ q, q ∈ qs → q.q.length = 64 := fun q hq => by
    have := hQ.len (quantRow q) (List.mem_map.2 ⟨q, hq, rfl⟩)
    simpa [quantRow] using this
  clear hc
  go_enter Try.func116, Try.ntmps116
  go_wp2_with fail
  refine HT.out.mono ?_
  rintro e w2 ⟨rfl, hB2⟩
  have hB3 : Below w.heap.size w w2 := below_of_new hB2
  clear hB2 h0 h1 h2 h3 h4 HT hQ hB1
  cases hf : qs.find? (fun q => q.pl == c.q) with
  | none =>
    rw [hf] at HE
    clear hf hq
    have H2 := Lib.hid (show (Try.prog.info? 35).map (·.size) = some (ints .u16 zero64).toArray.size from size_u64)
    have H4 := Lib.hid (show (ints IntKind.u16 zero64).toArray.all (·.oneCell') = true from by simp [ints, zero64]; rfl)
    simp only [tabV]
    go_wp2_with (first | (refine wpList_store_new rfl 35 _ _ rfl w2 _ _ rfl rfl rfl H2.out rfl H4.out ?_) | (go_at_call 110; refine (test_any _ _ _).mono ?_; rintro e w3 ⟨rfl, hB4⟩))
    go_ret
    exact ⟨ret_int (by rw [HE.out]; rfl), hB3.trans ((below_of_new hB4).mono hB3.size)⟩
  | some q =>
    rw [hf] at HE
    have hql := hq q (List.mem_of_find?_eq_some hf)
    clear hf hq
    have H2 := Lib.hid (show (Try.prog.info? 35).map (·.size) = some (ints .u16 q.q).toArray.size from by rw [List.size_toArray, ints_length, hql]; exact size_u64)
    have H3 := Lib.hid (show 64 = (ints IntKind.u16 q.q).toArray.size from by rw [List.size_toArray, ints_length, hql])
    have H4 := Lib.hid (show (ints IntKind.u16 q.q).toArray.all (·.oneCell') = true from by simpa using ints_one .u16 q.q)
    clear hql
    simp only [tabV]
    go_wp2_with (first | (refine wpList_store_new rfl 35 _ _ rfl w2 _ _ rfl rfl rfl H2.out H3.out H4.out ?_) | (go_at_call 110; refine (test_any _ _ _).mono ?_; rintro e w3 ⟨rfl, hB4⟩))
    go_ret
    exact ⟨ret_int (by rw [HE.out]; rfl), hB3.trans ((below_of_new hB4).mono hB3.size)⟩
/-- The error of all tables. -/
def tablesErr (cs : List Comp) (qs : List Quant) : Int :=
  if firstE qs.length (tableErr cs qs) = 0 then firstE cs.length (thereErr cs qs) else firstE qs.length (tableErr cs qs)
set_option maxHeartbeats 1000000 in
theorem tables_any {w : World} {W H : Int} {cv qv tv : Value} {cs : List Comp} {qs : List Quant} {ts : List Tag} (hR : RdImg w cv qv tv cs qs ts) :
    Calls Try.prog 60 #[.agg #[.int .i64 W, .int .i64 H, cv, qv, tv]] w (Ret (.int .i64 (tablesErr cs qs)) w) := by
  obtain ⟨w1, hw1⟩ : ∃ w1, w1 = w.alloc (.cells #[.int .i64 W, .int .i64 H, cv, qv, tv] 26) := ⟨_, rfl⟩
  obtain ⟨w2, hw2⟩ : ∃ w2, w2 = w1.alloc (.cells #[.func (.func 111) #[] #[.pointer (some ⟨w.heap.size, 0, none⟩)]] 159) := ⟨_, rfl⟩
  have hB1 : Below w.heap.size w w1 := by rw [hw1]; exact below_new _
  have hs1 : w1.heap.size = w.heap.size + 1 := by rw [hw1]; simp
  have hB2 : Below w1.heap.size w1 w2 := by rw [hw2]; exact below_new _
  have hB12 : Below w.heap.size w w2 := hB1.trans (hB2.mono hB1.size)
  have hcell : ∀ j v, #[Value.int .i64 W, .int .i64 H, cv, qv, tv][j]? = some v → w1.cell? ⟨w.heap.size, j, none⟩ = some v := fun j v hv => by rw [hw1]; exact new_cell (Below.refl _ _) j hv
  have hU : w2.cell? ⟨w1.heap.size, 0, none⟩ = some (.func (.func 111) #[] #[.pointer (some ⟨w.heap.size, 0, none⟩)]) := by rw [hw2]; exact new_cell (Below.refl _ _) 0 rfl
  have he := each_Quant (hR.quants.below hB12) 114 #[.pointer (some ⟨w.heap.size, 0, none⟩), .pointer (some ⟨w1.heap.size, 0, none⟩)] (enters_of Try.func114 (by kernel_rfl) rfl) (tableErr cs qs) (fun i x hx w3 hw3 => by
    rw [List.getElem?_map] at hx
    obtain ⟨q, hd, rfl⟩ := Option.map_eq_some_iff.1 hx
    have hB3 : Below w.heap.size w w3 := hB12.trans (hw3.mono hB12.size)
    exact tables2_any w3 w.heap.size w1.heap.size cv qv cs qs i q hd (hR.comps.below hB3) (hR.quants.below hB3) (old_cell hw3 (old_cell hB2 (hcell 2 _ rfl))) (old_cell hw3 (old_cell hB2 (hcell 3 _ rfl))) (old_cell hw3 hU))
  have hf : ∀ w3, Below w2.heap.size w2 w3 → Calls Try.prog 106 #[cv, .func (.func 116) #[] #[.pointer (some ⟨w.heap.size, 0, none⟩)]] w3 (Ret (.int .i64 (firstE cs.length (thereErr cs qs))) w3) := fun w3 hw3 => by
    have hB3 : Below w.heap.size w w3 := hB12.trans (hw3.mono hB12.size)
    have := each_Comp (hR.comps.below hB3) 116 #[.pointer (some ⟨w.heap.size, 0, none⟩)] (enters_of Try.func116 (by kernel_rfl) rfl) (thereErr cs qs) (fun i x hx w4 hw4 => by
      rw [List.getElem?_map] at hx
      obtain ⟨c, hd, rfl⟩ := Option.map_eq_some_iff.1 hx
      have hB4 : Below w.heap.size w w4 := hB3.trans (hw4.mono hB3.size)
      have hc4 : ∀ j v, #[Value.int .i64 W, .int .i64 H, cv, qv, tv][j]? = some v → w4.cell? ⟨w.heap.size, j, none⟩ = some v := fun j v hv => old_cell hw4 (old_cell hw3 (old_cell hB2 (hcell j v hv)))
      exact tables3_any w4 w.heap.size W H cv qv tv cs qs i c hd (hR.quants.below hB4) (hc4 0 _ rfl) (hc4 1 _ rfl) (hc4 2 _ rfl) (hc4 3 _ rfl) (hc4 4 _ rfl))
    rw [List.length_map] at this
    exact this
  rw [List.length_map] at he
  have HE := Lib.hid he
  have HF := Lib.hid hf
  have hc1 := Lib.hid (show ∀ w3, Below w2.heap.size w2 w3 → w3.cell? ⟨w.heap.size, 2, none⟩ = some cv from fun w3 hw3 => old_cell hw3 (old_cell hB2 (hcell 2 _ rfl)))
  have HB := Lib.hid hB12
  have hs2 : w.heap.size < w2.heap.size := by have := hB2.size; omega
  clear he hf hR hcell hU hB1 hB2 hB12
  go_enter Try.func60, Try.ntmps60
  go_wp2_with fail
  rw [← hs1]
  refine calls_at (w := w2) (by rw [hw2, hw1]) ?_
  clear hw1 hw2 hs1
  refine HE.out.mono ?_
  rintro e w3 ⟨rfl, hB3⟩
  have hc3 := hc1.out w3 hB3
  have HB3 := Lib.hid hB3
  clear hB3
  by_cases hz : firstE qs.length (tableErr cs qs) = 0
  · have hb : (firstE qs.length (tableErr cs qs) != 0) = false := by simp [hz]
    have HR := Lib.hid (show tablesErr cs qs = firstE cs.length (thereErr cs qs) from by simp only [tablesErr, hz, if_true])
    clear hz
    go_wp2_with fail
    refine (HF.out w3 HB3.out).mono ?_
    rintro e w4 ⟨rfl, hB4⟩
    clear hc3
    go_wp2_with fail
    go_ret
    exact ⟨ret_int HR.out.symm, (HB.out.trans (HB3.out.mono HB.out.size)).trans (hB4.mono (HB.out.trans (HB3.out.mono HB.out.size)).size)⟩
  · have hb : (firstE qs.length (tableErr cs qs) != 0) = true := by simp [hz]
    have HR := Lib.hid (show tablesErr cs qs = firstE qs.length (tableErr cs qs) from by simp only [tablesErr, hz, if_false])
    clear hz
    go_wp2_with fail
    go_ret
    exact ⟨ret_int HR.out.symm, HB.out.trans (HB3.out.mono HB.out.size)⟩
end Aq
end Go.Proofs.Ytaacpoadfdmfnaa
