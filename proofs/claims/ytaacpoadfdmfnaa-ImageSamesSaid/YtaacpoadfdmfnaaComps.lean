/-
  What image.comps answers: the first error of the components' ids and places.
-/
import Derived.Test.YtaacpoadfdmfnaaModel
import Derived.Test.YtaacpoadfdmfnaaEach
import Derived.Test.YtaacpoadfdmfnaaFind
import Derived.Shelf.Abstract
namespace Go.Proofs.Ytaacpoadfdmfnaa
open Go Go.RowKit Go.Shelf
namespace Aq
def testE (b : Bool) (n : Int) : Int := if b then 0 else n
set_option maxHeartbeats 400000 in
theorem test_any (w : World) (b : Bool) (n : Int) : Calls Try.prog 110 #[.bool b, .int .i64 n] w (Ret (.int .i64 (testE b n)) w) := by
  cases b
  · go_enter Try.func110, Try.ntmps110
    go_wp2
    go_ret
    exact ⟨rfl, Below.refl _ _⟩
  · go_enter Try.func110, Try.ntmps110
    go_wp2
    go_ret
    exact ⟨rfl, Below.refl _ _⟩
set_option maxHeartbeats 400000 in
theorem comps11_any (w : World) (b o : Nat) (x y : Int) (c1 c2 c3 c4 c5 c6 : Value) (h : w.cell? ⟨b, o, none⟩ = some (.int .i64 y)) :
    Calls Try.prog 109 #[.agg #[.int .i64 x, c1, c2, c3, c4, c5, c6], .pointer (some ⟨b, o, none⟩)] w (Ret (.bool (x == y)) w) := by
  have hb : b < w.heap.size := lt_of_cell h
  go_enter Try.func109, Try.ntmps109
  go_wp2
  go_ret
  exact ⟨rfl, (Below.refl _ _).alloc (Nat.le_refl _) _⟩
/-- The error of the i-th component. -/
def compErr (cs : List Comp) (i : Nat) : Int :=
  match cs[i]? with
  | some c => if 0 ≤ c.id ∧ c.id ≤ 255 ∧ ((List.range i).any fun j => ((cs.map (·.id)).getD j 0 == c.id)) = false ∧ 0 ≤ c.q ∧ c.q < 4 then 0 else 7
  | none => 0
set_option maxHeartbeats 1000000 in
theorem comps1_any (w : World) (B : Nat) (cv : Value) (cs : List Comp) (i : Nat) (c : Comp) (hc : cs[i]? = some c) (hR : RdL w 7 cv (cs.map compRow)) (hcv : w.cell? ⟨B, 2, none⟩ = some cv) :
    Calls Try.prog 107 #[.int .i64 i, .agg (compRow c).toArray, .pointer (some ⟨B, 0, none⟩)] w (Ret (.int .i64 (compErr cs i)) w) := by
  have hi : i < cs.length := (List.getElem?_eq_some_iff.1 hc).1
  obtain ⟨⟨p, cap, rfl, hcap, hcm, hx⟩, hk, ho⟩ := hR
  have hR' : RdL w 7 (.slice p i cap) ((cs.map compRow).take i) := RdL.take ⟨⟨p, cap, rfl, hcap, hcm, hx⟩, hk, ho⟩ i (by simp; omega)
  rw [List.length_map] at hcap hcm hcv
  have hB : B < w.heap.size := lt_of_cell hcv
  have he : Hid (∀ w', Below w.heap.size w w' → w'.cell? ⟨w.heap.size, 0, none⟩ = some (.int .i64 c.id) → Calls Try.prog 108 #[.slice p i cap, .func (.func 109) #[] #[.pointer (some ⟨w.heap.size, 0, none⟩)]] w'
      (Ret (.bool ((List.range i).any fun j => ((cs.map (·.id)).getD j 0 == c.id))) w')) := fun w' hw' hcell => by
    have := containsFunc_Comp (hR'.below hw') 109 #[.pointer (some ⟨w.heap.size, 0, none⟩)] (enters_of Try.func109 (by kernel_rfl) rfl) (fun j => ((cs.map (·.id)).getD j 0 == c.id)) (fun j x hx w2 hw2 => by
      rw [List.getElem?_take] at hx
      split at hx
      · rw [List.getElem?_map] at hx
        obtain ⟨d, hd, rfl⟩ := Option.map_eq_some_iff.1 hx
        have e : (cs.map (·.id)).getD j 0 = d.id := by simp [List.getD_eq_getElem?_getD, hd]
        rw [e]
        exact comps11_any w2 _ _ d.id c.id _ _ _ _ _ _ (by rw [hw2.cell (p := ⟨w.heap.size, 0, none⟩) (lt_of_cell hcell)]; exact hcell)
      · cases hx)
    rw [List.length_take, List.length_map, Nat.min_eq_left (by omega)] at this
    exact this
  have h1 : (i : Int) ≤ (cs.length : Int) := by omega
  have h2 : (i : Int) ≤ (cap : Int) := by omega
  have hm : cap ≤ 9223372036854775807 := by have := hcm.1; unfold maxLen at this; exact this
  clear hk ho hx hcm hR'
  have HE := Lib.hid (show compErr cs i = if 0 ≤ c.id ∧ c.id ≤ 255 ∧ ((List.range i).any fun j => ((cs.map (·.id)).getD j 0 == c.id)) = false ∧ 0 ≤ c.q ∧ c.q < 4 then 0 else 7 from by simp only [compErr, hc])
  clear hc
  generalize htw : ((List.range i).any fun j => ((cs.map (·.id)).getD j 0 == c.id)) = tw at *
  clear htw
  go_enter Try.func107, Try.ntmps107
  go_wp2_with fail
  obtain ⟨w1, hw1⟩ : ∃ w1, w1 = w.alloc (.cells (compRow c).toArray 63) := ⟨_, rfl⟩
  have hB1 : Below w.heap.size w w1 := by rw [hw1]; exact (Below.refl _ _).alloc (Nat.le_refl _) _
  have hrow : ∀ j v, (compRow c)[j]? = some v → w1.cell? ⟨w.heap.size, j, none⟩ = some v := fun j v hv => by
    rw [hw1, cell_of_row _ w.heap.size j _ _ (0, 0) (heap_alloc_last w _)]; simpa using hv
  rw [← hw1]
  clear hw1
  refine (he.out _ hB1 (hrow 0 _ rfl)).mono ?_
  rintro e w2 ⟨rfl, hB2⟩
  have hc0 : w2.cell? ⟨w.heap.size, 0, none⟩ = some (.int .i64 c.id) := by rw [hB2.cell (p := ⟨w.heap.size, 0, none⟩) (lt_of_cell (hrow 0 _ rfl))]; exact hrow 0 _ rfl
  have hc3 : w2.cell? ⟨w.heap.size, 3, none⟩ = some (.int .i64 c.q) := by rw [hB2.cell (p := ⟨w.heap.size, 3, none⟩) (lt_of_cell (hrow 3 _ rfl))]; exact hrow 3 _ rfl
  have hB3 : Below w.heap.size w w2 := hB1.trans (hB2.mono hB1.size)
  clear hrow hB1 hB2 he hcv
  go_wp2_with (go_at_call 110; refine (test_any _ _ _).mono ?_; rintro e w3 ⟨rfl, hB4⟩)
  all_goals
    go_ret
    refine ⟨ret_int ?_, hB3.trans (hB4.mono hB3.size)⟩
    rw [HE.out]
    split <;> simp_all [testE] <;> omega
set_option maxHeartbeats 400000 in
theorem comps_any {w : World} {W H : Int} {cv qv tv : Value} {cs : List Comp} {qs : List Quant} {ts : List Tag} (hR : RdImg w cv qv tv cs qs ts) :
    Calls Try.prog 59 #[.agg #[.int .i64 W, .int .i64 H, cv, qv, tv]] w (Ret (.int .i64 (firstE cs.length (compErr cs))) w) := by
  have hB : Below w.heap.size w (w.alloc (.cells #[.int .i64 W, .int .i64 H, cv, qv, tv] 26)) := (Below.refl _ _).alloc (Nat.le_refl _) _
  have hc : ∀ w', Below w.heap.size w w' → Below (w.alloc (.cells #[.int .i64 W, .int .i64 H, cv, qv, tv] 26)).heap.size (w.alloc (.cells #[.int .i64 W, .int .i64 H, cv, qv, tv] 26)) w' → w'.cell? ⟨w.heap.size, 2, none⟩ = some cv := fun w' _ h => by
    rw [h.cell (p := ⟨w.heap.size, 2, none⟩) (by simp), cell_of_row _ w.heap.size 2 _ _ (0, 0) (heap_alloc_last w _)]; rfl
  have he := each_Comp (hR.comps.below hB) 107 #[.pointer (some ⟨w.heap.size, 0, none⟩)] (enters_of Try.func107 (by kernel_rfl) rfl) (compErr cs) (fun i x hx w2 hw2 => by
    rw [List.getElem?_map] at hx
    obtain ⟨c, hd, rfl⟩ := Option.map_eq_some_iff.1 hx
    have hB2 : Below w.heap.size w w2 := hB.trans (hw2.mono (by simp))
    exact comps1_any w2 w.heap.size cv cs i c hd (hR.comps.below hB2) (hc w2 hB2 hw2))
  rw [List.length_map] at he
  have HE := Lib.hid he
  clear he hc hR
  go_enter Try.func59, Try.ntmps59
  go_wp2_with fail
  refine HE.out.mono ?_
  rintro e w2 ⟨rfl, hB2⟩
  go_wp2_with fail
  go_ret
  exact ⟨rfl, hB.trans (hB2.mono (by simp))⟩
end Aq
end Go.Proofs.Ytaacpoadfdmfnaa
