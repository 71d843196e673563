/-
  What frame.up and frame.right answer.
-/
import Derived.Test.YtaacpoadfdmfnaaModel
import Derived.Test.YtaacpoadfdmfnaaTypes
import Derived.Test.YtaacpoadfdmfnaaFind
import Derived.Shelf.Abstract
import Derived.Laws.EntriesVeiled
namespace Go.Proofs.Ytaacpoadfdmfnaa
open Go Go.RowKit Go.Shelf
namespace Aq
/-- A quotient, rounded up. -/
def upN (a b : Int) : Int := (a + b - 1) / b
set_option maxHeartbeats 400000 in
theorem up_any (w : World) (a b : Int) (ha : 0 ≤ a) (ha' : a ≤ 1000000000) (hb : 1 ≤ b) (hb' : b ≤ 1000000000) : Calls Try.prog 139 #[.int .i64 a, .int .i64 b] w fun e w' => e = .returned (.int .i64 (upN a b)) ∧ w' = w := by
  go_enter Try.func139, Try.ntmps139
  go_wp2
  go_ret
  exact ⟨rfl, rfl⟩
/-- Is a number no factor? -/
def badN (n : Int) : Bool := decide (n < 1) || decide (4 < n)
structure Part where
  h : Int
  v : Int
def partRow (p : Part) : List Value := [.int .i64 p.h, .int .i64 p.v]
def badP (p : Part) : Bool := badN p.h || badN p.v
set_option maxHeartbeats 400000 in
theorem right1_any (w : World) (n : Int) : Calls Try.prog 149 #[.int .i64 n] w (Ret (.bool (!(badN n))) w) := by
  by_cases h1 : 1 ≤ n
  · by_cases h2 : n ≤ 4
    · have HB := Lib.hid (show (!(badN n)) = true from by simp [badN]; omega)
      go_enter Try.func149, Try.ntmps149
      go_wp2
      go_ret
      exact ⟨by rw [HB.out]; rfl, Below.refl _ _⟩
    · have HB := Lib.hid (show (!(badN n)) = false from by simp [badN]; omega)
      go_enter Try.func149, Try.ntmps149
      go_wp2
      go_ret
      exact ⟨by rw [HB.out]; rfl, Below.refl _ _⟩
  · have HB := Lib.hid (show (!(badN n)) = false from by simp [badN]; omega)
    go_enter Try.func149, Try.ntmps149
    go_wp2
    go_ret
    exact ⟨by rw [HB.out]; rfl, Below.refl _ _⟩
set_option maxHeartbeats 400000 in
theorem right2_any (w : World) (U : Nat) (p : Part) (hU : w.cell? ⟨U, 0, none⟩ = some (.func (.func 149) #[] #[])) : Calls Try.prog 150 #[.agg (partRow p).toArray, .pointer (some ⟨U, 0, none⟩)] w (Ret (.bool (badP p)) w) := by
  simp only [partRow]
  have hUs : U < w.heap.size := lt_of_cell hU
  have hU2 : ∀ w2, Below w.heap.size w w2 → w2.cell? ⟨U, 0, none⟩ = some (.func (.func 149) #[] #[]) := fun w2 h => old_cell h hU
  have HU2 := Lib.hid hU2
  clear hU2
  cases hh : badN p.h with
  | true =>
    have HP := Lib.hid (show badP p = true from by simp [badP, hh])
    have HH := Lib.hid hh; clear hh
    go_enter Try.func150, Try.ntmps150
    go_wp2_with fail
    refine (right1_any _ _).mono ?_
    rintro e w2 ⟨rfl, hB2⟩
    rw [HH.out]
    go_wp2_with fail
    go_ret
    exact ⟨by rw [HP.out]; rfl, below_of_new hB2⟩
  | false =>
    have HP := Lib.hid (show badP p = badN p.v from by simp [badP, hh])
    have HH := Lib.hid hh; clear hh
    go_enter Try.func150, Try.ntmps150
    go_wp2_with fail
    refine (right1_any _ _).mono ?_
    rintro e w2 ⟨rfl, hB2⟩
    rw [HH.out]
    have hB := below_of_new hB2
    have hU2 := HU2.out w2 hB
    have hc1 : w2.cell? ⟨w.heap.size, 1, none⟩ = some (.int .i64 p.v) := new_cell hB2 1 rfl
    clear hB2 hU
    go_wp2_with fail
    refine (right1_any _ _).mono ?_
    rintro e w3 ⟨rfl, hB3⟩
    clear hc1 hU2
    go_wp2_with fail
    go_ret
    exact ⟨by rw [HP.out]; simp, hB.trans (hB3.mono hB.size)⟩
/-- The error of a frame's numbers. -/
def rightErr (W H : Int) (ps : List Part) : Int :=
  if W < 1 ∨ H < 1 ∨ ps.length = 0 ∨ ps.any badP = true then 7 else if 16384 < W ∨ 16384 < H then 11 else if 4 < ps.length then 12 else 0
set_option maxHeartbeats 2000000 in
theorem right_any {w : World} {v : Value} {ps : List Part} (W H : Int) (hR : RdL w 2 v (ps.map partRow)) : Calls Try.prog 137 #[.int .i64 W, .int .i64 H, v] w (Ret (.int .i64 (rightErr W H ps)) w) := by
  have hU : ∀ w', w'.cell? ⟨w.heap.size, 0, none⟩ = some (.func (.func 149) #[] #[]) → Below w.heap.size w w' → Calls Try.prog 151 #[v, .func (.func 150) #[] #[.pointer (some ⟨w.heap.size, 0, none⟩)]] w' (Ret (.bool (ps.any badP)) w') := fun w' hc hB => by
    have := containsFunc_Part (hR.below hB) 150 #[.pointer (some ⟨w.heap.size, 0, none⟩)] (enters_of Try.func150 (by kernel_rfl) rfl) (fun i => ((ps[i]?).map badP).getD false) (fun i x hx w2 hw2 => by
      rw [List.getElem?_map] at hx
      obtain ⟨p, hp, rfl⟩ := Option.map_eq_some_iff.1 hx
      have := right2_any w2 w.heap.size p (old_cell hw2 hc)
      simpa [hp] using this)
    have ha : ((List.range ps.length).any fun i => ((ps[i]?).map badP).getD false) = ps.any badP := by
      rw [Bool.eq_iff_iff, List.any_eq_true, List.any_eq_true]
      constructor
      · rintro ⟨i, hi, h⟩
        have hi := List.mem_range.1 hi
        exact ⟨ps[i], List.getElem_mem hi, by simpa [List.getElem?_eq_getElem hi] using h⟩
      · rintro ⟨x, hx, h⟩
        obtain ⟨i, hi, rfl⟩ := List.mem_iff_getElem.1 hx
        exact ⟨i, List.mem_range.2 hi, by simpa [List.getElem?_eq_getElem hi] using h⟩
    rw [List.length_map, ha] at this
    exact this
  have HU := Lib.hid hU; clear hU
  obtain ⟨⟨p, cap, rfl, hcap, hcm, hx⟩, hk, ho⟩ := hR
  rw [List.length_map] at hcap hcm HU ⊢
  have hm : ps.length ≤ 140737488355328 := hcm.2
  clear hx hk ho hcm hcap
  obtain ⟨n, hn⟩ : ∃ n, n = ps.length := ⟨_, rfl⟩
  have HS := Lib.hid (show rightErr W H ps = if W < 1 ∨ H < 1 ∨ n = 0 ∨ ps.any badP = true then 7 else if 16384 < W ∨ 16384 < H then 11 else if 4 < n then 12 else 0 from by rw [hn]; rfl)
  rw [← hn] at HU hm ⊢
  clear hn
  by_cases h1 : W < 1
  · have HF := Lib.hid (show rightErr W H ps = 7 from by rw [HS.out]; simp [h1])
    clear HS
    go_enter Try.func137, Try.ntmps137
    go_wp2_with fail
    go_ret
    exact ⟨ret_int HF.out.symm, below_new _⟩
  by_cases h2 : H < 1
  · have HF := Lib.hid (show rightErr W H ps = 7 from by rw [HS.out]; simp [h2])
    clear HS
    go_enter Try.func137, Try.ntmps137
    go_wp2_with fail
    go_ret
    exact ⟨ret_int HF.out.symm, below_new _⟩
  by_cases h3 : n = 0
  · have HF := Lib.hid (show rightErr W H ps = 7 from by rw [HS.out]; simp [h3])
    subst h3
    clear HS
    go_enter Try.func137, Try.ntmps137
    go_wp2_with fail
    go_ret
    exact ⟨ret_int HF.out.symm, below_new _⟩
  have hb3 : ((n : Int) == 0) = false := by rw [beq_eq_false_iff_ne]; omega
  cases hb : ps.any badP with
  | true =>
    have HF := Lib.hid (show rightErr W H ps = 7 from by rw [HS.out]; simp [hb])
    rw [hb] at HU
    clear HS hb
    go_enter Try.func137, Try.ntmps137
    go_wp2_with fail
    refine (HU.out _ (new_cell (Below.refl _ _) 0 rfl) (below_new _)).mono ?_
    rintro e w2 ⟨rfl, hB2⟩
    go_wp2_with fail
    go_ret
    exact ⟨ret_int HF.out.symm, below_of_new hB2⟩
  | false =>
    rw [hb] at HU
    by_cases h4 : 16384 < W
    · have HF := Lib.hid (show rightErr W H ps = 11 from by rw [HS.out]; simp [h1, h2, h3, hb, h4])
      clear HS hb
      go_enter Try.func137, Try.ntmps137
      go_wp2_with fail
      refine (HU.out _ (new_cell (Below.refl _ _) 0 rfl) (below_new _)).mono ?_
      rintro e w2 ⟨rfl, hB2⟩
      go_wp2_with fail
      go_ret
      exact ⟨ret_int HF.out.symm, below_of_new hB2⟩
    by_cases h5 : 16384 < H
    · have HF := Lib.hid (show rightErr W H ps = 11 from by rw [HS.out]; simp [h1, h2, h3, hb, h5])
      clear HS hb
      go_enter Try.func137, Try.ntmps137
      go_wp2_with fail
      refine (HU.out _ (new_cell (Below.refl _ _) 0 rfl) (below_new _)).mono ?_
      rintro e w2 ⟨rfl, hB2⟩
      go_wp2_with fail
      go_ret
      exact ⟨ret_int HF.out.symm, below_of_new hB2⟩
    by_cases h6 : 4 < n
    · have HF := Lib.hid (show rightErr W H ps = 12 from by rw [HS.out]; simp [h1, h2, h3, hb, h4, h5, h6])
      have h6' : (4 : Int) < (n : Int) := by omega
      clear HS hb
      go_enter Try.func137, Try.ntmps137
      go_wp2_with fail
      refine (HU.out _ (new_cell (Below.refl _ _) 0 rfl) (below_new _)).mono ?_
      rintro e w2 ⟨rfl, hB2⟩
      go_wp2_with fail
      go_ret
      exact ⟨ret_int HF.out.symm, below_of_new hB2⟩
    · have HF := Lib.hid (show rightErr W H ps = 0 from by rw [HS.out]; simp [h1, h2, h3, hb, h4, h5, h6])
      have h6' : (n : Int) ≤ (4 : Int) := by omega
      clear HS hb
      go_enter Try.func137, Try.ntmps137
      go_wp2_with fail
      refine (HU.out _ (new_cell (Below.refl _ _) 0 rfl) (below_new _)).mono ?_
      rintro e w2 ⟨rfl, hB2⟩
      go_wp2_with fail
      go_ret
      exact ⟨ret_int HF.out.symm, below_of_new hB2⟩
end Aq
end Go.Proofs.Ytaacpoadfdmfnaa
