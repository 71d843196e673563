/-
  What the document's Sized, Right of a plane, Ranged and comps answer.
-/
import Derived.Test.YtaacpoadfdmfnaaFew
import Derived.Test.YtaacpoadfdmfnaaPlane
import Derived.Test.YtaacpoadfdmfnaaRanged
import Derived.BigQuiet
namespace Go.Proofs.Ytaacpoadfdmfnaa
open Go Go.RowKit Go.Shelf
namespace Aq
set_option maxHeartbeats 1000000 in
theorem refSized_any (w : World) (c r : Int) : Calls Try.prog 125 #[.int .i64 c, .int .i64 r] w (fun e w' => e = .returned (.int .i64 (sizedErr c r)) ∧ w' = w) := by
  have HE := Lib.hid (show sizedErr c r = if c < 1 ∨ r < 1 then 1 else if 16384 < c ∨ 16384 / c < r then 11 else 0 from rfl)
  by_cases h1 : c < 1
  · have HV := Lib.hid (show sizedErr c r = 1 from by rw [HE.out, if_pos (.inl h1)])
    clear HE
    go_enter Try.func125, Try.ntmps125
    go_wp2_with fail
    go_ret
    exact ⟨ret_int HV.out.symm, rfl⟩
  · by_cases h2 : r < 1
    · have HV := Lib.hid (show sizedErr c r = 1 from by rw [HE.out, if_pos (.inr h2)])
      clear HE
      go_enter Try.func125, Try.ntmps125
      go_wp2_with fail
      go_ret
      exact ⟨ret_int HV.out.symm, rfl⟩
    · have hd : 16384 / c ≤ 16384 := Int.ediv_le_self _ (by omega)
      have hm : 16384 / c < r ↔ 16384 < r * c := Int.ediv_lt_iff_lt_mul (by omega)
      have hcm : r * c = c * r := Int.mul_comm _ _
      by_cases h3 : 16384 < c
      · have HV := Lib.hid (show sizedErr c r = 11 from by rw [HE.out, if_neg (by omega), if_pos (.inl h3)])
        clear HE hm
        go_enter Try.func125, Try.ntmps125
        go_wp2_with fail
        go_ret
        exact ⟨ret_int HV.out.symm, rfl⟩
      · by_cases h4 : 16384 < r
        · have HV := Lib.hid (show sizedErr c r = 11 from by rw [HE.out, if_neg (by omega), if_pos (.inr (by omega))])
          clear HE hm
          go_enter Try.func125, Try.ntmps125
          go_wp2_with fail
          go_ret
          exact ⟨ret_int HV.out.symm, rfl⟩
        · have m1 : 0 ≤ c * r := Int.mul_nonneg (by omega) (by omega)
          have m2 : c * r ≤ 16384 * 16384 := Int.mul_le_mul (by omega) (by omega) (by omega) (by omega)
          have hw : IntKind.i64.wrap (c * r) = c * r := IntWalk.i64_in _ (by omega)
          by_cases h5 : 16384 < c * r
          · have HV := Lib.hid (show sizedErr c r = 11 from by rw [HE.out, if_neg (by omega), if_pos (.inr (hm.2 (by omega)))])
            clear HE hm hcm hd
            go_enter Try.func125, Try.ntmps125
            go_wp2_with fail
            go_ret
            exact ⟨ret_int HV.out.symm, rfl⟩
          · have HV := Lib.hid (show sizedErr c r = 0 from by
              have : ¬ 16384 / c < r := fun h => by have := hm.1 h; omega
              rw [HE.out, if_neg (by omega), if_neg (by omega)])
            clear HE hm hcm hd
            go_enter Try.func125, Try.ntmps125
            go_wp2_with fail
            go_ret
            exact ⟨ret_int HV.out.symm, rfl⟩
set_option maxHeartbeats 1000000 in
theorem refPlRight_any (w : World) (c r : Int) (p : Option Addr) (n cap : Nat) : Calls Try.prog 66 #[.agg #[.int .i64 c, .int .i64 r, .slice p n cap]] w (Ret (.bool (planeB c r n)) w) := by
  by_cases h : sizedErr c r = 0
  · obtain ⟨h1, h2, h3, h4, h5⟩ := sized_zero h
    have m1 : 0 ≤ c * r := Int.mul_nonneg (by omega) (by omega)
    have HV := Lib.hid (show planeB c r n = decide ((n : Int) = c * r) from by unfold planeB; simp [h])
    have hb : (sizedErr c r == 0) = true := by simp [h]
    have HS := Lib.hid (fun w => refSized_any w c r)
    have hw : IntKind.i64.wrap (c * r) = c * r := IntWalk.i64_in _ (by omega)
    clear h
    go_enter Try.func66, Try.ntmps66
    go_wp2_with (go_at_call 125; refine (HS.out _).mono ?_; rintro e w3 ⟨rfl, rfl⟩)
    all_goals
      go_ret
      exact ⟨by rw [HV.out]; first | rfl | simp_all, (Below.refl _ _).alloc (Nat.le_refl _) _⟩
  · have HV := Lib.hid (show planeB c r n = false from by unfold planeB; simp [h])
    have hb : (sizedErr c r == 0) = false := by simp [h]
    have HS := Lib.hid (fun w => refSized_any w c r)
    clear h
    go_enter Try.func66, Try.ntmps66
    go_wp2_with (go_at_call 125; refine (HS.out _).mono ?_; rintro e w3 ⟨rfl, rfl⟩)
    go_ret
    exact ⟨by rw [HV.out]; rfl, (Below.refl _ _).alloc (Nat.le_refl _) _⟩
theorem ranged_first {b : List Int} (h : b.getD 0 0 < -1024 ∨ 1023 < b.getD 0 0) : rangedB b = false := by
  unfold rangedB
  rcases h with h | h
  · have : ¬ (-1024 ≤ b.getD 0 0) := by omega
    rw [decide_eq_false this]
    rfl
  · have : ¬ (b.getD 0 0 < 1024) := by omega
    rw [decide_eq_false this, Bool.and_false]
    rfl
theorem ranged_at {b : List Int} {j : Nat} (h1 : 1 ≤ j) (hj : j < b.length) (h : outside (b.getD j 0) = true) : rangedB b = false := by
  have : (b.drop 1).any outside = true := by
    rw [List.any_eq_true]
    refine ⟨b.getD j 0, ?_, h⟩
    rw [List.mem_iff_getElem?]
    refine ⟨j - 1, ?_⟩
    rw [List.getElem?_drop, show 1 + (j - 1) = j by omega]
    simp [List.getD_eq_getElem?_getD, List.getElem?_eq_getElem hj]
  unfold rangedB
  rw [this]
  simp
theorem ranged_none {b : List Int} (h0 : -1024 ≤ b.getD 0 0) (h1 : b.getD 0 0 ≤ 1023) (h : ∀ j, 1 ≤ j → j < b.length → outside (b.getD j 0) = false) : rangedB b = true := by
  have : (b.drop 1).any outside = false := by
    rw [List.any_eq_false]
    intro x hx
    obtain ⟨i, hi⟩ := List.mem_iff_getElem?.1 hx
    rw [List.getElem?_drop] at hi
    have hl := (List.getElem?_eq_some_iff.1 hi).1
    have := h (1 + i) (by omega) hl
    rw [List.getD_eq_getElem?_getD, hi] at this
    simpa using this
  unfold rangedB
  rw [this]
  have h2 : b.getD 0 0 < 1024 := by omega
  rw [decide_eq_true h0, decide_eq_true h2]
  rfl
set_option maxHeartbeats 1000000 in
theorem refRanged_any (w : World) (b : List Int) (hl : b.length = 64) : Calls Try.prog 67 #[.agg (blockRow b).toArray] w (Ret (.bool (rangedB b)) w) := by
  obtain ⟨w1, hw1⟩ : ∃ w1, w1 = w.alloc (.cells (blockRow b).toArray 57) := ⟨_, rfl⟩
  have hB1 : Below w.heap.size w w1 := by rw [hw1]; exact below_new _
  have HC := Lib.hid (show ∀ k, k < 64 → w1.cell? ⟨w.heap.size, k, none⟩ = some (.int .i16 (b.getD k 0)) from fun k hk => by
    rw [hw1]
    refine new_cell (Below.refl _ _) k ?_
    simp [blockRow, ints, List.getElem?_eq_getElem (show k < b.length by omega), List.getD_eq_getElem?_getD])
  have c0 := HC.out 0 (by omega)
  have hs1 : w.heap.size < w1.heap.size := by rw [hw1]; simp
  have HL := Lib.hid hl; clear hl
  by_cases h1 : b.getD 0 0 < -1024
  · have HF := Lib.hid (ranged_first (.inl h1))
    generalize b.getD 0 0 = x at *
    go_enter Try.func67, Try.ntmps67
    go_wp2_with (rw [← hw1]; clear hw1)
    go_ret
    exact ⟨by rw [HF.out]; rfl, hB1⟩
  · by_cases h2 : 1023 < b.getD 0 0
    · have HF := Lib.hid (ranged_first (.inr h2))
      generalize b.getD 0 0 = x at *
      go_enter Try.func67, Try.ntmps67
      go_wp2_with (rw [← hw1]; clear hw1)
      go_ret
      exact ⟨by rw [HF.out]; rfl, hB1⟩
    · have HT := Lib.hid (ranged_none (b := b) (by omega) (by omega))
      generalize b.getD 0 0 = x at *
      go_enter Try.func67, Try.ntmps67
      go_wp2_with (rw [← hw1]; clear hw1)
      go_loopw [3] (fun i wr => ∃ k : Nat, 1 ≤ k ∧ k ≤ 64 ∧ i = .int .i64 k ∧ w1 = wr ∧ Hid (∀ j, 1 ≤ j → j < k → outside (b.getD j 0) = false)) (fun i wr => 64 - (intOf i).toNat)
      case atStart => exact ⟨1, by omega, by omega, rfl, rfl, fun j h1 h2 => by omega⟩
      case round =>
        obtain ⟨k, hk1, hk2, rfl, hw, hO⟩ := hrel
        subst hw
        by_cases hlt : k < 64
        · have ck := HC.out k hlt
          obtain ⟨y, hy⟩ : ∃ y, y = b.getD k 0 := ⟨_, rfl⟩
          rw [← hy] at ck
          by_cases hlo : y < -1023
          · have HF := Lib.hid (ranged_at hk1 (by rw [HL.out]; exact hlt) (show outside (b.getD k 0) = true from by rw [← hy]; simp [outside, hlo]))
            clear hy
            go_wp2_with fail
            go_ret
            exact ⟨by rw [HF.out]; rfl, hB1⟩
          · by_cases hhi : 1023 < y
            · have HF := Lib.hid (ranged_at hk1 (by rw [HL.out]; exact hlt) (show outside (b.getD k 0) = true from by rw [← hy]; simp [outside, hhi]))
              clear hy
              go_wp2_with fail
              go_ret
              exact ⟨by rw [HF.out]; rfl, hB1⟩
            · have HK := Lib.hid (show outside (b.getD k 0) = false from by rw [← hy]; simp [outside, hlo, hhi])
              clear hy
              go_wp2_with fail
              go_roundw
              case rel => exact ⟨k + 1, by omega, by omega, by go_num, by first | rfl | trivial, fun j h1 h2 => by
                rcases Nat.lt_succ_iff_lt_or_eq.1 h2 with h | h
                · exact hO.out j h1 h
                · subst h; exact HK.out⟩
              case measure => simp [intOf]; omega
        · obtain rfl : k = 64 := by omega
          have HF := Lib.hid (HT.out (fun j h1 h2 => hO.out j h1 (by rw [HL.out] at h2; exact h2)))
          go_wp2_with fail
          go_ret
          exact ⟨by rw [HF.out]; rfl, hB1⟩
end Aq
end Go.Proofs.Ytaacpoadfdmfnaa
