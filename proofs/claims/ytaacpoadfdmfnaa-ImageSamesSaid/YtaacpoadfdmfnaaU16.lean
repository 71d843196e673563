/-
  What slices.Contains answers over numbers of 16 bits.
-/
import Derived.Test.YtaacpoadfdmfnaaModel
import Derived.Test.YtaacpoadfdmfnaaTypes
namespace Go.Proofs.Ytaacpoadfdmfnaa
open Go Go.RowKit
namespace Aq
set_option maxHeartbeats 1000000 in
theorem index_u16 {w : World} {v : Value} {q : List Int} (n0 : Int) (hR : RdL w 1 v (q.map fun n => [.int .u16 n])) :
    Calls Try.prog 141 #[v, .int .u16 n0] w (Ret (.int .i64 (firstI q.length fun i => n0 == q.getD i 0)) w) := by
  obtain ⟨⟨p, cap, rfl, hcap, hcm, hx⟩, hk, ho⟩ := hR
  rw [List.length_map] at hcap hcm ⊢
  have hn : q.length ≤ 140737488355328 := by omega
  clear hcap hcm ho hk
  obtain ⟨n, hN⟩ : ∃ n, n = q.length := ⟨_, rfl⟩
  rw [← hN] at hn ⊢
  have HN := Lib.hid hN; clear hN
  have HX := Lib.hid hx; clear hx
  go_enter Try.func141, Try.ntmps141
  go_wp2_with fail
  go_loopw [5, 8] (fun _ i wr => ∃ k : Nat, k ≤ n ∧ i = .int .i64 k ∧ Below w.heap.size w wr ∧ Hid (∀ j, j < k → (n0 == q.getD j 0) = false)) (fun _ i wr => n - (intOf i).toNat)
  case atStart => exact ⟨0, by omega, rfl, Below.refl _ _, fun j hj => absurd hj (Nat.not_lt_zero _)⟩
  case round =>
    obtain ⟨k, hkn, rfl, hB, hE⟩ := hrel
    by_cases hlt : k < n
    · have hkq : k < q.length := by rw [← HN.out]; exact hlt
      have hqk : (q.map fun n => [Value.int .u16 n])[k]? = some [.int .u16 (q.getD k 0)] := by simp [List.getD_eq_getElem?_getD, List.getElem?_eq_getElem hkq]
      obtain ⟨b, o, rfl, hx⟩ := HX.out (fun h => by rw [h] at hqk; simp at hqk)
      have hcell : wr.cell? ⟨b, o + k, none⟩ = some (.int .u16 (q.getD k 0)) := by
        have := rangeAt_below hB (hx k _ hqk) 0 _ rfl
        simpa using this
      clear hx hqk hkq
      generalize hg : q.getD k 0 = x at *
      have HG := Lib.hid hg; clear hg
      cases hz : (n0 == x) with
      | false =>
        go_wp2_with fail
        go_roundw
        case rel => exact ⟨k + 1, by omega, by go_num, hB, fun j hj => by rcases Nat.lt_succ_iff_lt_or_eq.1 hj with h | h; exact hE.out j h; subst h; rw [HG.out]; exact hz⟩
        case measure => simp [intOf]; omega
      | true =>
        have hfin : firstI n (fun i => n0 == q.getD i 0) = k := firstI_some hlt (by show (n0 == q.getD k 0) = true; rw [HG.out]; exact hz) hE.out
        have HF := Lib.hid hfin; clear hfin
        go_wp2_with fail
        go_ret
        exact ⟨by rw [HF.out]; rfl, hB⟩
    · obtain rfl : k = n := by omega
      have hfin : firstI k (fun i => n0 == q.getD i 0) = -1 := firstI_none hE
      have HF := Lib.hid hfin; clear hfin
      go_wp2_with fail
      go_ret
      exact ⟨by rw [HF.out]; rfl, hB⟩
set_option maxHeartbeats 400000 in
theorem contains_u16 {w : World} {v : Value} {q : List Int} (n0 : Int) (hR : RdL w 1 v (q.map fun n => [.int .u16 n])) :
    Calls Try.prog 115 #[v, .int .u16 n0] w (Ret (.bool (q.any fun n => n0 == n)) w) := by
  have HI := Lib.hid (index_u16 n0 hR)
  have hr := firstI_nonneg q.length (fun i => n0 == q.getD i 0)
  have ha : ((List.range q.length).any fun i => n0 == q.getD i 0) = q.any fun n => n0 == n := by
    rw [Bool.eq_iff_iff, List.any_eq_true, List.any_eq_true]
    constructor
    · rintro ⟨i, hi, h⟩
      have hi := List.mem_range.1 hi
      exact ⟨q[i], List.getElem_mem hi, by simpa [List.getD_eq_getElem?_getD, List.getElem?_eq_getElem hi] using h⟩
    · rintro ⟨x, hx, h⟩
      obtain ⟨i, hi, rfl⟩ := List.mem_iff_getElem.1 hx
      exact ⟨i, List.mem_range.2 hi, by simpa [List.getD_eq_getElem?_getD, List.getElem?_eq_getElem hi] using h⟩
  rw [ha] at hr
  have HR := Lib.hid hr
  clear hR hr ha
  go_enter Try.func115, Try.ntmps115
  go_wp2_with fail
  refine HI.out.mono ?_
  rintro e w2 ⟨rfl, hB⟩
  go_wp2_with fail
  go_ret
  exact ⟨by rw [← HR.out]; rfl, hB⟩
end Aq
end Go.Proofs.Ytaacpoadfdmfnaa
