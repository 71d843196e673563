/-
  What slices.Equal answers over rows: whether they are as many, and alike row by row.
-/
import Derived.Test.YtaacpoadfdmfnaaTypes
import Derived.Test.YtaacpoadfdmfnaaRowsEq
import Derived.Test.YtaacpoadfdmfnaaCalm
namespace Go.Proofs.Ytaacpoadfdmfnaa
open Go Go.RowKit
namespace Aq

theorem eqg_Quant : Try.prog.eqGuardType Try.prog.depth 39 = false := by kernel_rfl
set_option maxHeartbeats 400000 in
theorem equal_Quant {w : World} {v1 v2 : Value} {r1 r2 : List (List Value)} (hR1 : RdL w 65 v1 r1) (hR2 : RdL w 65 v2 r2) (E : Nat → Bool)
    (hE : ∀ i x y, r1[i]? = some x → r2[i]? = some y → ∀ w', (binOp .neq 39 (.agg x.toArray) (.agg y.toArray)).run Try.prog w' = .ok (.bool (!(E i))) w') :
    Calls Try.prog 80 #[v1, v2] w (Ret (.bool (r1.length == r2.length && (List.range r1.length).all E)) w) := by
  obtain ⟨⟨p1, cap1, rfl, hcap1, hcm1, hx1⟩, hk1, ho1⟩ := hR1
  obtain ⟨⟨p2, cap2, rfl, hcap2, hcm2, hx2⟩, hk2, ho2⟩ := hR2
  have hn1 : r1.length ≤ 140737488355328 := by omega
  have hn2 : r2.length ≤ 140737488355328 := by omega
  clear hcap1 hcm1 hcap2 hcm2 ho1 ho2
  obtain ⟨n1, hN1⟩ : ∃ n, n = r1.length := ⟨_, rfl⟩
  obtain ⟨n2, hN2⟩ : ∃ n, n = r2.length := ⟨_, rfl⟩
  rw [← hN1] at hn1 ⊢
  rw [← hN2] at hn2 ⊢
  have HE := Lib.hid hE; clear hE
  have HX1 := Lib.hid hx1; clear hx1
  have HX2 := Lib.hid hx2; clear hx2
  have HK1 := Lib.hid hk1; clear hk1
  have HK2 := Lib.hid hk2; clear hk2
  by_cases hne : n1 = n2
  · subst hne
    have HN1 := Lib.hid hN1; clear hN1
    have HN2 := Lib.hid hN2; clear hN2
    have hb0 : ((n1 : Int) != (n1 : Int)) = false := by simp
    go_enter Try.func80, Try.ntmps80
    go_wp2_with fail
    go_loopw [5, 13] (fun _ i wr => ∃ k : Nat, k ≤ n1 ∧ i = .int .i64 k ∧ Below w.heap.size w wr ∧ Hid (∀ j, j < k → E j = true)) (fun _ i wr => n1 - (intOf i).toNat)
    case atStart => exact ⟨0, by omega, rfl, Below.refl _ _, fun j hj => absurd hj (Nat.not_lt_zero _)⟩
    case round =>
      obtain ⟨k, hkn, rfl, hB, hEk⟩ := hrel
      by_cases hlt : k < n1
      · obtain ⟨x, hxk⟩ : ∃ x, r1[k]? = some x := ⟨_, List.getElem?_eq_getElem (by rw [← HN1.out]; exact hlt)⟩
        obtain ⟨y, hyk⟩ : ∃ y, r2[k]? = some y := ⟨_, List.getElem?_eq_getElem (by rw [← HN2.out]; exact hlt)⟩
        have hm1 : x ∈ r1 := List.mem_of_getElem? hxk
        have hm2 : y ∈ r2 := List.mem_of_getElem? hyk
        obtain ⟨b1, o1, rfl, hx1⟩ := HX1.out (fun h => by rw [h] at hm1; exact absurd hm1 (List.not_mem_nil))
        obtain ⟨b2, o2, rfl, hx2⟩ := HX2.out (fun h => by rw [h] at hm2; exact absurd hm2 (List.not_mem_nil))
        have hr1 : wr.rangeAt b1 (o1 + k * 65) x := rangeAt_below hB (hx1 k x hxk)
        have hr2 : wr.rangeAt b2 (o2 + k * 65) y := rangeAt_below hB (hx2 k y hyk)
        have hs1 : (Try.prog.info? 39).map (·.size) = some x.length := by rw [HK1.out x hm1]; exact size_Quant
        have hs2 : (Try.prog.info? 39).map (·.size) = some y.length := by rw [HK2.out y hm2]; exact size_Quant
        have hu := Try.underlying39
        have hq := HE.out k x y hxk hyk
        have hklo : (0 : Int) ≤ (k : Int) := by omega
        have hkhi : (k : Int) < (n1 : Int) := by omega
        clear hx1 hx2 hm1 hm2 hxk hyk
        go_wp2_with fail
        have hg := eqg_Quant
        refine wp_region_calm (by kernel_rfl) (by kernel_rfl) ?_
        repeat ((first | (refine calm_load_mid rfl 39 _ rfl b1 (o1 + k * 65) rfl x _ hr1 hu rfl hs1 ?_) | (refine calm_load_mid rfl 39 _ rfl b2 (o2 + k * 65) rfl y _ hr2 hu rfl hs2 ?_) | (refine calm_neq_agg rfl 39 _ _ _ rfl _ _ rfl rfl _ hg (fun w' _ => hq w') ?_) | (refine calm_ex rfl ?_; apply Exists.intro; refine ⟨fun w' hC => ?_, ?_⟩; (focus (go_simp; with_reducible rfl)))); (try simp only [Act.put, List.setIfInBounds_toArray, List.set_cons_zero, List.set_cons_succ]))
        refine wpQuiet_nil ?_
        intro w2 hB2
        have hB3 : Below w.heap.size w w2 := hB.trans (hB2.mono hB.size)
        clear hB hB2 hr1 hr2 hs1 hs2 hu hq hg hklo hkhi
        cases hz : E k with
        | true =>
          have HZ := Lib.hid hz; clear hz
          go_wp2_with fail
          go_roundw
          case rel => exact ⟨k + 1, by omega, by go_num, hB3, fun j hj => by rcases Nat.lt_succ_iff_lt_or_eq.1 hj with h | h; exact hEk.out j h; subst h; exact HZ.out⟩
          case measure => simp [intOf]; omega
        | false =>
          have hfin : (n1 == n1 && (List.range n1).all E) = false := by
            have : (List.range n1).all E = false := List.all_eq_false.2 ⟨k, List.mem_range.2 hlt, by simp [hz]⟩
            simp [this]
          have HF := Lib.hid hfin; clear hfin hz
          go_wp2_with fail
          go_ret
          exact ⟨by rw [HF.out]; rfl, hB3⟩
      · obtain rfl : k = n1 := by omega
        have hfin : (k == k && (List.range k).all E) = true := by
          have : (List.range k).all E = true := List.all_eq_true.2 (fun j hj => hEk.out j (List.mem_range.1 hj))
          simp [this]
        have HF := Lib.hid hfin; clear hfin
        go_wp2_with fail
        go_ret
        exact ⟨by rw [HF.out]; rfl, hB⟩
  · have hlen : (n1 == n2) = false := by simpa using hne
    have hb0 : ((n1 : Int) != (n2 : Int)) = true := by simp; omega
    have HL := Lib.hid hlen; clear hlen hne hN1 hN2
    go_enter Try.func80, Try.ntmps80
    go_wp2_with fail
    go_ret
    exact ⟨by rw [HL.out]; rfl, Below.refl _ _⟩

theorem eqg_Tag : Try.prog.eqGuardType Try.prog.depth 104 = false := by kernel_rfl
set_option maxHeartbeats 400000 in
theorem equal_Tag {w : World} {v1 v2 : Value} {r1 r2 : List (List Value)} (hR1 : RdL w 2 v1 r1) (hR2 : RdL w 2 v2 r2) (E : Nat → Bool)
    (hE : ∀ i x y, r1[i]? = some x → r2[i]? = some y → ∀ w', (binOp .neq 104 (.agg x.toArray) (.agg y.toArray)).run Try.prog w' = .ok (.bool (!(E i))) w') :
    Calls Try.prog 81 #[v1, v2] w (Ret (.bool (r1.length == r2.length && (List.range r1.length).all E)) w) := by
  obtain ⟨⟨p1, cap1, rfl, hcap1, hcm1, hx1⟩, hk1, ho1⟩ := hR1
  obtain ⟨⟨p2, cap2, rfl, hcap2, hcm2, hx2⟩, hk2, ho2⟩ := hR2
  have hn1 : r1.length ≤ 140737488355328 := by omega
  have hn2 : r2.length ≤ 140737488355328 := by omega
  clear hcap1 hcm1 hcap2 hcm2 ho1 ho2
  obtain ⟨n1, hN1⟩ : ∃ n, n = r1.length := ⟨_, rfl⟩
  obtain ⟨n2, hN2⟩ : ∃ n, n = r2.length := ⟨_, rfl⟩
  rw [← hN1] at hn1 ⊢
  rw [← hN2] at hn2 ⊢
  have HE := Lib.hid hE; clear hE
  have HX1 := Lib.hid hx1; clear hx1
  have HX2 := Lib.hid hx2; clear hx2
  have HK1 := Lib.hid hk1; clear hk1
  have HK2 := Lib.hid hk2; clear hk2
  by_cases hne : n1 = n2
  · subst hne
    have HN1 := Lib.hid hN1; clear hN1
    have HN2 := Lib.hid hN2; clear hN2
    have hb0 : ((n1 : Int) != (n1 : Int)) = false := by simp
    go_enter Try.func81, Try.ntmps81
    go_wp2_with fail
    go_loopw [5, 13] (fun _ i wr => ∃ k : Nat, k ≤ n1 ∧ i = .int .i64 k ∧ Below w.heap.size w wr ∧ Hid (∀ j, j < k → E j = true)) (fun _ i wr => n1 - (intOf i).toNat)
    case atStart => exact ⟨0, by omega, rfl, Below.refl _ _, fun j hj => absurd hj (Nat.not_lt_zero _)⟩
    case round =>
      obtain ⟨k, hkn, rfl, hB, hEk⟩ := hrel
      by_cases hlt : k < n1
      · obtain ⟨x, hxk⟩ : ∃ x, r1[k]? = some x := ⟨_, List.getElem?_eq_getElem (by rw [← HN1.out]; exact hlt)⟩
        obtain ⟨y, hyk⟩ : ∃ y, r2[k]? = some y := ⟨_, List.getElem?_eq_getElem (by rw [← HN2.out]; exact hlt)⟩
        have hm1 : x ∈ r1 := List.mem_of_getElem? hxk
        have hm2 : y ∈ r2 := List.mem_of_getElem? hyk
        obtain ⟨b1, o1, rfl, hx1⟩ := HX1.out (fun h => by rw [h] at hm1; exact absurd hm1 (List.not_mem_nil))
        obtain ⟨b2, o2, rfl, hx2⟩ := HX2.out (fun h => by rw [h] at hm2; exact absurd hm2 (List.not_mem_nil))
        have hr1 : wr.rangeAt b1 (o1 + k * 2) x := rangeAt_below hB (hx1 k x hxk)
        have hr2 : wr.rangeAt b2 (o2 + k * 2) y := rangeAt_below hB (hx2 k y hyk)
        have hs1 : (Try.prog.info? 104).map (·.size) = some x.length := by rw [HK1.out x hm1]; exact size_Tag
        have hs2 : (Try.prog.info? 104).map (·.size) = some y.length := by rw [HK2.out y hm2]; exact size_Tag
        have hu := Try.underlying104
        have hq := HE.out k x y hxk hyk
        have hklo : (0 : Int) ≤ (k : Int) := by omega
        have hkhi : (k : Int) < (n1 : Int) := by omega
        clear hx1 hx2 hm1 hm2 hxk hyk
        go_wp2_with fail
        have hg := eqg_Tag
        refine wp_region_calm (by kernel_rfl) (by kernel_rfl) ?_
        repeat ((first | (refine calm_load_mid rfl 104 _ rfl b1 (o1 + k * 2) rfl x _ hr1 hu rfl hs1 ?_) | (refine calm_load_mid rfl 104 _ rfl b2 (o2 + k * 2) rfl y _ hr2 hu rfl hs2 ?_) | (refine calm_neq_agg rfl 104 _ _ _ rfl _ _ rfl rfl _ hg (fun w' _ => hq w') ?_) | (refine calm_ex rfl ?_; apply Exists.intro; refine ⟨fun w' hC => ?_, ?_⟩; (focus (go_simp; with_reducible rfl)))); (try simp only [Act.put, List.setIfInBounds_toArray, List.set_cons_zero, List.set_cons_succ]))
        refine wpQuiet_nil ?_
        intro w2 hB2
        have hB3 : Below w.heap.size w w2 := hB.trans (hB2.mono hB.size)
        clear hB hB2 hr1 hr2 hs1 hs2 hu hq hg hklo hkhi
        cases hz : E k with
        | true =>
          have HZ := Lib.hid hz; clear hz
          go_wp2_with fail
          go_roundw
          case rel => exact ⟨k + 1, by omega, by go_num, hB3, fun j hj => by rcases Nat.lt_succ_iff_lt_or_eq.1 hj with h | h; exact hEk.out j h; subst h; exact HZ.out⟩
          case measure => simp [intOf]; omega
        | false =>
          have hfin : (n1 == n1 && (List.range n1).all E) = false := by
            have : (List.range n1).all E = false := List.all_eq_false.2 ⟨k, List.mem_range.2 hlt, by simp [hz]⟩
            simp [this]
          have HF := Lib.hid hfin; clear hfin hz
          go_wp2_with fail
          go_ret
          exact ⟨by rw [HF.out]; rfl, hB3⟩
      · obtain rfl : k = n1 := by omega
        have hfin : (k == k && (List.range k).all E) = true := by
          have : (List.range k).all E = true := List.all_eq_true.2 (fun j hj => hEk.out j (List.mem_range.1 hj))
          simp [this]
        have HF := Lib.hid hfin; clear hfin
        go_wp2_with fail
        go_ret
        exact ⟨by rw [HF.out]; rfl, hB⟩
  · have hlen : (n1 == n2) = false := by simpa using hne
    have hb0 : ((n1 : Int) != (n2 : Int)) = true := by simp; omega
    have HL := Lib.hid hlen; clear hlen hne hN1 hN2
    go_enter Try.func81, Try.ntmps81
    go_wp2_with fail
    go_ret
    exact ⟨by rw [HL.out]; rfl, Below.refl _ _⟩

theorem eqg_Block : Try.prog.eqGuardType Try.prog.depth 57 = false := by kernel_rfl
set_option maxHeartbeats 400000 in
theorem equal_Block {w : World} {v1 v2 : Value} {r1 r2 : List (List Value)} (hR1 : RdL w 64 v1 r1) (hR2 : RdL w 64 v2 r2) (E : Nat → Bool)
    (hE : ∀ i x y, r1[i]? = some x → r2[i]? = some y → ∀ w', (binOp .neq 57 (.agg x.toArray) (.agg y.toArray)).run Try.prog w' = .ok (.bool (!(E i))) w') :
    Calls Try.prog 144 #[v1, v2] w (Ret (.bool (r1.length == r2.length && (List.range r1.length).all E)) w) := by
  obtain ⟨⟨p1, cap1, rfl, hcap1, hcm1, hx1⟩, hk1, ho1⟩ := hR1
  obtain ⟨⟨p2, cap2, rfl, hcap2, hcm2, hx2⟩, hk2, ho2⟩ := hR2
  have hn1 : r1.length ≤ 140737488355328 := by omega
  have hn2 : r2.length ≤ 140737488355328 := by omega
  clear hcap1 hcm1 hcap2 hcm2 ho1 ho2
  obtain ⟨n1, hN1⟩ : ∃ n, n = r1.length := ⟨_, rfl⟩
  obtain ⟨n2, hN2⟩ : ∃ n, n = r2.length := ⟨_, rfl⟩
  rw [← hN1] at hn1 ⊢
  rw [← hN2] at hn2 ⊢
  have HE := Lib.hid hE; clear hE
  have HX1 := Lib.hid hx1; clear hx1
  have HX2 := Lib.hid hx2; clear hx2
  have HK1 := Lib.hid hk1; clear hk1
  have HK2 := Lib.hid hk2; clear hk2
  by_cases hne : n1 = n2
  · subst hne
    have HN1 := Lib.hid hN1; clear hN1
    have HN2 := Lib.hid hN2; clear hN2
    have hb0 : ((n1 : Int) != (n1 : Int)) = false := by simp
    go_enter Try.func144, Try.ntmps144
    go_wp2_with fail
    go_loopw [5, 13] (fun _ i wr => ∃ k : Nat, k ≤ n1 ∧ i = .int .i64 k ∧ Below w.heap.size w wr ∧ Hid (∀ j, j < k → E j = true)) (fun _ i wr => n1 - (intOf i).toNat)
    case atStart => exact ⟨0, by omega, rfl, Below.refl _ _, fun j hj => absurd hj (Nat.not_lt_zero _)⟩
    case round =>
      obtain ⟨k, hkn, rfl, hB, hEk⟩ := hrel
      by_cases hlt : k < n1
      · obtain ⟨x, hxk⟩ : ∃ x, r1[k]? = some x := ⟨_, List.getElem?_eq_getElem (by rw [← HN1.out]; exact hlt)⟩
        obtain ⟨y, hyk⟩ : ∃ y, r2[k]? = some y := ⟨_, List.getElem?_eq_getElem (by rw [← HN2.out]; exact hlt)⟩
        have hm1 : x ∈ r1 := List.mem_of_getElem? hxk
        have hm2 : y ∈ r2 := List.mem_of_getElem? hyk
        obtain ⟨b1, o1, rfl, hx1⟩ := HX1.out (fun h => by rw [h] at hm1; exact absurd hm1 (List.not_mem_nil))
        obtain ⟨b2, o2, rfl, hx2⟩ := HX2.out (fun h => by rw [h] at hm2; exact absurd hm2 (List.not_mem_nil))
        have hr1 : wr.rangeAt b1 (o1 + k * 64) x := rangeAt_below hB (hx1 k x hxk)
        have hr2 : wr.rangeAt b2 (o2 + k * 64) y := rangeAt_below hB (hx2 k y hyk)
        have hs1 : (Try.prog.info? 57).map (·.size) = some x.length := by rw [HK1.out x hm1]; exact size_Block
        have hs2 : (Try.prog.info? 57).map (·.size) = some y.length := by rw [HK2.out y hm2]; exact size_Block
        have hu := Try.underlying57
        have hq := HE.out k x y hxk hyk
        have hklo : (0 : Int) ≤ (k : Int) := by omega
        have hkhi : (k : Int) < (n1 : Int) := by omega
        clear hx1 hx2 hm1 hm2 hxk hyk
        go_wp2_with fail
        have hg := eqg_Block
        refine wp_region_calm (by kernel_rfl) (by kernel_rfl) ?_
        repeat ((first | (refine calm_load_mid rfl 57 _ rfl b1 (o1 + k * 64) rfl x _ hr1 hu rfl hs1 ?_) | (refine calm_load_mid rfl 57 _ rfl b2 (o2 + k * 64) rfl y _ hr2 hu rfl hs2 ?_) | (refine calm_neq_agg rfl 57 _ _ _ rfl _ _ rfl rfl _ hg (fun w' _ => hq w') ?_) | (refine calm_ex rfl ?_; apply Exists.intro; refine ⟨fun w' hC => ?_, ?_⟩; (focus (go_simp; with_reducible rfl)))); (try simp only [Act.put, List.setIfInBounds_toArray, List.set_cons_zero, List.set_cons_succ]))
        refine wpQuiet_nil ?_
        intro w2 hB2
        have hB3 : Below w.heap.size w w2 := hB.trans (hB2.mono hB.size)
        clear hB hB2 hr1 hr2 hs1 hs2 hu hq hg hklo hkhi
        cases hz : E k with
        | true =>
          have HZ := Lib.hid hz; clear hz
          go_wp2_with fail
          go_roundw
          case rel => exact ⟨k + 1, by omega, by go_num, hB3, fun j hj => by rcases Nat.lt_succ_iff_lt_or_eq.1 hj with h | h; exact hEk.out j h; subst h; exact HZ.out⟩
          case measure => simp [intOf]; omega
        | false =>
          have hfin : (n1 == n1 && (List.range n1).all E) = false := by
            have : (List.range n1).all E = false := List.all_eq_false.2 ⟨k, List.mem_range.2 hlt, by simp [hz]⟩
            simp [this]
          have HF := Lib.hid hfin; clear hfin hz
          go_wp2_with fail
          go_ret
          exact ⟨by rw [HF.out]; rfl, hB3⟩
      · obtain rfl : k = n1 := by omega
        have hfin : (k == k && (List.range k).all E) = true := by
          have : (List.range k).all E = true := List.all_eq_true.2 (fun j hj => hEk.out j (List.mem_range.1 hj))
          simp [this]
        have HF := Lib.hid hfin; clear hfin
        go_wp2_with fail
        go_ret
        exact ⟨by rw [HF.out]; rfl, hB⟩
  · have hlen : (n1 == n2) = false := by simpa using hne
    have hb0 : ((n1 : Int) != (n2 : Int)) = true := by simp; omega
    have HL := Lib.hid hlen; clear hlen hne hN1 hN2
    go_enter Try.func144, Try.ntmps144
    go_wp2_with fail
    go_ret
    exact ⟨by rw [HL.out]; rfl, Below.refl _ _⟩

end Aq
end Go.Proofs.Ytaacpoadfdmfnaa
