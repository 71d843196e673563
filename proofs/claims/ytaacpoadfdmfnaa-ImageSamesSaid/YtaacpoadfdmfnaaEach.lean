/-
  What image.each answers over rows of several cells: the first error of the items.
-/
import Derived.Test.YtaacpoadfdmfnaaTypes
import Derived.Test.YtaacpoadfdmfnaaProg
namespace Go.Proofs.Ytaacpoadfdmfnaa
open Go Go.RowKit
namespace Aq

set_option maxHeartbeats 1000000 in
theorem each_Comp {w : World} {v : Value} {rows : List (List Value)} (hR : RdL w 7 v rows) (g : Nat) (cp : Array Value)
    (eg : ∀ args w, (callFunc g args).run Try.prog w = .ok (.enter g args) w) (E : Nat → Int)
    (hc : ∀ i x, rows[i]? = some x → ∀ w', Below w.heap.size w w' → Calls Try.prog g (#[.int .i64 i, .agg x.toArray] ++ cp) w' (Ret (.int .i64 (E i)) w')) :
    Calls Try.prog 106 #[v, .func (.func g) #[] cp] w (Ret (.int .i64 (firstE rows.length E)) w) := by
  obtain ⟨⟨p, cap, rfl, hcap, hcm, hx⟩, hk, ho⟩ := hR
  have hn : rows.length ≤ 140737488355328 := by omega
  clear hcap hcm
  obtain ⟨n, hN⟩ : ∃ n, n = rows.length := ⟨_, rfl⟩
  rw [← hN] at hn ⊢
  have HN := Lib.hid hN; clear hN
  have HC := Lib.hid hc; clear hc
  have HX := Lib.hid hx; clear hx
  have HK := Lib.hid hk; clear hk
  have HO := Lib.hid ho; clear ho
  go_enter Try.func106, Try.ntmps106
  go_wp2_with fail
  go_loopw [5, 6, 7, 10] (fun _ _ _ i wr => ∃ k : Nat, k ≤ n ∧ i = .int .i64 k ∧ Below w.heap.size w wr ∧ Hid (∀ j, j < k → E j = 0)) (fun _ _ _ i wr => n - (intOf i).toNat)
  case atStart => exact ⟨0, by omega, rfl, Below.refl _ _, fun j hj => absurd hj (Nat.not_lt_zero _)⟩
  case round =>
    obtain ⟨k, hkn, rfl, hB, hE⟩ := hrel
    by_cases hlt : k < n
    · obtain ⟨x, hxk⟩ : ∃ x, rows[k]? = some x := ⟨_, List.getElem?_eq_getElem (by rw [← HN.out]; exact hlt)⟩
      have hmem : x ∈ rows := List.mem_of_getElem? hxk
      obtain ⟨b, o, rfl, hx⟩ := HX.out (fun h => by rw [h] at hmem; exact absurd hmem (List.not_mem_nil))
      have hr0 : wr.rangeAt b (o + k * 7) x := rangeAt_below hB (hx k x hxk)
      clear hx
      have hr := Lib.hid hr0; clear hr0
      have hlen : x.length = 7 := HK.out x hmem
      have hz : x.toArray.size = 7 := by rw [List.size_toArray]; exact hlen
      have H1 := Lib.hid (show (Try.prog.info? 63).map (·.size) = some x.length from by rw [hlen]; exact size_Comp)
      have H2 := Lib.hid (show (Try.prog.info? 63).map (·.size) = some x.toArray.size from by rw [hz]; exact size_Comp)
      have H3 := Lib.hid (show 7 = x.toArray.size from hz.symm)
      have H4 := Lib.hid (show x.toArray.all (·.oneCell') = true from by simpa using HO.out x hmem)
      have HCA := Lib.hid (fun w' hw' => HC.out k x hxk w' hw')
      clear hmem hlen hz
      have HXK := Lib.hid hxk; clear hxk
      go_wp2_with (first | (refine wpList_load_mid rfl 63 _ rfl b (o + k * 7) rfl x _ hr.out Try.underlying63 rfl H1.out ?_) | (refine wpList_store_new rfl 63 _ _ rfl wr _ _ rfl rfl rfl H2.out H3.out H4.out ?_) | (refine wpList_load_new rfl 63 _ rfl wr _ _ rfl rfl Try.underlying63 rfl H2.out ?_))
      refine (HCA.out _ (hB.alloc hB.size _)).mono ?_
      rintro e w2 ⟨rfl, hB2⟩
      have hB3 : Below w.heap.size w w2 := (hB.alloc hB.size _).trans (hB2.mono (by have := hB.size; simp; omega))
      by_cases hz : E k = 0
      · have hb : (E k != 0) = false := by simp [hz]
        have HZ := Lib.hid hz; clear hz
        clear hB hB2
        go_wp2_with fail
        go_roundw
        case rel => exact ⟨k + 1, by omega, by go_num, hB3, fun j hj => by rcases Nat.lt_succ_iff_lt_or_eq.1 hj with h | h; exact hE.out j h; subst h; exact HZ.out⟩
        case measure => simp [intOf]; omega
      · have hb : (E k != 0) = true := by simp [hz]
        have hfin : firstE n E = E k := firstE_some hlt hz hE.out
        have HF := Lib.hid hfin; clear hfin hz
        clear hB hB2
        go_wp2_with fail
        go_ret
        exact ⟨by rw [HF.out]; rfl, hB3⟩
    · obtain rfl : k = n := by omega
      have hfin : firstE k E = 0 := firstE_none hE
      have HF := Lib.hid hfin; clear hfin
      go_wp2_with fail
      go_ret
      exact ⟨by rw [HF.out]; rfl, hB⟩

set_option maxHeartbeats 1000000 in
theorem each_Quant {w : World} {v : Value} {rows : List (List Value)} (hR : RdL w 65 v rows) (g : Nat) (cp : Array Value)
    (eg : ∀ args w, (callFunc g args).run Try.prog w = .ok (.enter g args) w) (E : Nat → Int)
    (hc : ∀ i x, rows[i]? = some x → ∀ w', Below w.heap.size w w' → Calls Try.prog g (#[.int .i64 i, .agg x.toArray] ++ cp) w' (Ret (.int .i64 (E i)) w')) :
    Calls Try.prog 113 #[v, .func (.func g) #[] cp] w (Ret (.int .i64 (firstE rows.length E)) w) := by
  obtain ⟨⟨p, cap, rfl, hcap, hcm, hx⟩, hk, ho⟩ := hR
  have hn : rows.length ≤ 140737488355328 := by omega
  clear hcap hcm
  obtain ⟨n, hN⟩ : ∃ n, n = rows.length := ⟨_, rfl⟩
  rw [← hN] at hn ⊢
  have HN := Lib.hid hN; clear hN
  have HC := Lib.hid hc; clear hc
  have HX := Lib.hid hx; clear hx
  have HK := Lib.hid hk; clear hk
  have HO := Lib.hid ho; clear ho
  go_enter Try.func113, Try.ntmps113
  go_wp2_with fail
  go_loopw [5, 6, 7, 10] (fun _ _ _ i wr => ∃ k : Nat, k ≤ n ∧ i = .int .i64 k ∧ Below w.heap.size w wr ∧ Hid (∀ j, j < k → E j = 0)) (fun _ _ _ i wr => n - (intOf i).toNat)
  case atStart => exact ⟨0, by omega, rfl, Below.refl _ _, fun j hj => absurd hj (Nat.not_lt_zero _)⟩
  case round =>
    obtain ⟨k, hkn, rfl, hB, hE⟩ := hrel
    by_cases hlt : k < n
    · obtain ⟨x, hxk⟩ : ∃ x, rows[k]? = some x := ⟨_, List.getElem?_eq_getElem (by rw [← HN.out]; exact hlt)⟩
      have hmem : x ∈ rows := List.mem_of_getElem? hxk
      obtain ⟨b, o, rfl, hx⟩ := HX.out (fun h => by rw [h] at hmem; exact absurd hmem (List.not_mem_nil))
      have hr0 : wr.rangeAt b (o + k * 65) x := rangeAt_below hB (hx k x hxk)
      clear hx
      have hr := Lib.hid hr0; clear hr0
      have hlen : x.length = 65 := HK.out x hmem
      have hz : x.toArray.size = 65 := by rw [List.size_toArray]; exact hlen
      have H1 := Lib.hid (show (Try.prog.info? 39).map (·.size) = some x.length from by rw [hlen]; exact size_Quant)
      have H2 := Lib.hid (show (Try.prog.info? 39).map (·.size) = some x.toArray.size from by rw [hz]; exact size_Quant)
      have H3 := Lib.hid (show 65 = x.toArray.size from hz.symm)
      have H4 := Lib.hid (show x.toArray.all (·.oneCell') = true from by simpa using HO.out x hmem)
      have HCA := Lib.hid (fun w' hw' => HC.out k x hxk w' hw')
      clear hmem hlen hz
      have HXK := Lib.hid hxk; clear hxk
      go_wp2_with (first | (refine wpList_load_mid rfl 39 _ rfl b (o + k * 65) rfl x _ hr.out Try.underlying39 rfl H1.out ?_) | (refine wpList_store_new rfl 39 _ _ rfl wr _ _ rfl rfl rfl H2.out H3.out H4.out ?_) | (refine wpList_load_new rfl 39 _ rfl wr _ _ rfl rfl Try.underlying39 rfl H2.out ?_))
      refine (HCA.out _ (hB.alloc hB.size _)).mono ?_
      rintro e w2 ⟨rfl, hB2⟩
      have hB3 : Below w.heap.size w w2 := (hB.alloc hB.size _).trans (hB2.mono (by have := hB.size; simp; omega))
      by_cases hz : E k = 0
      · have hb : (E k != 0) = false := by simp [hz]
        have HZ := Lib.hid hz; clear hz
        clear hB hB2
        go_wp2_with fail
        go_roundw
        case rel => exact ⟨k + 1, by omega, by go_num, hB3, fun j hj => by rcases Nat.lt_succ_iff_lt_or_eq.1 hj with h | h; exact hE.out j h; subst h; exact HZ.out⟩
        case measure => simp [intOf]; omega
      · have hb : (E k != 0) = true := by simp [hz]
        have hfin : firstE n E = E k := firstE_some hlt hz hE.out
        have HF := Lib.hid hfin; clear hfin hz
        clear hB hB2
        go_wp2_with fail
        go_ret
        exact ⟨by rw [HF.out]; rfl, hB3⟩
    · obtain rfl : k = n := by omega
      have hfin : firstE k E = 0 := firstE_none hE
      have HF := Lib.hid hfin; clear hfin
      go_wp2_with fail
      go_ret
      exact ⟨by rw [HF.out]; rfl, hB⟩

set_option maxHeartbeats 1000000 in
theorem each_Block {w : World} {v : Value} {rows : List (List Value)} (hR : RdL w 64 v rows) (g : Nat) (cp : Array Value)
    (eg : ∀ args w, (callFunc g args).run Try.prog w = .ok (.enter g args) w) (E : Nat → Int)
    (hc : ∀ i x, rows[i]? = some x → ∀ w', Below w.heap.size w w' → Calls Try.prog g (#[.int .i64 i, .agg x.toArray] ++ cp) w' (Ret (.int .i64 (E i)) w')) :
    Calls Try.prog 120 #[v, .func (.func g) #[] cp] w (Ret (.int .i64 (firstE rows.length E)) w) := by
  obtain ⟨⟨p, cap, rfl, hcap, hcm, hx⟩, hk, ho⟩ := hR
  have hn : rows.length ≤ 140737488355328 := by omega
  clear hcap hcm
  obtain ⟨n, hN⟩ : ∃ n, n = rows.length := ⟨_, rfl⟩
  rw [← hN] at hn ⊢
  have HN := Lib.hid hN; clear hN
  have HC := Lib.hid hc; clear hc
  have HX := Lib.hid hx; clear hx
  have HK := Lib.hid hk; clear hk
  have HO := Lib.hid ho; clear ho
  go_enter Try.func120, Try.ntmps120
  go_wp2_with fail
  go_loopw [5, 6, 7, 10] (fun _ _ _ i wr => ∃ k : Nat, k ≤ n ∧ i = .int .i64 k ∧ Below w.heap.size w wr ∧ Hid (∀ j, j < k → E j = 0)) (fun _ _ _ i wr => n - (intOf i).toNat)
  case atStart => exact ⟨0, by omega, rfl, Below.refl _ _, fun j hj => absurd hj (Nat.not_lt_zero _)⟩
  case round =>
    obtain ⟨k, hkn, rfl, hB, hE⟩ := hrel
    by_cases hlt : k < n
    · obtain ⟨x, hxk⟩ : ∃ x, rows[k]? = some x := ⟨_, List.getElem?_eq_getElem (by rw [← HN.out]; exact hlt)⟩
      have hmem : x ∈ rows := List.mem_of_getElem? hxk
      obtain ⟨b, o, rfl, hx⟩ := HX.out (fun h => by rw [h] at hmem; exact absurd hmem (List.not_mem_nil))
      have hr0 : wr.rangeAt b (o + k * 64) x := rangeAt_below hB (hx k x hxk)
      clear hx
      have hr := Lib.hid hr0; clear hr0
      have hlen : x.length = 64 := HK.out x hmem
      have hz : x.toArray.size = 64 := by rw [List.size_toArray]; exact hlen
      have H1 := Lib.hid (show (Try.prog.info? 57).map (·.size) = some x.length from by rw [hlen]; exact size_Block)
      have H2 := Lib.hid (show (Try.prog.info? 57).map (·.size) = some x.toArray.size from by rw [hz]; exact size_Block)
      have H3 := Lib.hid (show 64 = x.toArray.size from hz.symm)
      have H4 := Lib.hid (show x.toArray.all (·.oneCell') = true from by simpa using HO.out x hmem)
      have HCA := Lib.hid (fun w' hw' => HC.out k x hxk w' hw')
      clear hmem hlen hz
      have HXK := Lib.hid hxk; clear hxk
      go_wp2_with (first | (refine wpList_load_mid rfl 57 _ rfl b (o + k * 64) rfl x _ hr.out Try.underlying57 rfl H1.out ?_) | (refine wpList_store_new rfl 57 _ _ rfl wr _ _ rfl rfl rfl H2.out H3.out H4.out ?_) | (refine wpList_load_new rfl 57 _ rfl wr _ _ rfl rfl Try.underlying57 rfl H2.out ?_))
      refine (HCA.out _ (hB.alloc hB.size _)).mono ?_
      rintro e w2 ⟨rfl, hB2⟩
      have hB3 : Below w.heap.size w w2 := (hB.alloc hB.size _).trans (hB2.mono (by have := hB.size; simp; omega))
      by_cases hz : E k = 0
      · have hb : (E k != 0) = false := by simp [hz]
        have HZ := Lib.hid hz; clear hz
        clear hB hB2
        go_wp2_with fail
        go_roundw
        case rel => exact ⟨k + 1, by omega, by go_num, hB3, fun j hj => by rcases Nat.lt_succ_iff_lt_or_eq.1 hj with h | h; exact hE.out j h; subst h; exact HZ.out⟩
        case measure => simp [intOf]; omega
      · have hb : (E k != 0) = true := by simp [hz]
        have hfin : firstE n E = E k := firstE_some hlt hz hE.out
        have HF := Lib.hid hfin; clear hfin hz
        clear hB hB2
        go_wp2_with fail
        go_ret
        exact ⟨by rw [HF.out]; rfl, hB3⟩
    · obtain rfl : k = n := by omega
      have hfin : firstE k E = 0 := firstE_none hE
      have HF := Lib.hid hfin; clear hfin
      go_wp2_with fail
      go_ret
      exact ⟨by rw [HF.out]; rfl, hB⟩

set_option maxHeartbeats 1000000 in
theorem each_Tag {w : World} {v : Value} {rows : List (List Value)} (hR : RdL w 2 v rows) (g : Nat) (cp : Array Value)
    (eg : ∀ args w, (callFunc g args).run Try.prog w = .ok (.enter g args) w) (E : Nat → Int)
    (hc : ∀ i x, rows[i]? = some x → ∀ w', Below w.heap.size w w' → Calls Try.prog g (#[.int .i64 i, .agg x.toArray] ++ cp) w' (Ret (.int .i64 (E i)) w')) :
    Calls Try.prog 123 #[v, .func (.func g) #[] cp] w (Ret (.int .i64 (firstE rows.length E)) w) := by
  obtain ⟨⟨p, cap, rfl, hcap, hcm, hx⟩, hk, ho⟩ := hR
  have hn : rows.length ≤ 140737488355328 := by omega
  clear hcap hcm
  obtain ⟨n, hN⟩ : ∃ n, n = rows.length := ⟨_, rfl⟩
  rw [← hN] at hn ⊢
  have HN := Lib.hid hN; clear hN
  have HC := Lib.hid hc; clear hc
  have HX := Lib.hid hx; clear hx
  have HK := Lib.hid hk; clear hk
  have HO := Lib.hid ho; clear ho
  go_enter Try.func123, Try.ntmps123
  go_wp2_with fail
  go_loopw [5, 6, 7, 10] (fun _ _ _ i wr => ∃ k : Nat, k ≤ n ∧ i = .int .i64 k ∧ Below w.heap.size w wr ∧ Hid (∀ j, j < k → E j = 0)) (fun _ _ _ i wr => n - (intOf i).toNat)
  case atStart => exact ⟨0, by omega, rfl, Below.refl _ _, fun j hj => absurd hj (Nat.not_lt_zero _)⟩
  case round =>
    obtain ⟨k, hkn, rfl, hB, hE⟩ := hrel
    by_cases hlt : k < n
    · obtain ⟨x, hxk⟩ : ∃ x, rows[k]? = some x := ⟨_, List.getElem?_eq_getElem (by rw [← HN.out]; exact hlt)⟩
      have hmem : x ∈ rows := List.mem_of_getElem? hxk
      obtain ⟨b, o, rfl, hx⟩ := HX.out (fun h => by rw [h] at hmem; exact absurd hmem (List.not_mem_nil))
      have hr0 : wr.rangeAt b (o + k * 2) x := rangeAt_below hB (hx k x hxk)
      clear hx
      have hr := Lib.hid hr0; clear hr0
      have hlen : x.length = 2 := HK.out x hmem
      have hz : x.toArray.size = 2 := by rw [List.size_toArray]; exact hlen
      have H1 := Lib.hid (show (Try.prog.info? 104).map (·.size) = some x.length from by rw [hlen]; exact size_Tag)
      have H2 := Lib.hid (show (Try.prog.info? 104).map (·.size) = some x.toArray.size from by rw [hz]; exact size_Tag)
      have H3 := Lib.hid (show 2 = x.toArray.size from hz.symm)
      have H4 := Lib.hid (show x.toArray.all (·.oneCell') = true from by simpa using HO.out x hmem)
      have HCA := Lib.hid (fun w' hw' => HC.out k x hxk w' hw')
      clear hmem hlen hz
      have HXK := Lib.hid hxk; clear hxk
      go_wp2_with (first | (refine wpList_load_mid rfl 104 _ rfl b (o + k * 2) rfl x _ hr.out Try.underlying104 rfl H1.out ?_) | (refine wpList_store_new rfl 104 _ _ rfl wr _ _ rfl rfl rfl H2.out H3.out H4.out ?_) | (refine wpList_load_new rfl 104 _ rfl wr _ _ rfl rfl Try.underlying104 rfl H2.out ?_))
      refine (HCA.out _ (hB.alloc hB.size _)).mono ?_
      rintro e w2 ⟨rfl, hB2⟩
      have hB3 : Below w.heap.size w w2 := (hB.alloc hB.size _).trans (hB2.mono (by have := hB.size; simp; omega))
      by_cases hz : E k = 0
      · have hb : (E k != 0) = false := by simp [hz]
        have HZ := Lib.hid hz; clear hz
        clear hB hB2
        go_wp2_with fail
        go_roundw
        case rel => exact ⟨k + 1, by omega, by go_num, hB3, fun j hj => by rcases Nat.lt_succ_iff_lt_or_eq.1 hj with h | h; exact hE.out j h; subst h; exact HZ.out⟩
        case measure => simp [intOf]; omega
      · have hb : (E k != 0) = true := by simp [hz]
        have hfin : firstE n E = E k := firstE_some hlt hz hE.out
        have HF := Lib.hid hfin; clear hfin hz
        clear hB hB2
        go_wp2_with fail
        go_ret
        exact ⟨by rw [HF.out]; rfl, hB3⟩
    · obtain rfl : k = n := by omega
      have hfin : firstE k E = 0 := firstE_none hE
      have HF := Lib.hid hfin; clear hfin
      go_wp2_with fail
      go_ret
      exact ⟨by rw [HF.out]; rfl, hB⟩

end Aq
end Go.Proofs.Ytaacpoadfdmfnaa
