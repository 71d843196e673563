/-
  What slices.IndexFunc and slices.ContainsFunc answer over rows: the first place at which the asked function says yes.
-/
import Derived.Test.YtaacpoadfdmfnaaTypes
namespace Go.Proofs.Ytaacpoadfdmfnaa
open Go Go.RowKit
namespace Aq

set_option maxHeartbeats 1000000 in
theorem indexFunc_Comp {w : World} {v : Value} {rows : List (List Value)} (hR : RdL w 7 v rows) (g : Nat) (cp : Array Value)
    (eg : ∀ args w, (callFunc g args).run Try.prog w = .ok (.enter g args) w) (E : Nat → Bool)
    (hc : ∀ i x, rows[i]? = some x → ∀ w', Below w.heap.size w w' → Calls Try.prog g (#[.agg x.toArray] ++ cp) w' (Ret (.bool (E i)) w')) :
    Calls Try.prog 140 #[v, .func (.func g) #[] cp] w (Ret (.int .i64 (firstI rows.length E)) w) := by
  obtain ⟨⟨p, cap, rfl, hcap, hcm, hx⟩, hk, ho⟩ := hR
  have hn : rows.length ≤ 140737488355328 := by omega
  clear hcap hcm ho
  obtain ⟨n, hN⟩ : ∃ n, n = rows.length := ⟨_, rfl⟩
  rw [← hN] at hn ⊢
  have HN := Lib.hid hN; clear hN
  have HC := Lib.hid hc; clear hc
  have HX := Lib.hid hx; clear hx
  have HK := Lib.hid hk; clear hk
  go_enter Try.func140, Try.ntmps140
  go_wp2_with fail
  go_loopw [5, 8] (fun _ i wr => ∃ k : Nat, k ≤ n ∧ i = .int .i64 k ∧ Below w.heap.size w wr ∧ Hid (∀ j, j < k → E j = false)) (fun _ i wr => n - (intOf i).toNat)
  case atStart => exact ⟨0, by omega, rfl, Below.refl _ _, fun j hj => absurd hj (Nat.not_lt_zero _)⟩
  case round =>
    obtain ⟨k, hkn, rfl, hB, hE⟩ := hrel
    by_cases hlt : k < n
    · obtain ⟨x, hxk⟩ : ∃ x, rows[k]? = some x := ⟨_, List.getElem?_eq_getElem (by rw [← HN.out]; exact hlt)⟩
      have hmem : x ∈ rows := List.mem_of_getElem? hxk
      obtain ⟨b, o, rfl, hx⟩ := HX.out (fun h => by rw [h] at hmem; exact absurd hmem (List.not_mem_nil))
      have hr0 : wr.rangeAt b (o + k * 7) x := rangeAt_below hB (hx k x hxk)
      clear hx
      have hr := Lib.hid hr0; clear hr0
      have hlen : x.length = 7 := HK.out x hmem
      have H1 := Lib.hid (show (Try.prog.info? 63).map (·.size) = some x.length from by rw [hlen]; exact size_Comp)
      have HCA := Lib.hid (fun w' hw' => HC.out k x hxk w' hw')
      clear hmem hlen
      have HXK := Lib.hid hxk; clear hxk
      go_wp2_with (first | (refine wpList_load_mid rfl 63 _ rfl b (o + k * 7) rfl x _ hr.out Try.underlying63 rfl H1.out ?_))
      refine (HCA.out _ hB).mono ?_
      rintro e w2 ⟨rfl, hB2⟩
      have hB3 : Below w.heap.size w w2 := hB.trans (hB2.mono hB.size)
      cases hz : E k with
      | false =>
        have HZ := Lib.hid hz; clear hz
        clear hB hB2
        go_wp2_with fail
        go_roundw
        case rel => exact ⟨k + 1, by omega, by go_num, hB3, fun j hj => by rcases Nat.lt_succ_iff_lt_or_eq.1 hj with h | h; exact hE.out j h; subst h; exact HZ.out⟩
        case measure => simp [intOf]; omega
      | true =>
        have hfin : firstI n E = k := firstI_some hlt hz hE.out
        have HF := Lib.hid hfin; clear hfin hz
        clear hB hB2
        go_wp2_with fail
        go_ret
        exact ⟨by rw [HF.out]; rfl, hB3⟩
    · obtain rfl : k = n := by omega
      have hfin : firstI k E = -1 := firstI_none hE
      have HF := Lib.hid hfin; clear hfin
      go_wp2_with fail
      go_ret
      exact ⟨by rw [HF.out]; rfl, hB⟩

set_option maxHeartbeats 400000 in
theorem containsFunc_Comp {w : World} {v : Value} {rows : List (List Value)} (hR : RdL w 7 v rows) (g : Nat) (cp : Array Value)
    (eg : ∀ args w, (callFunc g args).run Try.prog w = .ok (.enter g args) w) (E : Nat → Bool)
    (hc : ∀ i x, rows[i]? = some x → ∀ w', Below w.heap.size w w' → Calls Try.prog g (#[.agg x.toArray] ++ cp) w' (Ret (.bool (E i)) w')) :
    Calls Try.prog 108 #[v, .func (.func g) #[] cp] w (Ret (.bool ((List.range rows.length).any E)) w) := by
  have HI := Lib.hid (indexFunc_Comp hR g cp eg E hc)
  have HR := Lib.hid (firstI_nonneg rows.length E)
  clear hc hR eg
  go_enter Try.func108, Try.ntmps108
  go_wp2_with fail
  refine HI.out.mono ?_
  rintro e w2 ⟨rfl, hB⟩
  go_wp2_with fail
  go_ret
  exact ⟨by rw [← HR.out]; rfl, hB⟩

set_option maxHeartbeats 1000000 in
theorem indexFunc_Quant {w : World} {v : Value} {rows : List (List Value)} (hR : RdL w 65 v rows) (g : Nat) (cp : Array Value)
    (eg : ∀ args w, (callFunc g args).run Try.prog w = .ok (.enter g args) w) (E : Nat → Bool)
    (hc : ∀ i x, rows[i]? = some x → ∀ w', Below w.heap.size w w' → Calls Try.prog g (#[.agg x.toArray] ++ cp) w' (Ret (.bool (E i)) w')) :
    Calls Try.prog 68 #[v, .func (.func g) #[] cp] w (Ret (.int .i64 (firstI rows.length E)) w) := by
  obtain ⟨⟨p, cap, rfl, hcap, hcm, hx⟩, hk, ho⟩ := hR
  have hn : rows.length ≤ 140737488355328 := by omega
  clear hcap hcm ho
  obtain ⟨n, hN⟩ : ∃ n, n = rows.length := ⟨_, rfl⟩
  rw [← hN] at hn ⊢
  have HN := Lib.hid hN; clear hN
  have HC := Lib.hid hc; clear hc
  have HX := Lib.hid hx; clear hx
  have HK := Lib.hid hk; clear hk
  go_enter Try.func68, Try.ntmps68
  go_wp2_with fail
  go_loopw [5, 8] (fun _ i wr => ∃ k : Nat, k ≤ n ∧ i = .int .i64 k ∧ Below w.heap.size w wr ∧ Hid (∀ j, j < k → E j = false)) (fun _ i wr => n - (intOf i).toNat)
  case atStart => exact ⟨0, by omega, rfl, Below.refl _ _, fun j hj => absurd hj (Nat.not_lt_zero _)⟩
  case round =>
    obtain ⟨k, hkn, rfl, hB, hE⟩ := hrel
    by_cases hlt : k < n
    · obtain ⟨x, hxk⟩ : ∃ x, rows[k]? = some x := ⟨_, List.getElem?_eq_getElem (by rw [← HN.out]; exact hlt)⟩
      have hmem : x ∈ rows := List.mem_of_getElem? hxk
      obtain ⟨b, o, rfl, hx⟩ := HX.out (fun h => by rw [h] at hmem; exact absurd hmem (List.not_mem_nil))
      have hr0 : wr.rangeAt b (o + k * 65) x := rangeAt_below hB (hx k x hxk)
      clear hx
      have hr := Lib.hid hr0; clear hr0
      have hlen : x.length = 65 := HK.out x hmem
      have H1 := Lib.hid (show (Try.prog.info? 39).map (·.size) = some x.length from by rw [hlen]; exact size_Quant)
      have HCA := Lib.hid (fun w' hw' => HC.out k x hxk w' hw')
      clear hmem hlen
      have HXK := Lib.hid hxk; clear hxk
      go_wp2_with (first | (refine wpList_load_mid rfl 39 _ rfl b (o + k * 65) rfl x _ hr.out Try.underlying39 rfl H1.out ?_))
      refine (HCA.out _ hB).mono ?_
      rintro e w2 ⟨rfl, hB2⟩
      have hB3 : Below w.heap.size w w2 := hB.trans (hB2.mono hB.size)
      cases hz : E k with
      | false =>
        have HZ := Lib.hid hz; clear hz
        clear hB hB2
        go_wp2_with fail
        go_roundw
        case rel => exact ⟨k + 1, by omega, by go_num, hB3, fun j hj => by rcases Nat.lt_succ_iff_lt_or_eq.1 hj with h | h; exact hE.out j h; subst h; exact HZ.out⟩
        case measure => simp [intOf]; omega
      | true =>
        have hfin : firstI n E = k := firstI_some hlt hz hE.out
        have HF := Lib.hid hfin; clear hfin hz
        clear hB hB2
        go_wp2_with fail
        go_ret
        exact ⟨by rw [HF.out]; rfl, hB3⟩
    · obtain rfl : k = n := by omega
      have hfin : firstI k E = -1 := firstI_none hE
      have HF := Lib.hid hfin; clear hfin
      go_wp2_with fail
      go_ret
      exact ⟨by rw [HF.out]; rfl, hB⟩

set_option maxHeartbeats 1000000 in
theorem indexFunc_int16 {w : World} {v : Value} {rows : List (List Value)} (hR : RdL w 1 v rows) (g : Nat) (cp : Array Value)
    (eg : ∀ args w, (callFunc g args).run Try.prog w = .ok (.enter g args) w) (E : Nat → Bool)
    (hc : ∀ i x, rows[i]? = some x → ∀ w', Below w.heap.size w w' → Calls Try.prog g (#[x.toArray.getD 0 undef] ++ cp) w' (Ret (.bool (E i)) w')) :
    Calls Try.prog 152 #[v, .func (.func g) #[] cp] w (Ret (.int .i64 (firstI rows.length E)) w) := by
  obtain ⟨⟨p, cap, rfl, hcap, hcm, hx⟩, hk, ho⟩ := hR
  have hn : rows.length ≤ 140737488355328 := by omega
  clear hcap hcm ho
  obtain ⟨n, hN⟩ : ∃ n, n = rows.length := ⟨_, rfl⟩
  rw [← hN] at hn ⊢
  have HN := Lib.hid hN; clear hN
  have HC := Lib.hid hc; clear hc
  have HX := Lib.hid hx; clear hx
  have HK := Lib.hid hk; clear hk
  go_enter Try.func152, Try.ntmps152
  go_wp2_with fail
  go_loopw [5, 8] (fun _ i wr => ∃ k : Nat, k ≤ n ∧ i = .int .i64 k ∧ Below w.heap.size w wr ∧ Hid (∀ j, j < k → E j = false)) (fun _ i wr => n - (intOf i).toNat)
  case atStart => exact ⟨0, by omega, rfl, Below.refl _ _, fun j hj => absurd hj (Nat.not_lt_zero _)⟩
  case round =>
    obtain ⟨k, hkn, rfl, hB, hE⟩ := hrel
    by_cases hlt : k < n
    · obtain ⟨x, hxk⟩ : ∃ x, rows[k]? = some x := ⟨_, List.getElem?_eq_getElem (by rw [← HN.out]; exact hlt)⟩
      have hmem : x ∈ rows := List.mem_of_getElem? hxk
      obtain ⟨b, o, rfl, hx⟩ := HX.out (fun h => by rw [h] at hmem; exact absurd hmem (List.not_mem_nil))
      have hr0 : wr.rangeAt b (o + k * 1) x := rangeAt_below hB (hx k x hxk)
      clear hx
      obtain ⟨y, rfl⟩ : ∃ y, x = [y] := by
        have := HK.out x hmem
        match x, this with
        | [y], _ => exact ⟨y, rfl⟩
      have hcell : wr.cell? ⟨b, o + k, none⟩ = some y := by have := hr0 0 y rfl; simpa using this
      clear hr0
      have HCA := Lib.hid (fun w' hw' => HC.out k [y] hxk w' hw')
      clear hmem
      have HXK := Lib.hid hxk; clear hxk
      go_wp2_with fail
      refine (HCA.out _ hB).mono ?_
      rintro e w2 ⟨rfl, hB2⟩
      have hB3 : Below w.heap.size w w2 := hB.trans (hB2.mono hB.size)
      cases hz : E k with
      | false =>
        have HZ := Lib.hid hz; clear hz
        clear hB hB2
        go_wp2_with fail
        go_roundw
        case rel => exact ⟨k + 1, by omega, by go_num, hB3, fun j hj => by rcases Nat.lt_succ_iff_lt_or_eq.1 hj with h | h; exact hE.out j h; subst h; exact HZ.out⟩
        case measure => simp [intOf]; omega
      | true =>
        have hfin : firstI n E = k := firstI_some hlt hz hE.out
        have HF := Lib.hid hfin; clear hfin hz
        clear hB hB2
        go_wp2_with fail
        go_ret
        exact ⟨by rw [HF.out]; rfl, hB3⟩
    · obtain rfl : k = n := by omega
      have hfin : firstI k E = -1 := firstI_none hE
      have HF := Lib.hid hfin; clear hfin
      go_wp2_with fail
      go_ret
      exact ⟨by rw [HF.out]; rfl, hB⟩

set_option maxHeartbeats 400000 in
theorem containsFunc_int16 {w : World} {v : Value} {rows : List (List Value)} (hR : RdL w 1 v rows) (g : Nat) (cp : Array Value)
    (eg : ∀ args w, (callFunc g args).run Try.prog w = .ok (.enter g args) w) (E : Nat → Bool)
    (hc : ∀ i x, rows[i]? = some x → ∀ w', Below w.heap.size w w' → Calls Try.prog g (#[x.toArray.getD 0 undef] ++ cp) w' (Ret (.bool (E i)) w')) :
    Calls Try.prog 142 #[v, .func (.func g) #[] cp] w (Ret (.bool ((List.range rows.length).any E)) w) := by
  have HI := Lib.hid (indexFunc_int16 hR g cp eg E hc)
  have HR := Lib.hid (firstI_nonneg rows.length E)
  clear hc hR eg
  go_enter Try.func142, Try.ntmps142
  go_wp2_with fail
  refine HI.out.mono ?_
  rintro e w2 ⟨rfl, hB⟩
  go_wp2_with fail
  go_ret
  exact ⟨by rw [← HR.out]; rfl, hB⟩

set_option maxHeartbeats 1000000 in
theorem indexFunc_Part {w : World} {v : Value} {rows : List (List Value)} (hR : RdL w 2 v rows) (g : Nat) (cp : Array Value)
    (eg : ∀ args w, (callFunc g args).run Try.prog w = .ok (.enter g args) w) (E : Nat → Bool)
    (hc : ∀ i x, rows[i]? = some x → ∀ w', Below w.heap.size w w' → Calls Try.prog g (#[.agg x.toArray] ++ cp) w' (Ret (.bool (E i)) w')) :
    Calls Try.prog 154 #[v, .func (.func g) #[] cp] w (Ret (.int .i64 (firstI rows.length E)) w) := by
  obtain ⟨⟨p, cap, rfl, hcap, hcm, hx⟩, hk, ho⟩ := hR
  have hn : rows.length ≤ 140737488355328 := by omega
  clear hcap hcm ho
  obtain ⟨n, hN⟩ : ∃ n, n = rows.length := ⟨_, rfl⟩
  rw [← hN] at hn ⊢
  have HN := Lib.hid hN; clear hN
  have HC := Lib.hid hc; clear hc
  have HX := Lib.hid hx; clear hx
  have HK := Lib.hid hk; clear hk
  go_enter Try.func154, Try.ntmps154
  go_wp2_with fail
  go_loopw [5, 8] (fun _ i wr => ∃ k : Nat, k ≤ n ∧ i = .int .i64 k ∧ Below w.heap.size w wr ∧ Hid (∀ j, j < k → E j = false)) (fun _ i wr => n - (intOf i).toNat)
  case atStart => exact ⟨0, by omega, rfl, Below.refl _ _, fun j hj => absurd hj (Nat.not_lt_zero _)⟩
  case round =>
    obtain ⟨k, hkn, rfl, hB, hE⟩ := hrel
    by_cases hlt : k < n
    · obtain ⟨x, hxk⟩ : ∃ x, rows[k]? = some x := ⟨_, List.getElem?_eq_getElem (by rw [← HN.out]; exact hlt)⟩
      have hmem : x ∈ rows := List.mem_of_getElem? hxk
      obtain ⟨b, o, rfl, hx⟩ := HX.out (fun h => by rw [h] at hmem; exact absurd hmem (List.not_mem_nil))
      have hr0 : wr.rangeAt b (o + k * 2) x := rangeAt_below hB (hx k x hxk)
      clear hx
      have hr := Lib.hid hr0; clear hr0
      have hlen : x.length = 2 := HK.out x hmem
      have H1 := Lib.hid (show (Try.prog.info? 154).map (·.size) = some x.length from by rw [hlen]; exact size_Part)
      have HCA := Lib.hid (fun w' hw' => HC.out k x hxk w' hw')
      clear hmem hlen
      have HXK := Lib.hid hxk; clear hxk
      go_wp2_with (first | (refine wpList_load_mid rfl 154 _ rfl b (o + k * 2) rfl x _ hr.out Try.underlying154 rfl H1.out ?_))
      refine (HCA.out _ hB).mono ?_
      rintro e w2 ⟨rfl, hB2⟩
      have hB3 : Below w.heap.size w w2 := hB.trans (hB2.mono hB.size)
      cases hz : E k with
      | false =>
        have HZ := Lib.hid hz; clear hz
        clear hB hB2
        go_wp2_with fail
        go_roundw
        case rel => exact ⟨k + 1, by omega, by go_num, hB3, fun j hj => by rcases Nat.lt_succ_iff_lt_or_eq.1 hj with h | h; exact hE.out j h; subst h; exact HZ.out⟩
        case measure => simp [intOf]; omega
      | true =>
        have hfin : firstI n E = k := firstI_some hlt hz hE.out
        have HF := Lib.hid hfin; clear hfin hz
        clear hB hB2
        go_wp2_with fail
        go_ret
        exact ⟨by rw [HF.out]; rfl, hB3⟩
    · obtain rfl : k = n := by omega
      have hfin : firstI k E = -1 := firstI_none hE
      have HF := Lib.hid hfin; clear hfin
      go_wp2_with fail
      go_ret
      exact ⟨by rw [HF.out]; rfl, hB⟩

set_option maxHeartbeats 400000 in
theorem containsFunc_Part {w : World} {v : Value} {rows : List (List Value)} (hR : RdL w 2 v rows) (g : Nat) (cp : Array Value)
    (eg : ∀ args w, (callFunc g args).run Try.prog w = .ok (.enter g args) w) (E : Nat → Bool)
    (hc : ∀ i x, rows[i]? = some x → ∀ w', Below w.heap.size w w' → Calls Try.prog g (#[.agg x.toArray] ++ cp) w' (Ret (.bool (E i)) w')) :
    Calls Try.prog 151 #[v, .func (.func g) #[] cp] w (Ret (.bool ((List.range rows.length).any E)) w) := by
  have HI := Lib.hid (indexFunc_Part hR g cp eg E hc)
  have HR := Lib.hid (firstI_nonneg rows.length E)
  clear hc hR eg
  go_enter Try.func151, Try.ntmps151
  go_wp2_with fail
  refine HI.out.mono ?_
  rintro e w2 ⟨rfl, hB⟩
  go_wp2_with fail
  go_ret
  exact ⟨by rw [← HR.out]; rfl, hB⟩

end Aq
end Go.Proofs.Ytaacpoadfdmfnaa
