/-
  What image.Size and aquatintref11.Size answer.
-/
import Derived.Test.YtaacpoadfdmfnaaFew
import Derived.Test.YtaacpoadfdmfnaaRightM
namespace Go.Proofs.Ytaacpoadfdmfnaa
open Go Go.RowKit Go.Shelf
namespace Aq
def sizeOf (cs : List Comp) (qs : List Quant) (ts : List Tag) : Int := 64 + 16 * cs.length + 128 * sumB cs + 132 * qs.length + 4 * ts.length + sumT ts
theorem few_parts {a b : Int} {cs : List Comp} {qs : List Quant} {ts : List Tag} (h : fewB a b cs qs ts = true) :
    cs.length ≤ 20 ∧ qs.length ≤ 20 ∧ ts.length ≤ 100 ∧ shortB a cs = true ∧ shortT b ts = true ∧ sumB cs ≤ a ∧ sumT ts ≤ b := by
  unfold fewB at h
  simp only [Bool.and_eq_true, decide_eq_true_eq] at h
  obtain ⟨⟨⟨⟨⟨h1, h2, h3⟩, h4⟩, h5⟩, h6⟩, h7⟩ := h
  exact ⟨h1, h2, h3, h4, h5, h6, h7⟩
theorem short_take {a : Int} {cs : List Comp} (h : shortB a cs = true) (k : Nat) : shortB a (cs.take k) = true := by
  unfold shortB at h ⊢
  rw [List.all_eq_true] at h ⊢
  exact fun x hx => h x (List.mem_of_mem_take hx)
theorem shortT_take {a : Int} {ts : List Tag} (h : shortT a ts = true) (k : Nat) : shortT a (ts.take k) = true := by
  unfold shortT at h ⊢
  rw [List.all_eq_true] at h ⊢
  exact fun x hx => h x (List.mem_of_mem_take hx)
set_option maxHeartbeats 2000000 in
theorem refSize_any {w : World} {W H : Int} {cv qv tv : Value} {cs : List Comp} {qs : List Quant} {ts : List Tag} (hR : RdImg w cv qv tv cs qs ts) (hf : fewB 300 140000 cs qs ts = true) :
    Calls Try.prog 23 #[.agg #[.int .i64 W, .int .i64 H, cv, qv, tv]] w (Ret (.int .i64 (sizeOf cs qs ts)) w) := by
  obtain ⟨f1, f2, f3, f4, f5, f6, f7⟩ := few_parts hf
  obtain ⟨cp, cc, ecv, _, ⟨_, hcl⟩, _⟩ := hR.comps.form
  obtain ⟨qp, qc, eqv, _, ⟨_, hql⟩, _⟩ := hR.quants.form
  obtain ⟨tp, tc, etv, _, ⟨_, htl⟩, _⟩ := hR.tags.form
  rw [List.length_map] at ecv eqv etv
  clear hcl hql htl hf
  subst ecv eqv etv
  obtain ⟨w1, hw1⟩ : ∃ w1, w1 = w.alloc (.cells #[.int .i64 W, .int .i64 H, .slice cp cs.length cc, .slice qp qs.length qc, .slice tp ts.length tc] 26) := ⟨_, rfl⟩
  have hB1 : Below w.heap.size w w1 := by rw [hw1]; exact below_new _
  have i2 : w1.cell? ⟨w.heap.size, 2, none⟩ = some (.slice cp cs.length cc) := by rw [hw1]; exact new_cell (Below.refl _ _) 2 rfl
  have i3 : w1.cell? ⟨w.heap.size, 3, none⟩ = some (.slice qp qs.length qc) := by rw [hw1]; exact new_cell (Below.refl _ _) 3 rfl
  have i4 : w1.cell? ⟨w.heap.size, 4, none⟩ = some (.slice tp ts.length tc) := by rw [hw1]; exact new_cell (Below.refl _ _) 4 rfl
  have HR := Lib.hid (hR.below hB1); clear hR
  have hs1 : w.heap.size < w1.heap.size := by rw [hw1]; simp
  obtain ⟨n, hn⟩ : ∃ n, n = cs.length := ⟨_, rfl⟩
  obtain ⟨m, hm⟩ : ∃ m, m = ts.length := ⟨_, rfl⟩
  obtain ⟨ql, hq⟩ : ∃ ql, ql = qs.length := ⟨_, rfl⟩
  have HV := Lib.hid (show sizeOf cs qs ts = 64 + 16 * n + 128 * sumB cs + 132 * ql + 4 * m + sumT ts from by rw [hn, hm, hq]; rfl)
  rw [← hn] at i2 hw1 f1 ⊢
  rw [← hm] at i4 hw1 f3 ⊢
  rw [← hq] at i3 hw1 f2 ⊢
  have HN := Lib.hid hn; clear hn
  have HM := Lib.hid hm; clear hm hq
  have F4 := Lib.hid f4; have F5 := Lib.hid f5; clear f4 f5 f6 f7
  go_enter Try.func23, Try.ntmps23
  go_wp2_with fail
  rw [← hw1]
  clear hw1
  go_loopw [3, 4] (fun s i wr => ∃ k : Nat, k ≤ n ∧ i = .int .i64 k ∧ s = .int .i64 (64 + 16 * k + 128 * sumB (cs.take k)) ∧ w1 = wr) (fun _ i wr => n - (intOf i).toNat)
  case atStart => exact ⟨0, by omega, rfl, rfl, rfl⟩
  case round =>
    obtain ⟨k, hkn, rfl, rfl, hw⟩ := hrel
    subst hw
    have hsb := sumB_small (by omega) (by omega) (l := cs.take k) (by rw [List.length_take]; omega) (short_take F4.out k)
    by_cases hlt : k < n
    · obtain ⟨c, hc⟩ : ∃ c, cs[k]? = some c := ⟨_, List.getElem?_eq_getElem (by rw [← HN.out]; exact hlt)⟩
      obtain ⟨b0, o, p6, cap6, rfl, hb0, r0, r1, r2, r3, r4, r5, r6, e6⟩ := HR.out.row rfl hc
      have eS := Lib.hid (show sumB (cs.take (k + 1)) = sumB (cs.take k) + c.bs.length from foldl_take1 _ _ hc)
      have hle : (c.bs.length : Int) ≤ 300 := by have := List.all_eq_true.1 F4.out c (List.mem_of_getElem? hc); simpa using this
      clear hc e6
      generalize sumB (cs.take k) = s at *
      generalize c.bs.length = l at *
      go_wp2_with fail
      go_roundw
      case rel => exact ⟨k + 1, by omega, by go_num, congrArg (Value.int .i64) (by rw [eS.out]; omega), by first | rfl | trivial⟩
      case measure => simp [intOf]; omega
    · obtain rfl : n = k := by omega
      have hT : cs.take n = cs := List.take_of_length_le (by rw [← HN.out]; exact Nat.le_refl _)
      rw [hT] at hsb ⊢
      clear hT hlt
      generalize sumB cs = sb at *
      go_wp2_with fail
      go_loopw [3, 5] (fun s i wr => ∃ k : Nat, k ≤ m ∧ i = .int .i64 k ∧ s = .int .i64 (64 + 16 * n + 128 * sb + 132 * ql + 4 * k + sumT (ts.take k)) ∧ w1 = wr) (fun _ i wr => m - (intOf i).toNat)
      case atStart => exact ⟨0, by omega, rfl, congrArg (Value.int .i64) (by simp [sumT]), rfl⟩
      case round =>
        obtain ⟨k, hkm, rfl, rfl, hw⟩ := hrel
        subst hw
        have hst := sumT_small (by omega) (by omega) (l := ts.take k) (by rw [List.length_take]; omega) (shortT_take F5.out k)
        by_cases hlt : k < m
        · obtain ⟨t, ht⟩ : ∃ t, ts[k]? = some t := ⟨_, List.getElem?_eq_getElem (by rw [← HM.out]; exact hlt)⟩
          obtain ⟨b0, o, rfl, hb0, r0, r1⟩ := HR.out.trow rfl ht
          have eS := Lib.hid (show sumT (ts.take (k + 1)) = sumT (ts.take k) + t.body.size from foldl_take1 _ _ ht)
          have hle : (t.body.size : Int) ≤ 140000 := by have := List.all_eq_true.1 F5.out t (List.mem_of_getElem? ht); simpa using this
          clear ht
          generalize sumT (ts.take k) = s at *
          go_wp2_with fail
          go_roundw
          case rel => exact ⟨k + 1, by omega, by go_num, congrArg (Value.int .i64) (by rw [eS.out]; omega), by first | rfl | trivial⟩
          case measure => simp [intOf]; omega
        · obtain rfl : m = k := by omega
          have hT : ts.take m = ts := List.take_of_length_le (by rw [← HM.out]; exact Nat.le_refl _)
          rw [hT] at hst ⊢
          clear hT hlt
          generalize sumT ts = st at *
          go_wp2_with fail
          go_ret
          exact ⟨ret_int HV.out.symm, hB1⟩
def sizeV (e n : Int) : Int := if e = 0 then n else 0
set_option maxHeartbeats 2000000 in
theorem size_any {w : World} {W H : Int} {cv qv tv : Value} {cs : List Comp} {qs : List Quant} {ts : List Tag} (hR : RdImg w cv qv tv cs qs ts) (hf : fewB 300 140000 cs qs ts = true) :
    Calls Try.prog 21 #[.agg #[.int .i64 W, .int .i64 H, cv, qv, tv]] w (Ret (.tuple #[.int .i64 (sizeV (imgErr W H cs qs ts) (sizeOf cs qs ts)), .int .i64 (imgErr W H cs qs ts)]) w) := by
  obtain ⟨f1, f2, f3, f4, f5, f6, f7⟩ := few_parts hf
  obtain ⟨cp, cc, ecv, _, ⟨_, hcl⟩, _⟩ := hR.comps.form
  obtain ⟨qp, qc, eqv, _, ⟨_, hql⟩, _⟩ := hR.quants.form
  obtain ⟨tp, tc, etv, _, ⟨_, htl⟩, _⟩ := hR.tags.form
  rw [List.length_map] at ecv eqv etv
  clear hcl hql htl hf
  subst ecv eqv etv
  obtain ⟨w1, hw1⟩ : ∃ w1, w1 = w.alloc (.cells #[.int .i64 W, .int .i64 H, .slice cp cs.length cc, .slice qp qs.length qc, .slice tp ts.length tc] 26) := ⟨_, rfl⟩
  have hB1 : Below w.heap.size w w1 := by rw [hw1]; exact below_new _
  have i2 : w1.cell? ⟨w.heap.size, 2, none⟩ = some (.slice cp cs.length cc) := by rw [hw1]; exact new_cell (Below.refl _ _) 2 rfl
  have i3 : w1.cell? ⟨w.heap.size, 3, none⟩ = some (.slice qp qs.length qc) := by rw [hw1]; exact new_cell (Below.refl _ _) 3 rfl
  have i4 : w1.cell? ⟨w.heap.size, 4, none⟩ = some (.slice tp ts.length tc) := by rw [hw1]; exact new_cell (Below.refl _ _) 4 rfl
  have HR := Lib.hid (hR.below hB1); clear hR
  have HRT := Lib.hid (right_main (W := W) (H := H) HR.out (by omega))
  have hs1 : w.heap.size < w1.heap.size := by rw [hw1]; simp
  obtain ⟨n, hn⟩ : ∃ n, n = cs.length := ⟨_, rfl⟩
  obtain ⟨m, hm⟩ : ∃ m, m = ts.length := ⟨_, rfl⟩
  obtain ⟨ql, hq⟩ : ∃ ql, ql = qs.length := ⟨_, rfl⟩
  have HV := Lib.hid (show sizeOf cs qs ts = 64 + 16 * n + 128 * sumB cs + 132 * ql + 4 * m + sumT ts from by rw [hn, hm, hq]; rfl)
  rw [← hn] at i2 hw1 f1 HRT ⊢
  rw [← hm] at i4 hw1 f3 HRT ⊢
  rw [← hq] at i3 hw1 f2 HRT ⊢
  have HN := Lib.hid hn; clear hn
  have HM := Lib.hid hm; clear hm hq
  have F4 := Lib.hid f4; have F5 := Lib.hid f5; clear f4 f5 f6 f7
  generalize imgErr W H cs qs ts = er at *
  by_cases h0 : er = 0
  · have hb : (er != 0) = false := by simp [h0]
    have HS := Lib.hid (show sizeV er (sizeOf cs qs ts) = sizeOf cs qs ts from by unfold sizeV; rw [if_pos h0])
    have HE0 := Lib.hid h0; clear h0
    go_enter Try.func21, Try.ntmps21
    go_wp2_with fail
    rw [← hw1]
    clear hw1
    refine HRT.out.mono ?_
    rintro e w2 ⟨rfl, hB2⟩
    have j2 := old_cell hB2 i2
    have j3 := old_cell hB2 i3
    have j4 := old_cell hB2 i4
    have HR2 := Lib.hid (HR.out.below hB2)
    have hB12 : Below w.heap.size w w2 := hB1.trans (hB2.mono hB1.size)
    have hs2 : w.heap.size < w2.heap.size := by have := hB2.size; omega
    have HB12 := Lib.hid hB12
    clear i2 i3 i4 HR HRT hB1 hB2 hB12
    go_wp2_with fail
    go_loopw [5, 7, 28] (fun s _ i wr => ∃ k : Nat, k ≤ n ∧ i = .int .i64 k ∧ s = .int .i64 (64 + 16 * n + 132 * ql + 128 * sumB (cs.take k)) ∧ Hid (Below w2.heap.size w2 wr)) (fun _ _ i wr => n - (intOf i).toNat)
    case atStart => exact ⟨0, by omega, rfl, congrArg (Value.int .i64) (by simp [sumB]), Below.refl _ _⟩
    case round =>
      obtain ⟨k, hkn, rfl, rfl, hB⟩ := hrel
      have hsb := sumB_small (by omega) (by omega) (l := cs.take k) (by rw [List.length_take]; omega) (short_take F4.out k)
      have hsz := hB.out.size
      by_cases hlt : k < n
      · obtain ⟨c, hc⟩ : ∃ c, cs[k]? = some c := ⟨_, List.getElem?_eq_getElem (by rw [← HN.out]; exact hlt)⟩
        obtain ⟨b0, o, p6, cap6, rfl, hb0, r0, r1, r2, r3, r4, r5, r6, e6⟩ := (HR2.out.below hB.out).row rfl hc
        have eS := Lib.hid (show sumB (cs.take (k + 1)) = sumB (cs.take k) + c.bs.length from foldl_take1 _ _ hc)
        have hle : (c.bs.length : Int) ≤ 300 := by have := List.all_eq_true.1 F4.out c (List.mem_of_getElem? hc); simpa using this
        clear hc e6
        generalize sumB (cs.take k) = s at *
        generalize c.bs.length = l at *
        go_wp2_with fail
        go_roundw
        case rel => exact ⟨k + 1, by omega, by go_num, congrArg (Value.int .i64) (by rw [eS.out]; omega), hB.out.alloc hsz _⟩
        case measure => simp [intOf]; omega
      · obtain rfl : n = k := by omega
        have hT : cs.take n = cs := List.take_of_length_le (by rw [← HN.out]; exact Nat.le_refl _)
        rw [hT] at hsb ⊢
        have k4 := old_cell hB.out j4
        have hs3 : w.heap.size < wr.heap.size := by omega
        clear hT hlt
        generalize sumB cs = sb at *
        go_wp2_with fail
        go_loopw [5, 9, 43] (fun s _ i wz => ∃ k : Nat, k ≤ m ∧ i = .int .i64 k ∧ s = .int .i64 (64 + 16 * n + 132 * ql + 128 * sb + 4 * k + sumT (ts.take k)) ∧ Hid (Below w2.heap.size w2 wz)) (fun _ _ i wz => m - (intOf i).toNat)
        case atStart => exact ⟨0, by omega, rfl, congrArg (Value.int .i64) (by simp [sumT]), hB.out⟩
        case round =>
          obtain ⟨k, hkm, rfl, rfl, hB⟩ := hrel
          have hst := sumT_small (by omega) (by omega) (l := ts.take k) (by rw [List.length_take]; omega) (shortT_take F5.out k)
          have hsz := hB.out.size
          by_cases hlt : k < m
          · obtain ⟨t, ht⟩ : ∃ t, ts[k]? = some t := ⟨_, List.getElem?_eq_getElem (by rw [← HM.out]; exact hlt)⟩
            obtain ⟨b0, o, rfl, hb0, r0, r1⟩ := (HR2.out.below hB.out).trow rfl ht
            have eS := Lib.hid (show sumT (ts.take (k + 1)) = sumT (ts.take k) + t.body.size from foldl_take1 _ _ ht)
            have hle : (t.body.size : Int) ≤ 140000 := by have := List.all_eq_true.1 F5.out t (List.mem_of_getElem? ht); simpa using this
            clear ht
            generalize sumT (ts.take k) = s at *
            go_wp2_with fail
            go_roundw
            case rel => exact ⟨k + 1, by omega, by go_num, congrArg (Value.int .i64) (by rw [eS.out]; omega), hB.out.alloc hsz _⟩
            case measure => simp [intOf]; omega
          · obtain rfl : m = k := by omega
            have hT : ts.take m = ts := List.take_of_length_le (by rw [← HM.out]; exact Nat.le_refl _)
            rw [hT] at hst ⊢
            clear hT hlt
            generalize sumT ts = st at *
            go_wp2_with fail
            go_ret2
            exact ⟨by rw [HS.out, HV.out, HE0.out]; exact congrArg (fun x => Ending.returned (.tuple #[.int .i64 x, .int .i64 0])) (by omega), HB12.out.trans (hB.out.mono HB12.out.size)⟩
  · have hb : (er != 0) = true := by simp [h0]
    have HS := Lib.hid (show sizeV er (sizeOf cs qs ts) = 0 from by unfold sizeV; rw [if_neg h0])
    clear h0
    go_enter Try.func21, Try.ntmps21
    go_wp2_with fail
    rw [← hw1]
    clear hw1
    refine HRT.out.mono ?_
    rintro e w2 ⟨rfl, hB2⟩
    go_wp2_with fail
    go_ret2
    exact ⟨by rw [HS.out]; rfl, hB1.trans (hB2.mono hB1.size)⟩
end Aq
end Go.Proofs.Ytaacpoadfdmfnaa
