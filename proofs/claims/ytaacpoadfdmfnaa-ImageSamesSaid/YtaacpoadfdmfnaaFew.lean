/-
  What aquatintref11.Few answers.
-/
import Derived.Test.YtaacpoadfdmfnaaComps
namespace Go.Proofs.Ytaacpoadfdmfnaa
open Go Go.RowKit Go.Shelf
namespace Aq
def sumB (cs : List Comp) : Int := cs.foldl (fun a c => a + c.bs.length) 0
def sumT (ts : List Tag) : Int := ts.foldl (fun a t => a + t.body.size) 0
def shortB (a : Int) (cs : List Comp) : Bool := cs.all fun c => decide ((c.bs.length : Int) ≤ a)
def shortT (b : Int) (ts : List Tag) : Bool := ts.all fun t => decide ((t.body.size : Int) ≤ b)
def fewB (a b : Int) (cs : List Comp) (qs : List Quant) (ts : List Tag) : Bool :=
  decide (cs.length ≤ 20 ∧ qs.length ≤ 20 ∧ ts.length ≤ 100) && shortB a cs && shortT b ts && decide (sumB cs ≤ a) && decide (sumT ts ≤ b)
theorem foldl_take1 {α β : Type} (f : β → α → β) (b : β) {l : List α} {k : Nat} {x : α} (h : l[k]? = some x) : (l.take (k + 1)).foldl f b = f ((l.take k).foldl f b) x := by
  rw [List.take_add_one, h, List.foldl_append]
  rfl
theorem all_take1 {α : Type} (f : α → Bool) {l : List α} {k : Nat} {x : α} (h : l[k]? = some x) : (l.take (k + 1)).all f = ((l.take k).all f && f x) := by
  rw [List.take_add_one, h, List.all_append]
  simp
theorem all_false_at {α : Type} (f : α → Bool) {l : List α} {k : Nat} {x : α} (h : l[k]? = some x) (hf : f x = false) : l.all f = false := by
  rw [List.all_eq_false]
  exact ⟨x, List.mem_of_getElem? h, by simp [hf]⟩
theorem sumB_bd {a : Int} (ha : 0 ≤ a) : ∀ (l : List Comp) (b : Int), (∀ c, c ∈ l → (c.bs.length : Int) ≤ a) → b ≤ l.foldl (fun x c => x + (c.bs.length : Int)) b ∧ l.foldl (fun x c => x + (c.bs.length : Int)) b ≤ b + a * l.length
  | [], b, _ => by simp
  | c :: l, b, h => by
    have h1 := h c (List.mem_cons_self ..)
    have := sumB_bd ha l (b + c.bs.length) (fun d hd => h d (List.mem_cons_of_mem _ hd))
    simp only [List.foldl_cons, List.length_cons, Int.natCast_add, Int.mul_add]
    omega
theorem sumT_bd {a : Int} (ha : 0 ≤ a) : ∀ (l : List Tag) (b : Int), (∀ c, c ∈ l → (c.body.size : Int) ≤ a) → b ≤ l.foldl (fun x c => x + (c.body.size : Int)) b ∧ l.foldl (fun x c => x + (c.body.size : Int)) b ≤ b + a * l.length
  | [], b, _ => by simp
  | c :: l, b, h => by
    have h1 := h c (List.mem_cons_self ..)
    have := sumT_bd ha l (b + c.body.size) (fun d hd => h d (List.mem_cons_of_mem _ hd))
    simp only [List.foldl_cons, List.length_cons, Int.natCast_add, Int.mul_add]
    omega
theorem sumB_small {a : Int} (ha : 0 ≤ a) (ha' : a ≤ 10000000) {l : List Comp} (hl : l.length ≤ 20) (h : shortB a l = true) : 0 ≤ sumB l ∧ sumB l ≤ 200000000 := by
  have h1 := sumB_bd ha l 0 (fun c hc => by have := List.all_eq_true.1 h c hc; simpa using this)
  have h2 : a * (l.length : Int) ≤ 10000000 * 20 := Int.mul_le_mul ha' (by omega) (by omega) (by omega)
  unfold sumB
  omega
theorem sumT_small {a : Int} (ha : 0 ≤ a) (ha' : a ≤ 10000000) {l : List Tag} (hl : l.length ≤ 100) (h : shortT a l = true) : 0 ≤ sumT l ∧ sumT l ≤ 1000000000 := by
  have h1 := sumT_bd ha l 0 (fun c hc => by have := List.all_eq_true.1 h c hc; simpa using this)
  have h2 : a * (l.length : Int) ≤ 10000000 * 100 := Int.mul_le_mul ha' (by omega) (by omega) (by omega)
  unfold sumT
  omega
/-- The k-th component's cells. -/
theorem RdImg.row {w : World} {cv qv tv : Value} {cs : List Comp} {qs : List Quant} {ts : List Tag} (h : RdImg w cv qv tv cs qs ts) {p : Option Addr} {n cap : Nat} (e : cv = .slice p n cap) {k : Nat} {c : Comp} (hc : cs[k]? = some c) :
    ∃ b o p6 cap6, p = some ⟨b, o, none⟩ ∧ b < w.heap.size ∧ w.cell? ⟨b, o + k * 7, none⟩ = some (.int .i64 c.id) ∧ w.cell? ⟨b, o + k * 7 + 1, none⟩ = some (.int .i64 c.h) ∧ w.cell? ⟨b, o + k * 7 + 2, none⟩ = some (.int .i64 c.v) ∧
      w.cell? ⟨b, o + k * 7 + 3, none⟩ = some (.int .i64 c.q) ∧ w.cell? ⟨b, o + k * 7 + 4, none⟩ = some (.int .i64 c.cols) ∧ w.cell? ⟨b, o + k * 7 + 5, none⟩ = some (.int .i64 c.rows) ∧ w.cell? ⟨b, o + k * 7 + 6, none⟩ = some (.slice p6 c.bs.length cap6) ∧ c.bv = .slice p6 c.bs.length cap6 := by
  obtain ⟨p', cap', e', _, _, hx⟩ := h.comps.form
  rw [e] at e'
  cases e'
  obtain ⟨b, o, rfl, hr⟩ := hx (fun e => by rw [List.map_eq_nil_iff] at e; rw [e] at hc; simp at hc)
  have hr := hr k (compRow c) (by simp [hc])
  obtain ⟨p6, cap6, e6, _⟩ := (h.blocks c (List.mem_of_getElem? hc)).form
  rw [List.length_map] at e6
  exact ⟨b, o, p6, cap6, rfl, lt_of_cell (hr 0 _ rfl), hr 0 _ rfl, hr 1 _ rfl, hr 2 _ rfl, hr 3 _ rfl, hr 4 _ rfl, hr 5 _ rfl, by rw [← e6]; exact hr 6 _ rfl, e6⟩
theorem RdImg.trow {w : World} {cv qv tv : Value} {cs : List Comp} {qs : List Quant} {ts : List Tag} (h : RdImg w cv qv tv cs qs ts) {p : Option Addr} {n cap : Nat} (e : tv = .slice p n cap) {k : Nat} {t : Tag} (ht : ts[k]? = some t) :
    ∃ b o, p = some ⟨b, o, none⟩ ∧ b < w.heap.size ∧ w.cell? ⟨b, o + k * 2, none⟩ = some (.int .i64 t.kind) ∧ w.cell? ⟨b, o + k * 2 + 1, none⟩ = some (.string t.body) := by
  obtain ⟨p', cap', e', _, _, hx⟩ := h.tags.form
  rw [e] at e'
  cases e'
  obtain ⟨b, o, rfl, hr⟩ := hx (fun e => by rw [List.map_eq_nil_iff] at e; rw [e] at ht; simp at ht)
  have hr := hr k (tagRow t) (by simp [ht])
  exact ⟨b, o, rfl, lt_of_cell (hr 0 _ rfl), hr 0 _ rfl, hr 1 _ rfl⟩
set_option maxHeartbeats 2000000 in
theorem few_any {w : World} {W H : Int} {cv qv tv : Value} {cs : List Comp} {qs : List Quant} {ts : List Tag} (hR : RdImg w cv qv tv cs qs ts) (a b : Int) (ha : 0 ≤ a) (ha' : a ≤ 10000000) (hb : 0 ≤ b) (hb' : b ≤ 10000000) :
    Calls Try.prog 54 #[.agg #[.int .i64 W, .int .i64 H, cv, qv, tv], .int .i64 a, .int .i64 b] w (Ret (.bool (fewB a b cs qs ts)) w) := by
  obtain ⟨cp, cc, ecv, _, ⟨_, hcl⟩, _⟩ := hR.comps.form
  obtain ⟨qp, qc, eqv, _, ⟨_, hql⟩, _⟩ := hR.quants.form
  obtain ⟨tp, tc, etv, _, ⟨_, htl⟩, _⟩ := hR.tags.form
  rw [List.length_map] at ecv eqv etv hcl hql htl
  subst ecv eqv etv
  obtain ⟨w1, hw1⟩ : ∃ w1, w1 = w.alloc (.cells #[.int .i64 W, .int .i64 H, .slice cp cs.length cc, .slice qp qs.length qc, .slice tp ts.length tc] 26) := ⟨_, rfl⟩
  have hB1 : Below w.heap.size w w1 := by rw [hw1]; exact below_new _
  have i2 : w1.cell? ⟨w.heap.size, 2, none⟩ = some (.slice cp cs.length cc) := by rw [hw1]; exact new_cell (Below.refl _ _) 2 rfl
  have i3 : w1.cell? ⟨w.heap.size, 3, none⟩ = some (.slice qp qs.length qc) := by rw [hw1]; exact new_cell (Below.refl _ _) 3 rfl
  have i4 : w1.cell? ⟨w.heap.size, 4, none⟩ = some (.slice tp ts.length tc) := by rw [hw1]; exact new_cell (Below.refl _ _) 4 rfl
  have HR := Lib.hid (hR.below hB1); clear hR
  have hs1 : w.heap.size < w1.heap.size := by rw [hw1]; simp
  obtain ⟨n, hn⟩ : ∃ n, n = cs.length := ⟨_, rfl⟩
  obtain ⟨m, hm⟩ : ∃ m, m = ts.length := ⟨_, rfl⟩
  obtain ⟨ql, hq⟩ : ∃ ql, ql = qs.length := ⟨_, rfl⟩
  have HV := Lib.hid (show fewB a b cs qs ts = (decide (n ≤ 20 ∧ ql ≤ 20 ∧ m ≤ 100) && shortB a cs && shortT b ts && decide (sumB cs ≤ a) && decide (sumT ts ≤ b)) from by rw [hn, hm, hq]; rfl)
  rw [← hn] at hcl i2 hw1 ⊢
  rw [← hm] at htl i4 hw1 ⊢
  rw [← hq] at hql i3 hw1 ⊢
  have HN := Lib.hid hn; clear hn
  have HM := Lib.hid hm; clear hm hq
  by_cases hsm : n ≤ 20 ∧ ql ≤ 20 ∧ m ≤ 100
  · obtain ⟨g1, g2, g3⟩ := hsm
    have HV2 := Lib.hid (show fewB a b cs qs ts = (shortB a cs && shortT b ts && decide (sumB cs ≤ a) && decide (sumT ts ≤ b)) from by rw [HV.out]; simp [g1, g2, g3])
    clear HV
    go_enter Try.func54, Try.ntmps54
    go_wp2_with fail
    rw [← hw1]
    clear hw1
    go_loopw [7, 8] (fun s i wr => ∃ k : Nat, k ≤ n ∧ i = .int .i64 k ∧ s = .int .i64 (sumB (cs.take k)) ∧ w1 = wr ∧ shortB a (cs.take k) = true) (fun _ i wr => n - (intOf i).toNat)
    case atStart => exact ⟨0, by omega, rfl, rfl, rfl, rfl⟩
    case round =>
      obtain ⟨k, hkn, rfl, rfl, hw, hA⟩ := hrel
      subst hw
      have hsb := sumB_small ha ha' (l := cs.take k) (by rw [List.length_take]; omega) hA
      by_cases hlt : k < n
      · obtain ⟨c, hc⟩ : ∃ c, cs[k]? = some c := ⟨_, List.getElem?_eq_getElem (by rw [← HN.out]; exact hlt)⟩
        obtain ⟨b0, o, p6, cap6, rfl, hb0, r0, r1, r2, r3, r4, r5, r6, e6⟩ := HR.out.row rfl hc
        have eS := Lib.hid (show sumB (cs.take (k + 1)) = sumB (cs.take k) + c.bs.length from foldl_take1 _ _ hc)
        by_cases hle : (c.bs.length : Int) ≤ a
        · have eA := Lib.hid (show shortB a (cs.take (k + 1)) = true from by
            have := all_take1 (fun c : Comp => decide ((c.bs.length : Int) ≤ a)) hc
            unfold shortB at hA ⊢
            rw [this, hA]; simpa using hle)
          clear hA hc e6
          generalize sumB (cs.take k) = s at *
          generalize c.bs.length = l at *
          go_wp2_with fail
          go_roundw
          case rel => exact ⟨k + 1, by omega, by go_num, by rw [eS.out], by first | rfl | trivial, eA.out⟩
          case measure => simp [intOf]; omega
        · have HF := Lib.hid (show fewB a b cs qs ts = false from by
            have : shortB a cs = false := all_false_at _ hc (by simpa using hle)
            rw [HV2.out, this]; rfl)
          have hle' : a < (c.bs.length : Int) := by omega
          clear hA hc e6 eS hle
          generalize sumB (cs.take k) = s at *
          generalize c.bs.length = l at *
          go_wp2_with fail
          go_ret
          exact ⟨by rw [HF.out]; rfl, hB1⟩
      · obtain rfl : n = k := by omega
        have hT : cs.take n = cs := List.take_of_length_le (by rw [← HN.out]; exact Nat.le_refl _)
        rw [hT] at hA hsb ⊢
        have HV3 := Lib.hid (show fewB a b cs qs ts = (shortT b ts && decide (sumB cs ≤ a) && decide (sumT ts ≤ b)) from by rw [HV2.out, hA]; simp)
        clear hT hA HV2 hlt
        generalize sumB cs = sb at *
        go_wp2_with fail
        go_loopw [9, 10] (fun s i wr => ∃ k : Nat, k ≤ m ∧ i = .int .i64 k ∧ s = .int .i64 (sumT (ts.take k)) ∧ w1 = wr ∧ shortT b (ts.take k) = true) (fun _ i wr => m - (intOf i).toNat)
        case atStart => exact ⟨0, by omega, rfl, rfl, rfl, rfl⟩
        case round =>
          obtain ⟨k, hkm, rfl, rfl, hw, hA⟩ := hrel
          subst hw
          have hst := sumT_small hb hb' (l := ts.take k) (by rw [List.length_take]; omega) hA
          by_cases hlt : k < m
          · obtain ⟨t, ht⟩ : ∃ t, ts[k]? = some t := ⟨_, List.getElem?_eq_getElem (by rw [← HM.out]; exact hlt)⟩
            obtain ⟨b0, o, rfl, hb0, r0, r1⟩ := HR.out.trow rfl ht
            have eS := Lib.hid (show sumT (ts.take (k + 1)) = sumT (ts.take k) + t.body.size from foldl_take1 _ _ ht)
            by_cases hle : (t.body.size : Int) ≤ b
            · have eA := Lib.hid (show shortT b (ts.take (k + 1)) = true from by
                have := all_take1 (fun c : Tag => decide ((c.body.size : Int) ≤ b)) ht
                unfold shortT at hA ⊢
                rw [this, hA]; simpa using hle)
              clear hA ht
              generalize sumT (ts.take k) = s at *
              go_wp2_with fail
              go_roundw
              case rel => exact ⟨k + 1, by omega, by go_num, by rw [eS.out], by first | rfl | trivial, eA.out⟩
              case measure => simp [intOf]; omega
            · have HF := Lib.hid (show fewB a b cs qs ts = false from by
                have : shortT b ts = false := all_false_at _ ht (by simpa using hle)
                rw [HV3.out, this]; rfl)
              have hle' : b < (t.body.size : Int) := by omega
              clear hA ht eS hle
              generalize sumT (ts.take k) = s at *
              go_wp2_with fail
              go_ret
              exact ⟨by rw [HF.out]; rfl, hB1⟩
          · obtain rfl : m = k := by omega
            have hT : ts.take m = ts := List.take_of_length_le (by rw [← HM.out]; exact Nat.le_refl _)
            rw [hT] at hA hst ⊢
            have HV4 := Lib.hid (show fewB a b cs qs ts = (decide (sb ≤ a) && decide (sumT ts ≤ b)) from by rw [HV3.out, hA]; simp)
            clear hT hA HV3 hlt
            generalize sumT ts = st at *
            go_wp2_with fail
            all_goals
              go_ret
              exact ⟨by rw [HV4.out]; first | rfl | (simp_all; done) | (have : ¬ sb ≤ a := by omega
                                                                        simp [this]), hB1⟩
  · have HF := Lib.hid (show fewB a b cs qs ts = false from by rw [HV.out]; simp [hsm])
    by_cases h1 : 20 < n
    · clear hsm
      go_enter Try.func54, Try.ntmps54
      go_wp2_with fail
      go_ret
      exact ⟨by rw [HF.out]; rfl, below_new _⟩
    · by_cases h2 : 20 < ql
      · clear hsm
        go_enter Try.func54, Try.ntmps54
        go_wp2_with fail
        go_ret
        exact ⟨by rw [HF.out]; rfl, below_new _⟩
      · have h3 : 100 < m := by omega
        clear hsm
        go_enter Try.func54, Try.ntmps54
        go_wp2_with fail
        go_ret
        exact ⟨by rw [HF.out]; rfl, below_new _⟩
end Aq
end Go.Proofs.Ytaacpoadfdmfnaa
