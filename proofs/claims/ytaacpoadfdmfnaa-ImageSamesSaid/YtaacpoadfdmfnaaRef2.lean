/-
  What the document's comps answers.
-/
import Derived.Test.YtaacpoadfdmfnaaRef1
namespace Go.Proofs.Ytaacpoadfdmfnaa
open Go Go.RowKit Go.Shelf
namespace Aq
theorem compErr_bad {cs : List Comp} {k : Nat} {c : Comp} (hc : cs[k]? = some c) (h : c.id < 0 ∨ 255 < c.id ∨ c.q < 0 ∨ 3 < c.q) : compErr cs k = 7 := by
  simp only [compErr, hc]
  rw [if_neg]
  rintro ⟨h1, h2, _, h3, h4⟩
  omega
theorem compErr_twice {cs : List Comp} {k j : Nat} {c d : Comp} (hc : cs[k]? = some c) (hj : j < k) (hd : cs[j]? = some d) (h : d.id = c.id) : compErr cs k = 7 := by
  simp only [compErr, hc]
  rw [if_neg]
  rintro ⟨_, _, h3, _⟩
  rw [List.any_eq_false] at h3
  have := h3 j (List.mem_range.2 hj)
  simp [List.getD_eq_getElem?_getD, hd, h] at this
theorem compErr_ok {cs : List Comp} {k : Nat} {c : Comp} (hc : cs[k]? = some c) (h1 : 0 ≤ c.id) (h2 : c.id ≤ 255) (h3 : 0 ≤ c.q) (h4 : c.q ≤ 3) (h : ∀ j d, j < k → cs[j]? = some d → d.id ≠ c.id) : compErr cs k = 0 := by
  simp only [compErr, hc]
  rw [if_pos]
  refine ⟨h1, h2, ?_, h3, by omega⟩
  rw [List.any_eq_false]
  intro j hj
  have hj := List.mem_range.1 hj
  have hk := (List.getElem?_eq_some_iff.1 hc).1
  have hd : cs[j]? = some cs[j] := List.getElem?_eq_getElem (by omega)
  have := h j _ hj hd
  simp [List.getD_eq_getElem?_getD, hd, this]
set_option maxHeartbeats 2000000 in
theorem refComps_any {w : World} {W H : Int} {cv qv tv : Value} {cs : List Comp} {qs : List Quant} {ts : List Tag} (hR : RdImg w cv qv tv cs qs ts) :
    Calls Try.prog 64 #[.agg #[.int .i64 W, .int .i64 H, cv, qv, tv]] w (Ret (.int .i64 (firstE cs.length (compErr cs))) w) := by
  obtain ⟨cp, cc, ecv, _, ⟨_, hcl⟩, _⟩ := hR.comps.form
  obtain ⟨qp, qc, eqv, _, ⟨_, hql⟩, _⟩ := hR.quants.form
  obtain ⟨tp, tc, etv, _, ⟨_, htl⟩, _⟩ := hR.tags.form
  rw [List.length_map] at ecv eqv etv hcl
  clear hql htl
  subst ecv eqv etv
  obtain ⟨w1, hw1⟩ : ∃ w1, w1 = w.alloc (.cells #[.int .i64 W, .int .i64 H, .slice cp cs.length cc, .slice qp qs.length qc, .slice tp ts.length tc] 26) := ⟨_, rfl⟩
  have hB1 : Below w.heap.size w w1 := by rw [hw1]; exact below_new _
  have i2 : w1.cell? ⟨w.heap.size, 2, none⟩ = some (.slice cp cs.length cc) := by rw [hw1]; exact new_cell (Below.refl _ _) 2 rfl
  have HR := Lib.hid (hR.below hB1); clear hR
  have hs1 : w.heap.size < w1.heap.size := by rw [hw1]; simp
  obtain ⟨n, hn⟩ : ∃ n, n = cs.length := ⟨_, rfl⟩
  generalize ts.length = tl at *
  generalize qs.length = ql at *
  rw [← hn] at i2 hw1 hcl ⊢
  have HN := Lib.hid hn; clear hn
  go_enter Try.func64, Try.ntmps64
  go_wp2_with fail
  rw [← hw1]
  clear hw1
  go_loopw [3, 4, 5] (fun i _ _ wr => ∃ k : Nat, k ≤ n ∧ i = .int .i64 k ∧ Hid (Below w1.heap.size w1 wr) ∧ Hid (∀ j, j < k → compErr cs j = 0)) (fun i _ _ wr => n - (intOf i).toNat)
  case atStart => exact ⟨0, by omega, rfl, Below.refl _ _, fun j hj => absurd hj (Nat.not_lt_zero _)⟩
  case round =>
    obtain ⟨k, hkn, rfl, hB, hE⟩ := hrel
    have hsz := hB.out.size
    have j2 := old_cell hB.out i2
    have hs2 : w.heap.size < wr.heap.size := by omega
    have HBB := Lib.hid (hB1.trans (hB.out.mono hB1.size))
    by_cases hlt : k < n
    · obtain ⟨c, hc⟩ : ∃ c, cs[k]? = some c := ⟨_, List.getElem?_eq_getElem (by rw [← HN.out]; exact hlt)⟩
      obtain ⟨b0, o, p6, cap6, rfl, hb0, r0, r1, r2, r3, r4, r5, r6, e6⟩ := (HR.out.below hB.out).row rfl hc
      clear e6
      by_cases hbad : c.id < 0 ∨ 255 < c.id ∨ c.q < 0 ∨ 3 < c.q
      · have h7 := compErr_bad hc hbad
        have HF := Lib.hid (show firstE n (compErr cs) = 7 from by rw [firstE_some hlt (by rw [h7]; decide) hE.out, h7])
        have HBA := Lib.hid (fun o => HBB.out.alloc HBB.out.size o)
        clear hc h7
        by_cases b1 : c.id < 0
        · clear hbad
          go_wp2_with fail
          go_ret
          exact ⟨by rw [HF.out]; rfl, HBA.out _⟩
        · by_cases b2 : 255 < c.id
          · clear hbad
            go_wp2_with fail
            go_ret
            exact ⟨by rw [HF.out]; rfl, HBA.out _⟩
          · by_cases b3 : c.q < 0
            · clear hbad
              go_wp2_with fail
              go_ret
              exact ⟨by rw [HF.out]; rfl, HBA.out _⟩
            · have b4 : 3 < c.q := by omega
              clear hbad
              go_wp2_with fail
              go_ret
              exact ⟨by rw [HF.out]; rfl, HBA.out _⟩
      · have b1 : 0 ≤ c.id := by omega
        have b2 : c.id ≤ 255 := by omega
        have b3 : 0 ≤ c.q := by omega
        have b4 : c.q ≤ 3 := by omega
        have HC := Lib.hid hc
        have HK := Lib.hid (compErr_ok hc b1 b2 b3 b4)
        clear hbad hc
        go_wp2_with fail
        obtain ⟨w5, hw5⟩ : ∃ w5, w5 = wr.alloc (.cells #[.int .i64 c.id, .int .i64 c.h, .int .i64 c.v, .int .i64 c.q, .int .i64 c.cols, .int .i64 c.rows, .slice p6 c.bs.length cap6] 63) := ⟨_, rfl⟩
        have hB5 : Below wr.heap.size wr w5 := by rw [hw5]; exact below_new _
        have q0 : w5.cell? ⟨wr.heap.size, 0, none⟩ = some (.int .i64 c.id) := by rw [hw5]; exact new_cell (Below.refl _ _) 0 rfl
        have q2 := old_cell hB5 j2
        have hs5 : wr.heap.size < w5.heap.size := by rw [hw5]; simp
        have HB5 := Lib.hid hB5; clear hB5
        have HR5 := Lib.hid ((HR.out.below hB.out).below HB5.out)
        rw [← hw5]
        clear hw5 r0 r1 r2 r3 r4 r5 r6 j2 hb0
        generalize wr = wo at *
        go_loopw [5] (fun i wz => ∃ j : Nat, j ≤ k ∧ i = .int .i64 j ∧ Hid (Below w5.heap.size w5 wz) ∧ Hid (∀ m d, m < j → cs[m]? = some d → d.id ≠ c.id)) (fun i wz => k - (intOf i).toNat)
        case atStart => exact ⟨0, by omega, rfl, Below.refl _ _, fun m d h => absurd h (Nat.not_lt_zero _)⟩
        case round =>
          obtain ⟨j, hjk, rfl, hBi, hE2⟩ := hrel
          have p0 := old_cell hBi.out q0
          have p2 := old_cell hBi.out q2
          have hszi := hBi.out.size
          have hsw : w.heap.size < wr.heap.size := by omega
          have hswo : wo.heap.size < wr.heap.size := by omega
          have HBI := Lib.hid (show Below w.heap.size w wr from HBB.out.trans ((HB5.out.trans (hBi.out.mono HB5.out.size)).mono HBB.out.size))
          by_cases hj : j < k
          · obtain ⟨d, hd⟩ : ∃ d, cs[j]? = some d := ⟨_, List.getElem?_eq_getElem (by rw [← HN.out]; omega)⟩
            obtain ⟨b9, o9, p9, cap9, hpe, hb9, t0, t1, t2, t3, t4, t5, t6, e9⟩ := (HR5.out.below hBi.out).row rfl hd
            cases hpe
            clear t1 t2 t3 t4 t5 t6 e9
            have hjn : j < n := by omega
            by_cases heq : d.id = c.id
            · have h7 := compErr_twice HC.out hj hd heq
              have HF := Lib.hid (show firstE n (compErr cs) = 7 from by rw [firstE_some hlt (by rw [h7]; decide) hE.out, h7])
              have hbq : (d.id == c.id) = true := by simp [heq]
              clear h7 hd heq
              generalize d.id = di at *
              go_wp2_with fail
              go_quiet (fail)
              go_wp2_with fail
              go_ret
              exact ⟨by rw [HF.out]; rfl, below_drewN HBI.out _⟩
            · have hbq : (d.id == c.id) = false := by simp [heq]
              have HD := Lib.hid (show ∀ m e, m < j + 1 → cs[m]? = some e → e.id ≠ c.id from fun m e h1 h2 => by
                rcases Nat.lt_succ_iff_lt_or_eq.1 h1 with h | h
                · exact hE2.out m e h h2
                · subst h; rw [hd] at h2; cases h2; exact heq)
              clear hd heq
              generalize d.id = di at *
              go_wp2_with fail
              go_quiet (fail)
              go_wp2_with fail
              go_roundw
              case rel => exact ⟨j + 1, by omega, by go_num, below_drewN hBi.out _, HD.out⟩
              case measure => simp [intOf]; omega
          · obtain rfl : k = j := by omega
            have HZ := Lib.hid (HK.out (fun j d hj hd => hE2.out j d hj hd))
            go_wp2_with fail
            go_roundw
            case rel =>
              exact ⟨k + 1, by omega, by go_num, hB.out.trans ((HB5.out.trans (hBi.out.mono HB5.out.size)).mono hsz), fun j hj => by
                rcases Nat.lt_succ_iff_lt_or_eq.1 hj with h | h
                · exact hE.out j h
                · subst h; exact HZ.out⟩
            case measure => simp [intOf]; omega
    · obtain rfl : n = k := by omega
      have HF := Lib.hid (show firstE n (compErr cs) = 0 from firstE_none hE.out)
      go_wp2_with fail
      go_ret
      exact ⟨by rw [HF.out]; rfl, HBB.out⟩
end Aq
end Go.Proofs.Ytaacpoadfdmfnaa
