/-
  What the document's Same answers for two images: the program's.
-/
import Derived.Test.YtaacpoadfdmfnaaRefSame
namespace Go.Proofs.Ytaacpoadfdmfnaa
open Go Go.RowKit Go.Shelf
namespace Aq
theorem RdImg.trange {w : World} {cv qv tv : Value} {cs : List Comp} {qs : List Quant} {ts : List Tag} (h : RdImg w cv qv tv cs qs ts) {p : Option Addr} {n cap : Nat} (e : tv = .slice p n cap) {k : Nat} {t : Tag} (ht : ts[k]? = some t) :
    ∃ b o, p = some ⟨b, o, none⟩ ∧ w.rangeAt b (o + k * 2) (tagRow t) := by
  obtain ⟨p', cap', e', _, _, hx⟩ := h.tags.form
  rw [e] at e'
  cases e'
  obtain ⟨b, o, rfl, hr⟩ := hx (fun e => by rw [List.map_eq_nil_iff] at e; rw [e] at ht; simp at ht)
  exact ⟨b, o, rfl, hr k (tagRow t) (by simp [ht])⟩
theorem comp_cells {w : World} {n : Nat} {c0 c1 c2 c3 c4 c5 c6 : Value} {t : TypeId} (h : w.heap[n]? = some (.cells #[c0, c1, c2, c3, c4, c5, c6] t (0, 0))) :
    w.cell? ⟨n, 0, none⟩ = some c0 ∧ w.cell? ⟨n, 1, none⟩ = some c1 ∧ w.cell? ⟨n, 2, none⟩ = some c2 ∧ w.cell? ⟨n, 3, none⟩ = some c3 ∧ w.cell? ⟨n, 4, none⟩ = some c4 ∧ w.cell? ⟨n, 5, none⟩ = some c5 ∧ w.cell? ⟨n, 6, none⟩ = some c6 ∧ n < w.heap.size :=
  ⟨blk_cell h 0 rfl, blk_cell h 1 rfl, blk_cell h 2 rfl, blk_cell h 3 rfl, blk_cell h 4 rfl, blk_cell h 5 rfl, blk_cell h 6 rfl, blk_lt h⟩
theorem bne_len {a b : Nat} (h : ((a : Int) != (b : Int)) = false) : a = b := by
  have := (show ((a : Int) == (b : Int)) = true from by simpa [bne] using h)
  have := eq_of_beq this
  omega
theorem bne_len' {a b : Nat} (h : ((a : Int) != (b : Int)) = true) : a ≠ b := fun e => by rw [e] at h; simp at h
theorem sameI_c {W H W' H' : Int} {cs cs' : List Comp} {qs qs' : List Quant} {ts ts' : List Tag} (h : (cs.map dataC == cs'.map dataC) = false) : sameI W H cs qs ts W' H' cs' qs' ts' = false := by
  unfold sameI; rw [h]; simp
theorem sameI_q {W H W' H' : Int} {cs cs' : List Comp} {qs qs' : List Quant} {ts ts' : List Tag} (h : (qs.map dataQ == qs'.map dataQ) = false) : sameI W H cs qs ts W' H' cs' qs' ts' = false := by
  unfold sameI; rw [h]; simp
theorem sameI_t {W H W' H' : Int} {cs cs' : List Comp} {qs qs' : List Quant} {ts ts' : List Tag} (h : (ts.map dataT == ts'.map dataT) = false) : sameI W H cs qs ts W' H' cs' qs' ts' = false := by
  unfold sameI; rw [h]; simp
theorem sameI_w {W H W' H' : Int} {cs cs' : List Comp} {qs qs' : List Quant} {ts ts' : List Tag} (h : (W != W') = true) : sameI W H cs qs ts W' H' cs' qs' ts' = false := by
  unfold sameI; rw [show (W == W') = false from by simpa [bne] using h]; simp
theorem sameI_h {W H W' H' : Int} {cs cs' : List Comp} {qs qs' : List Quant} {ts ts' : List Tag} (h : (H != H') = true) : sameI W H cs qs ts W' H' cs' qs' ts' = false := by
  unfold sameI; rw [show (H == H') = false from by simpa [bne] using h]; simp
theorem size_le {α : Type} {w : World} {n : Nat} {v : Value} {l : List α} {f : α → List Value} (h : RdL w n v (l.map f)) : l.length ≤ 140737488355328 := by
  obtain ⟨_, _, _, _, ⟨_, h⟩, _⟩ := h.form
  rw [List.length_map] at h
  exact h
set_option maxRecDepth 100000 in
set_option maxHeartbeats 4000000 in
theorem refSame_any {w : World} {W H W' H' : Int} {cv qv tv cv' qv' tv' : Value} {cs cs' : List Comp} {qs qs' : List Quant} {ts ts' : List Tag} (h1 : RdImg w cv qv tv cs qs ts) (h2 : RdImg w cv' qv' tv' cs' qs' ts') :
    Calls Try.prog 30 #[.agg #[.int .i64 W, .int .i64 H, cv, qv, tv], .agg #[.int .i64 W', .int .i64 H', cv', qv', tv']] w (Ret (.bool (sameI W H cs qs ts W' H' cs' qs' ts')) w) := by
  have hn1 := size_le h1.comps; have hn2 := size_le h2.comps
  have hn3 := size_le h1.quants; have hn4 := size_le h2.quants
  have hn5 := size_le h1.tags; have hn6 := size_le h2.tags
  obtain ⟨cp, cc, ecv, _⟩ := h1.comps.form
  obtain ⟨qp, qc, eqv, _⟩ := h1.quants.form
  obtain ⟨tp, tc, etv, _⟩ := h1.tags.form
  obtain ⟨cp', cc', ecv', _⟩ := h2.comps.form
  obtain ⟨qp', qc', eqv', _⟩ := h2.quants.form
  obtain ⟨tp', tc', etv', _⟩ := h2.tags.form
  rw [List.length_map] at ecv eqv etv ecv' eqv' etv'
  subst ecv eqv etv ecv' eqv' etv'
  obtain ⟨w2, hw2⟩ : ∃ w2, w2 = (w.alloc (.cells #[.int .i64 W, .int .i64 H, .slice cp cs.length cc, .slice qp qs.length qc, .slice tp ts.length tc] 26)).alloc (.cells #[.int .i64 W', .int .i64 H', .slice cp' cs'.length cc', .slice qp' qs'.length qc', .slice tp' ts'.length tc'] 26) := ⟨_, rfl⟩
  have hB2 : Below w.heap.size w w2 := by rw [hw2]; exact (below_new _).trans ((below_new _).mono (by simp))
  have B1 : w2.heap[w.heap.size]? = some (.cells #[.int .i64 W, .int .i64 H, .slice cp cs.length cc, .slice qp qs.length qc, .slice tp ts.length tc] 26 (0, 0)) := by rw [hw2]; exact blk_old (heap_alloc_new _ _) _
  have B2 : w2.heap[w.heap.size + 1]? = some (.cells #[.int .i64 W', .int .i64 H', .slice cp' cs'.length cc', .slice qp' qs'.length qc', .slice tp' ts'.length tc'] 26 (0, 0)) := by rw [hw2]; exact heap_new (by simp)
  have HBL := Lib.hid (show ∀ w', Below w2.heap.size w2 w' → w'.heap[w.heap.size]? = some (.cells #[.int .i64 W, .int .i64 H, .slice cp cs.length cc, .slice qp qs.length qc, .slice tp ts.length tc] 26 (0, 0)) ∧ w'.heap[w.heap.size + 1]? = some (.cells #[.int .i64 W', .int .i64 H', .slice cp' cs'.length cc', .slice qp' qs'.length qc', .slice tp' ts'.length tc'] 26 (0, 0)) ∧ Below w.heap.size w w' ∧ RdImg w' (.slice cp cs.length cc) (.slice qp qs.length qc) (.slice tp ts.length tc) cs qs ts ∧ RdImg w' (.slice cp' cs'.length cc') (.slice qp' qs'.length qc') (.slice tp' ts'.length tc') cs' qs' ts' from fun w' hB => ⟨blk_below B1 hB, blk_below B2 hB, hB2.trans (hB.mono hB2.size), h1.below (hB2.trans (hB.mono hB2.size)), h2.below (hB2.trans (hB.mono hB2.size))⟩)
  obtain ⟨z1, ⟨a0, a1, a2, a3, a4⟩, _⟩ := blk5 B1
  obtain ⟨z2, ⟨c0, c1, c2, c3, c4⟩, _⟩ := blk5 B2
  have HB2 := Lib.hid hB2
  clear B1 B2 hB2 h1 h2
  cases hb1 : (W != W')
  case true =>
    have HF := Lib.hid (sameI_w (H := H) (H' := H') (cs := cs) (cs' := cs') (qs := qs) (qs' := qs') (ts := ts) (ts' := ts') hb1)
    go_enter Try.func30, Try.ntmps30
    go_wp2_with fail
    rw [← hw2]
    clear hw2
    go_wp2_with fail
    go_ret
    exact ⟨by rw [HF.out]; rfl, HB2.out⟩
  cases hb2 : (H != H')
  case true =>
    have HF := Lib.hid (sameI_h (W := W) (W' := W') (cs := cs) (cs' := cs') (qs := qs) (qs' := qs') (ts := ts) (ts' := ts') hb2)
    go_enter Try.func30, Try.ntmps30
    go_wp2_with fail
    rw [← hw2]
    clear hw2
    go_wp2_with fail
    go_ret
    exact ⟨by rw [HF.out]; rfl, HB2.out⟩
  cases hb3 : ((cs.length : Int) != (cs'.length : Int))
  case true =>
    have HF := Lib.hid (sameI_c (W := W) (W' := W') (H := H) (H' := H') (qs := qs) (qs' := qs') (ts := ts) (ts' := ts') (map_beq_len (f := dataC) (bne_len' hb3)))
    go_enter Try.func30, Try.ntmps30
    go_wp2_with fail
    rw [← hw2]
    clear hw2
    go_wp2_with fail
    go_ret
    exact ⟨by rw [HF.out]; rfl, HB2.out⟩
  cases hb4 : ((qs.length : Int) != (qs'.length : Int))
  case true =>
    have HF := Lib.hid (sameI_q (W := W) (W' := W') (H := H) (H' := H') (cs := cs) (cs' := cs') (ts := ts) (ts' := ts') (map_beq_len (f := dataQ) (bne_len' hb4)))
    go_enter Try.func30, Try.ntmps30
    go_wp2_with fail
    rw [← hw2]
    clear hw2
    go_wp2_with fail
    go_ret
    exact ⟨by rw [HF.out]; rfl, HB2.out⟩
  cases hb5 : ((ts.length : Int) != (ts'.length : Int))
  case true =>
    have HF := Lib.hid (sameI_t (W := W) (W' := W') (H := H) (H' := H') (cs := cs) (cs' := cs') (qs := qs) (qs' := qs') (map_beq_len (f := dataT) (bne_len' hb5)))
    go_enter Try.func30, Try.ntmps30
    go_wp2_with fail
    rw [← hw2]
    clear hw2
    go_wp2_with fail
    go_ret
    exact ⟨by rw [HF.out]; rfl, HB2.out⟩
  have HW := Lib.hid (show (W == W') = true from by simpa [bne] using hb1)
  have HH := Lib.hid (show (H == H') = true from by simpa [bne] using hb2)
  have HCL := Lib.hid (bne_len hb3); have HQL := Lib.hid (bne_len hb4); have HTL := Lib.hid (bne_len hb5)
  go_enter Try.func30, Try.ntmps30
  go_wp2_with fail
  rw [← hw2]
  clear hw2
  go_wp2_with fail
  clear z1 z2 a0 a1 a2 a3 a4 c0 c1 c2 c3 c4 hb1 hb2 hb3 hb4 hb5
  go_loopw [5, 6, 7] (fun i _ _ wr => ∃ k : Nat, k ≤ cs.length ∧ i = .int .i64 k ∧ Hid (Below w2.heap.size w2 wr) ∧ Hid (∀ j a b, j < k → cs[j]? = some a → cs'[j]? = some b → dataC a = dataC b)) (fun i _ _ wr => cs.length - (intOf i).toNat)
  case atStart => exact ⟨0, by omega, rfl, Below.refl _ _, fun j c d hj => absurd hj (Nat.not_lt_zero _)⟩
  case round =>
    obtain ⟨k, hkn, rfl, HB, HE⟩ := hrel
    obtain ⟨wo, rfl⟩ : ∃ wo : World, wo = wr := ⟨_, rfl⟩
    obtain ⟨y1, y2, hBw, hR1, hR2⟩ := HBL.out wo HB.out
    have HBW := Lib.hid hBw; have HR1 := Lib.hid hR1; have HR2 := Lib.hid hR2
    obtain ⟨z1, ⟨a0, a1, a2, a3, a4⟩, _⟩ := blk5 y1
    obtain ⟨z2, ⟨c0, c1, c2, c3, c4⟩, _⟩ := blk5 y2
    clear y1 y2 hBw hR1 hR2 a0 a1 a3 a4 c0 c1 c3 c4
    by_cases hlt : k < cs.length
    · obtain ⟨a, ha⟩ : ∃ a, cs[k]? = some a := ⟨_, List.getElem?_eq_getElem hlt⟩
      obtain ⟨b, hb⟩ : ∃ b, cs'[k]? = some b := ⟨_, List.getElem?_eq_getElem (by rw [← HCL.out]; exact hlt)⟩
      obtain ⟨ba, oa, p6, k6, rfl, hba, r0, r1, r2, r3, r4, r5, r6, e6⟩ := HR1.out.row rfl ha
      obtain ⟨bb, ob, p7, k7, rfl, hbb, s0, s1, s2, s3, s4, s5, s6, e7⟩ := HR2.out.row rfl hb
      have HA := Lib.hid ha; have HBb := Lib.hid hb
      have hk1 : (k : Int) < (cs.length : Int) := by omega
      have hk2 : (k : Int) < (cs'.length : Int) := by have := HCL.out; omega
      have hra := HR1.out.blocks a (List.mem_of_getElem? ha)
      have hrb := HR2.out.blocks b (List.mem_of_getElem? hb)
      rw [e6] at hra
      rw [e7] at hrb
      have HNO := Lib.hid (show (dataC a == dataC b) = false → sameI W H cs qs ts W' H' cs' qs' ts' = false from fun h => sameI_c (map_beq_false ha hb h))
      have HDC := Lib.hid (sameC_data a b)
      have HRA := Lib.hid hra; have HRB := Lib.hid hrb
      clear ha hb hra hrb
      go_wp2_with fail
      go_cut [6, 7] (fun t6 t7 wx => ∃ n m, t6 = .pointer (some ⟨n, 0, none⟩) ∧ t7 = .pointer (some ⟨m, 0, none⟩) ∧ wx.heap[n]? = some (.cells #[.int .i64 a.id, .int .i64 a.h, .int .i64 a.v, .int .i64 a.q, .int .i64 a.cols, .int .i64 a.rows, .slice p6 a.bs.length k6] 63 (0, 0)) ∧ wx.heap[m]? = some (.cells #[.int .i64 b.id, .int .i64 b.h, .int .i64 b.v, .int .i64 b.q, .int .i64 b.cols, .int .i64 b.rows, .slice p7 b.bs.length k7] 63 (0, 0)) ∧ Hid (Below wo.heap.size wo wx))
      case first =>
        go_region_held3 (fun wx => wx.cell? ⟨w.heap.size, 2, none⟩ = some (.slice (some ⟨ba, oa, none⟩) cs.length cc) ∧ wx.cell? ⟨w.heap.size + 1, 2, none⟩ = some (.slice (some ⟨bb, ob, none⟩) cs'.length cc') ∧ wx.cell? ⟨ba, oa + k * 7, none⟩ = some (.int .i64 a.id) ∧ wx.cell? ⟨ba, oa + k * 7 + 1, none⟩ = some (.int .i64 a.h) ∧ wx.cell? ⟨ba, oa + k * 7 + 2, none⟩ = some (.int .i64 a.v) ∧ wx.cell? ⟨ba, oa + k * 7 + 3, none⟩ = some (.int .i64 a.q) ∧ wx.cell? ⟨ba, oa + k * 7 + 4, none⟩ = some (.int .i64 a.cols) ∧ wx.cell? ⟨ba, oa + k * 7 + 5, none⟩ = some (.int .i64 a.rows) ∧ wx.cell? ⟨ba, oa + k * 7 + 6, none⟩ = some (.slice p6 a.bs.length k6) ∧ wx.cell? ⟨bb, ob + k * 7, none⟩ = some (.int .i64 b.id) ∧ wx.cell? ⟨bb, ob + k * 7 + 1, none⟩ = some (.int .i64 b.h) ∧ wx.cell? ⟨bb, ob + k * 7 + 2, none⟩ = some (.int .i64 b.v) ∧ wx.cell? ⟨bb, ob + k * 7 + 3, none⟩ = some (.int .i64 b.q) ∧ wx.cell? ⟨bb, ob + k * 7 + 4, none⟩ = some (.int .i64 b.cols) ∧ wx.cell? ⟨bb, ob + k * 7 + 5, none⟩ = some (.int .i64 b.rows) ∧ wx.cell? ⟨bb, ob + k * 7 + 6, none⟩ = some (.slice p7 b.bs.length k7)) (first | exact ⟨a2, c2, r0, r1, r2, r3, r4, r5, r6, s0, s1, s2, s3, s4, s5, s6⟩ | (refine ⟨?_, ?_, ?_, ?_, ?_, ?_, ?_, ?_, ?_, ?_, ?_, ?_, ?_, ?_, ?_, ?_⟩ <;> go_simp)) (fail)
        all_goals
          go_wp2_with fail
          go_meet
          first
          | exact ⟨_, _, rfl, rfl, blk_old (heap_alloc_new _ _) _, heap_new (by simp), ((below_new _).trans ((below_new _).mono (by simp))).drew⟩
          | exact ⟨_, _, rfl, rfl, heap_new (by simp), blk_old (heap_alloc_new _ _) _, ((below_new _).trans ((below_new _).mono (by simp))).drew⟩
      case rest =>
        obtain ⟨n, m, rfl, rfl, BN, BM, HBc⟩ := hcut
        have HB5 := Lib.hid (HB.out.trans (HBc.out.mono HB.out.size))
        have HBW5 := Lib.hid (HBW.out.trans (HBc.out.mono HBW.out.size))
        have HPS := Lib.hid (refPlSame_any (c1 := a.cols) (r1 := a.rows) (c2 := b.cols) (r2 := b.rows) (HRA.out.below HBc.out) (HRB.out.below HBc.out))
        obtain ⟨j0, j1, j2, j3, j4, j5, j6, j7⟩ := comp_cells BN
        obtain ⟨l0, l1, l2, l3, l4, l5, l6, l7⟩ := comp_cells BM
        clear z1 z2 a2 c2 r0 r1 r2 r3 r4 r5 r6 s0 s1 s2 s3 s4 s5 s6 BN BM e6 e7 hba hbb
        cases hd1 : (a.id != b.id)
        case true =>
          have HF := Lib.hid (HNO.out (by rw [← HDC.out]; unfold sameC; rw [show (a.id == b.id) = false from by simpa [bne] using hd1]; simp))
          go_wp2_with fail
          go_ret
          exact ⟨by rw [HF.out]; rfl, HBW5.out⟩
        cases hd2 : (a.h != b.h)
        case true =>
          have HF := Lib.hid (HNO.out (by rw [← HDC.out]; unfold sameC; rw [show (a.h == b.h) = false from by simpa [bne] using hd2]; simp))
          go_wp2_with fail
          go_ret
          exact ⟨by rw [HF.out]; rfl, HBW5.out⟩
        cases hd3 : (a.v != b.v)
        case true =>
          have HF := Lib.hid (HNO.out (by rw [← HDC.out]; unfold sameC; rw [show (a.v == b.v) = false from by simpa [bne] using hd3]; simp))
          go_wp2_with fail
          go_ret
          exact ⟨by rw [HF.out]; rfl, HBW5.out⟩
        cases hd4 : (a.q != b.q)
        case true =>
          have HF := Lib.hid (HNO.out (by rw [← HDC.out]; unfold sameC; rw [show (a.q == b.q) = false from by simpa [bne] using hd4]; simp))
          go_wp2_with fail
          go_ret
          exact ⟨by rw [HF.out]; rfl, HBW5.out⟩
        have HDE := Lib.hid (show (dataC a == dataC b) = (a.cols == b.cols && (a.rows == b.rows && a.bs == b.bs)) from by
          rw [← HDC.out]; unfold sameC
          rw [show (a.id == b.id) = true from by simpa [bne] using hd1, show (a.h == b.h) = true from by simpa [bne] using hd2, show (a.v == b.v) = true from by simpa [bne] using hd3, show (a.q == b.q) = true from by simpa [bne] using hd4]
          simp)
        generalize (a.cols == b.cols && (a.rows == b.rows && a.bs == b.bs)) = pe at *
        go_wp2_with fail
        refine HPS.out.mono ?_
        rintro e w6 ⟨rfl, hB6⟩
        have HB6 := Lib.hid (HB5.out.trans (hB6.mono HB5.out.size))
        have HBW6 := Lib.hid (HBW5.out.trans (hB6.mono HBW5.out.size))
        clear hB6 hd1 hd2 hd3 hd4 j0 j1 j2 j3 j4 j5 j6 l0 l1 l2 l3 l4 l5 l6
        cases pe with
        | false =>
          have HF := Lib.hid (HNO.out HDE.out)
          go_wp2_with fail
          go_ret
          exact ⟨by rw [HF.out]; rfl, HBW6.out⟩
        | true =>
          have HZ := Lib.hid (show dataC a = dataC b from by have := HDE.out; simpa using this)
          go_wp2_with fail
          go_roundw
          case rel => exact ⟨k + 1, by omega, by go_num, HB6.out, fun j c' d' hj h1 h2 => by
            by_cases h : j = k
            · subst h
              rw [HA.out] at h1
              rw [HBb.out] at h2
              cases h1; cases h2
              exact HZ.out
            · exact HE.out j c' d' (by omega) h1 h2⟩
          case measure => simp [intOf]; omega
    · obtain rfl : k = cs.length := by omega
      have HFC := Lib.hid (map_beq_true (f := dataC) HCL.out (fun i a b hi h1 h2 => HE.out i a b hi h1 h2))
      have HBQ := Lib.hid HB.out
      clear hkn hlt z1 z2 HE HBW HR1 HR2
      go_wp2_with fail
      clear a2 c2
      go_loopw [8] (fun i wr => ∃ k : Nat, k ≤ qs.length ∧ i = .int .i64 k ∧ Hid (Below w2.heap.size w2 wr) ∧ Hid (∀ j a b, j < k → qs[j]? = some a → qs'[j]? = some b → dataQ a = dataQ b)) (fun i wr => qs.length - (intOf i).toNat)
      case atStart => exact ⟨0, by omega, rfl, HBQ.out, fun j c d hj => absurd hj (Nat.not_lt_zero _)⟩
      case round =>
        obtain ⟨k, hkn, rfl, HB, HE⟩ := hrel
        obtain ⟨wo, rfl⟩ : ∃ wo : World, wo = wr := ⟨_, rfl⟩
        obtain ⟨y1, y2, hBw, hR1, hR2⟩ := HBL.out wo HB.out
        have HBW := Lib.hid hBw; have HR1 := Lib.hid hR1; have HR2 := Lib.hid hR2
        obtain ⟨z1, ⟨a0, a1, a2, a3, a4⟩, _⟩ := blk5 y1
        obtain ⟨z2, ⟨c0, c1, c2, c3, c4⟩, _⟩ := blk5 y2
        clear y1 y2 hBw hR1 hR2 a0 a1 a2 a4 c0 c1 c2 c4
        by_cases hlt : k < qs.length
        · obtain ⟨a, ha⟩ : ∃ a, qs[k]? = some a := ⟨_, List.getElem?_eq_getElem hlt⟩
          obtain ⟨b, hb⟩ : ∃ b, qs'[k]? = some b := ⟨_, List.getElem?_eq_getElem (by rw [← HQL.out]; exact hlt)⟩
          obtain ⟨ba, oa, rfl, _, hra, _⟩ := HR1.out.qrow rfl ha
          obtain ⟨bb, ob, rfl, _, hrb, _⟩ := HR2.out.qrow rfl hb
          have HS1 := Lib.hid (HR1.out.qfacts (List.mem_of_getElem? ha)).1
          have HS2 := Lib.hid (HR2.out.qfacts (List.mem_of_getElem? hb)).1
          have HQ := Lib.hid (fun w' => neq_quant w' a b (HR1.out.qlen (List.mem_of_getElem? ha)) (HR2.out.qlen (List.mem_of_getElem? hb)))
          have HX1 := Lib.hid hra; have HX2 := Lib.hid hrb
          have HA := Lib.hid ha; have HBb := Lib.hid hb
          have hk1 : (k : Int) < (qs.length : Int) := by omega
          have hk2 : (k : Int) < (qs'.length : Int) := by have := HQL.out; omega
          clear ha hb hra hrb
          go_wp2_with fail
          refine wp_region_calm (by kernel_rfl) (by kernel_rfl) ?_
          repeat ((first | (refine calm_load_mid rfl 39 _ rfl ba (oa + k * 65) rfl (quantRow a) _ HX1.out Try.underlying39 rfl HS1.out ?_) | (refine calm_load_mid rfl 39 _ rfl bb (ob + k * 65) rfl (quantRow b) _ HX2.out Try.underlying39 rfl HS2.out ?_) | (refine calm_neq_agg rfl 39 _ _ _ rfl _ _ rfl rfl _ eqg_Quant (fun w' _ => HQ.out w') ?_) | (refine calm_ex rfl ?_; apply Exists.intro; refine ⟨fun w' hC => ?_, ?_⟩; (focus (have hcc := old_cell hC a3; have hdd := old_cell hC c3; go_simp; with_reducible rfl))) | (refine calm_skip rfl ?_) | (refine calm_ex rfl ?_; apply Exists.intro; refine ⟨fun w' hC => ?_, ?_⟩; (focus (go_simp; with_reducible rfl)))); (try simp only [Act.put, List.setIfInBounds_toArray, List.set_cons_zero, List.set_cons_succ]))
          refine wpQuiet_nil ?_
          intro w3 hB3
          have HB3 := Lib.hid (HB.out.trans (hB3.mono HB.out.size))
          have HBW3 := Lib.hid (HBW.out.trans (hB3.mono HBW.out.size))
          clear hB3 a3 c3
          cases hz : (dataQ a == dataQ b) with
          | true =>
            have HZ := Lib.hid (show dataQ a = dataQ b from by simpa using hz)
            clear hz
            go_wp2_with fail
            go_roundw
            case rel => exact ⟨k + 1, by omega, by go_num, HB3.out, fun j c' d' hj h1 h2 => by
              by_cases h : j = k
              · subst h
                rw [HA.out] at h1
                rw [HBb.out] at h2
                cases h1; cases h2
                exact HZ.out
              · exact HE.out j c' d' (by omega) h1 h2⟩
            case measure => simp [intOf]; omega
          | false =>
            have HF := Lib.hid (sameI_q (W := W) (W' := W') (H := H) (H' := H') (cs := cs) (cs' := cs') (ts := ts) (ts' := ts') (map_beq_false HA.out HBb.out hz))
            clear hz
            go_wp2_with fail
            go_ret
            exact ⟨by rw [HF.out]; rfl, HBW3.out⟩
        · obtain rfl : k = qs.length := by omega
          have HFQ := Lib.hid (map_beq_true (f := dataQ) HQL.out (fun i a b hi h1 h2 => HE.out i a b hi h1 h2))
          clear hkn hlt
          go_wp2_with fail
          have HBT := Lib.hid HB.out
          clear a3 c3 z1 z2 HE HBW HR1 HR2
          go_loopw [9] (fun i wr => ∃ k : Nat, k ≤ ts.length ∧ i = .int .i64 k ∧ Hid (Below w2.heap.size w2 wr) ∧ Hid (∀ j a b, j < k → ts[j]? = some a → ts'[j]? = some b → dataT a = dataT b)) (fun i wr => ts.length - (intOf i).toNat)
          case atStart => exact ⟨0, by omega, rfl, HBT.out, fun j c d hj => absurd hj (Nat.not_lt_zero _)⟩
          case round =>
            obtain ⟨k, hkn, rfl, HB, HE⟩ := hrel
            obtain ⟨wo, rfl⟩ : ∃ wo : World, wo = wr := ⟨_, rfl⟩
            obtain ⟨y1, y2, hBw, hR1, hR2⟩ := HBL.out wo HB.out
            have HBW := Lib.hid hBw; have HR1 := Lib.hid hR1; have HR2 := Lib.hid hR2
            obtain ⟨z1, ⟨a0, a1, a2, a3, a4⟩, _⟩ := blk5 y1
            obtain ⟨z2, ⟨c0, c1, c2, c3, c4⟩, _⟩ := blk5 y2
            clear y1 y2 hBw hR1 hR2 a0 a1 a2 a3 c0 c1 c2 c3
            by_cases hlt : k < ts.length
            · obtain ⟨a, ha⟩ : ∃ a, ts[k]? = some a := ⟨_, List.getElem?_eq_getElem hlt⟩
              obtain ⟨b, hb⟩ : ∃ b, ts'[k]? = some b := ⟨_, List.getElem?_eq_getElem (by rw [← HTL.out]; exact hlt)⟩
              obtain ⟨ba, oa, rfl, hra⟩ := HR1.out.trange rfl ha
              obtain ⟨bb, ob, rfl, hrb⟩ := HR2.out.trange rfl hb
              have HS1 := Lib.hid (size_Tag : (Try.prog.info? 104).map (·.size) = some (tagRow a).length)
              have HS2 := Lib.hid (size_Tag : (Try.prog.info? 104).map (·.size) = some (tagRow b).length)
              have HQ := Lib.hid (fun w' => neq_tag w' a b)
              have HX1 := Lib.hid hra; have HX2 := Lib.hid hrb
              have HA := Lib.hid ha; have HBb := Lib.hid hb
              have hk1 : (k : Int) < (ts.length : Int) := by omega
              have hk2 : (k : Int) < (ts'.length : Int) := by have := HTL.out; omega
              clear ha hb hra hrb
              go_wp2_with fail
              refine wp_region_calm (by kernel_rfl) (by kernel_rfl) ?_
              repeat ((first | (refine calm_load_mid rfl 104 _ rfl ba (oa + k * 2) rfl (tagRow a) _ HX1.out Try.underlying104 rfl HS1.out ?_) | (refine calm_load_mid rfl 104 _ rfl bb (ob + k * 2) rfl (tagRow b) _ HX2.out Try.underlying104 rfl HS2.out ?_) | (refine calm_neq_agg rfl 104 _ _ _ rfl _ _ rfl rfl _ eqg_Tag (fun w' _ => HQ.out w') ?_) | (refine calm_ex rfl ?_; apply Exists.intro; refine ⟨fun w' hC => ?_, ?_⟩; (focus (have hcc := old_cell hC a4; have hdd := old_cell hC c4; go_simp; with_reducible rfl))) | (refine calm_skip rfl ?_) | (refine calm_ex rfl ?_; apply Exists.intro; refine ⟨fun w' hC => ?_, ?_⟩; (focus (go_simp; with_reducible rfl)))); (try simp only [Act.put, List.setIfInBounds_toArray, List.set_cons_zero, List.set_cons_succ]))
              refine wpQuiet_nil ?_
              intro w3 hB3
              have HB3 := Lib.hid (HB.out.trans (hB3.mono HB.out.size))
              have HBW3 := Lib.hid (HBW.out.trans (hB3.mono HBW.out.size))
              clear hB3 a4 c4
              cases hz : (dataT a == dataT b) with
              | true =>
                have HZ := Lib.hid (show dataT a = dataT b from by simpa using hz)
                clear hz
                go_wp2_with fail
                go_roundw
                case rel => exact ⟨k + 1, by omega, by go_num, HB3.out, fun j c' d' hj h1 h2 => by
                  by_cases h : j = k
                  · subst h
                    rw [HA.out] at h1
                    rw [HBb.out] at h2
                    cases h1; cases h2
                    exact HZ.out
                  · exact HE.out j c' d' (by omega) h1 h2⟩
                case measure => simp [intOf]; omega
              | false =>
                have HF := Lib.hid (sameI_t (W := W) (W' := W') (H := H) (H' := H') (cs := cs) (cs' := cs') (qs := qs) (qs' := qs') (map_beq_false HA.out HBb.out hz))
                clear hz
                go_wp2_with fail
                go_ret
                exact ⟨by rw [HF.out]; rfl, HBW3.out⟩
            · obtain rfl : k = ts.length := by omega
              have HFT := Lib.hid (map_beq_true (f := dataT) HTL.out (fun i a b hi h1 h2 => HE.out i a b hi h1 h2))
              clear hkn hlt
              go_wp2_with fail
              have HF := Lib.hid (show sameI W H cs qs ts W' H' cs' qs' ts' = true from by
                unfold sameI
                rw [HW.out, HH.out, HFC.out, HFQ.out, HFT.out]
                rfl)
              go_ret
              exact ⟨by rw [HF.out]; rfl, HBW.out⟩
end Aq
end Go.Proofs.Ytaacpoadfdmfnaa
