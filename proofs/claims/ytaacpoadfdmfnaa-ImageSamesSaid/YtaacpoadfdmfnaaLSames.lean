/-
  ImageSames: whether any two images are alike is the document's. No condition.
-/
import Derived.Test.YtaacpoadfdmfnaaAwake11
import Derived.Test.YtaacpoadfdmfnaaOpen
import Derived.Test.YtaacpoadfdmfnaaSmall
import Derived.Test.YtaacpoadfdmfnaaRefSame2
import Derived.Test.YtaacpoadfdmfnaaLTables
import Derived.BigQuiet
namespace Go.Proofs.Ytaacpoadfdmfnaa
open Go Go.RowKit Go.Shelf
namespace Aq
theorem sameI_refl (W H : Int) (cs : List Comp) (qs : List Quant) (ts : List Tag) : sameI W H cs qs ts W H cs qs ts = true := by simp [sameI]
set_option maxRecDepth 100000 in
set_option maxHeartbeats 4000000 in
theorem imageSames_any {w : World} {W H W' H' : Int} {cv qv tv cv' qv' tv' : Value} {cs cs' : List Comp} {qs qs' : List Quant} {ts ts' : List Tag} (h1 : RdImg w cv qv tv cs qs ts) (h2 : RdImg w cv' qv' tv' cs' qs' ts') :
    Calls Try.prog 7 #[.agg #[.int .i64 W, .int .i64 H, cv, qv, tv], .agg #[.int .i64 W', .int .i64 H', cv', qv', tv']] w (Ret (.bool true) w) := by
  obtain ⟨cp, cc, qp, qc, tp, tc, rfl, rfl, rfl, -⟩ := boxed_img (W := W) (H := H) h1
  obtain ⟨cp', cc', qp', qc', tp', tc', rfl, rfl, rfl, -⟩ := boxed_img (W := W') (H := H') h2
  obtain ⟨w2, hw2⟩ : ∃ w2, w2 = (w.alloc (.cells #[.int .i64 W, .int .i64 H, .slice cp cs.length cc, .slice qp qs.length qc, .slice tp ts.length tc] 26)).alloc (.cells #[.int .i64 W', .int .i64 H', .slice cp' cs'.length cc', .slice qp' qs'.length qc', .slice tp' ts'.length tc'] 26) := ⟨_, rfl⟩
  have hB2 : Below w.heap.size w w2 := by rw [hw2]; exact (below_new _).trans ((below_new _).mono (by simp))
  have B1 : w2.heap[w.heap.size]? = some (.cells #[.int .i64 W, .int .i64 H, .slice cp cs.length cc, .slice qp qs.length qc, .slice tp ts.length tc] 26 (0, 0)) := by rw [hw2]; exact blk_old (heap_alloc_new _ _) _
  have B2 : w2.heap[w.heap.size + 1]? = some (.cells #[.int .i64 W', .int .i64 H', .slice cp' cs'.length cc', .slice qp' qs'.length qc', .slice tp' ts'.length tc'] 26 (0, 0)) := by rw [hw2]; exact heap_new (by simp)
  have HBL := Lib.hid (show ∀ w', Below w2.heap.size w2 w' → w'.heap[w.heap.size]? = some (.cells #[.int .i64 W, .int .i64 H, .slice cp cs.length cc, .slice qp qs.length qc, .slice tp ts.length tc] 26 (0, 0)) ∧ w'.heap[w.heap.size + 1]? = some (.cells #[.int .i64 W', .int .i64 H', .slice cp' cs'.length cc', .slice qp' qs'.length qc', .slice tp' ts'.length tc'] 26 (0, 0)) ∧ Below w.heap.size w w' ∧ RdImg w' (.slice cp cs.length cc) (.slice qp qs.length qc) (.slice tp ts.length tc) cs qs ts ∧ RdImg w' (.slice cp' cs'.length cc') (.slice qp' qs'.length qc') (.slice tp' ts'.length tc') cs' qs' ts' from fun w' hB => ⟨blk_below B1 hB, blk_below B2 hB, hB2.trans (hB.mono hB2.size), h1.below (hB2.trans (hB.mono hB2.size)), h2.below (hB2.trans (hB.mono hB2.size))⟩)
  clear B1 B2 hB2 h1 h2
  go_enter Try.func7, Try.ntmps7
  go_wp2_with fail
  rw [← hw2]
  clear hw2
  go_wp2_with fail
  refine (awake11_any _).mono ?_
  rintro e w3 ⟨rfl, hB3⟩
  obtain ⟨b1, b2, hB, hI1, hI2⟩ := HBL.out w3 hB3
  obtain ⟨s1, ⟨m0, m1, m2, m3, m4⟩, _⟩ := blk5 b1
  obtain ⟨s2, ⟨n0, n1, n2, n3, n4⟩, _⟩ := blk5 b2
  have HI1 := Lib.hid hI1; have HI2 := Lib.hid hI2; have HB := Lib.hid hB; have HB3 := Lib.hid hB3
  clear b1 b2 hI1 hI2 hB hB3
  by_cases hf : fewB 300 140000 cs qs ts = true
  · have HF := Lib.hid hf
    clear hf
    go_wp2_with fail
    refine (small_yes HI1.out HF.out).mono ?_
    rintro e w4 ⟨rfl, hB4⟩
    obtain ⟨b1, b2, hB, hI1, hI2⟩ := HBL.out w4 (HB3.out.trans (hB4.mono HB3.out.size))
    clear s1 s2 m0 m1 m2 m3 m4 n0 n1 n2 n3 n4
    obtain ⟨s1, ⟨m0, m1, m2, m3, m4⟩, _⟩ := blk5 b1
    obtain ⟨s2, ⟨n0, n1, n2, n3, n4⟩, _⟩ := blk5 b2
    have HB34 := Lib.hid (HB3.out.trans (hB4.mono HB3.out.size))
    have HI1 := Lib.hid hI1; have HI2 := Lib.hid hI2; have HB := Lib.hid hB
    clear b1 b2 hI1 hI2 hB hB4
    by_cases hf : fewB 300 140000 cs' qs' ts' = true
    · have HF2 := Lib.hid hf
      clear hf
      go_wp2_with fail
      refine (small_yes HI2.out HF2.out).mono ?_
      rintro e w5 ⟨rfl, hB5⟩
      obtain ⟨b1, b2, hB, hI1, hI2⟩ := HBL.out w5 (HB34.out.trans (hB5.mono HB34.out.size))
      clear s1 s2 m0 m1 m2 m3 m4 n0 n1 n2 n3 n4
      obtain ⟨s1, ⟨m0, m1, m2, m3, m4⟩, _⟩ := blk5 b1
      obtain ⟨s2, ⟨n0, n1, n2, n3, n4⟩, _⟩ := blk5 b2
      have HI1 := Lib.hid hI1; have HI2 := Lib.hid hI2; have HB := Lib.hid hB
      clear b1 b2 hI1 hI2 hB hB5
      have HS1 := Lib.hid (show ∀ w', Below w5.heap.size w5 w' → Calls Try.prog 29 #[.agg #[.int .i64 W, .int .i64 H, .slice cp cs.length cc, .slice qp qs.length qc, .slice tp ts.length tc], .agg #[.int .i64 W', .int .i64 H', .slice cp' cs'.length cc', .slice qp' qs'.length qc', .slice tp' ts'.length tc']] w' (Ret (.bool (sameI W H cs qs ts W' H' cs' qs' ts')) w') from fun w' hB => imageSame_any (HI1.out.below hB) (HI2.out.below hB))
      have HS2 := Lib.hid (show ∀ w', Below w5.heap.size w5 w' → Calls Try.prog 30 #[.agg #[.int .i64 W, .int .i64 H, .slice cp cs.length cc, .slice qp qs.length qc, .slice tp ts.length tc], .agg #[.int .i64 W', .int .i64 H', .slice cp' cs'.length cc', .slice qp' qs'.length qc', .slice tp' ts'.length tc']] w' (Ret (.bool (sameI W H cs qs ts W' H' cs' qs' ts')) w') from fun w' hB => refSame_any (HI1.out.below hB) (HI2.out.below hB))
      have HS3 := Lib.hid (show ∀ w', Below w5.heap.size w5 w' → Calls Try.prog 29 #[.agg #[.int .i64 W, .int .i64 H, .slice cp cs.length cc, .slice qp qs.length qc, .slice tp ts.length tc], .agg #[.int .i64 W, .int .i64 H, .slice cp cs.length cc, .slice qp qs.length qc, .slice tp ts.length tc]] w' (Ret (.bool true) w') from fun w' hB => by
        have := imageSame_any (W := W) (H := H) (W' := W) (H' := H) (HI1.out.below hB) (HI1.out.below hB)
        rw [sameI_refl] at this
        exact this)
      generalize sameI W H cs qs ts W' H' cs' qs' ts' = sc at *
      go_wp2_with fail
      cases sc
      all_goals
        refine wp_region_calm (by kernel_rfl) (by kernel_rfl) ?_
        repeat ((first | (refine calm_ret (f := 29) rfl ?_ (fun w' hC => HS1.out w' hC) ?_; (focus (intro w' hC; go_simp; done))) | (refine calm_ret (f := 29) rfl ?_ (fun w' hC => HS3.out w' hC) ?_; (focus (intro w' hC; go_simp; done))) | (refine calm_ret (f := 30) rfl ?_ (fun w' hC => HS2.out w' hC) ?_; (focus (intro w' hC; go_simp; done))) | (refine calm_ex rfl ?_; apply Exists.intro; refine ⟨fun w' hC => ?_, ?_⟩; (focus (have h0 := old_cell hC m0; have h1 := old_cell hC m1; have h2 := old_cell hC m2; have h3 := old_cell hC m3; have h4 := old_cell hC m4; have k0 := old_cell hC n0; have k1 := old_cell hC n1; have k2 := old_cell hC n2; have k3 := old_cell hC n3; have k4 := old_cell hC n4; go_simp; with_reducible rfl))) | (refine calm_skip rfl ?_) | (refine calm_ex rfl ?_; apply Exists.intro; refine ⟨fun w' hC => ?_, ?_⟩; (focus (go_simp; with_reducible rfl)))); (try simp only [Act.put, List.setIfInBounds_toArray, List.set_cons_zero, List.set_cons_succ]))
        refine wpQuiet_nil ?_
        intro w6 hB6
        have HB6 := Lib.hid (HB.out.trans (hB6.mono HB.out.size))
        clear hB6
        go_wp2_with fail
        go_ret
        exact ⟨rfl, HB6.out⟩
    · have HF2 := Lib.hid hf
      clear hf
      go_wp2_with fail
      refine (small_no HI2.out HF2.out).mono ?_
      rintro e w5 ⟨rfl, hB5⟩
      have HB5 := Lib.hid (HB.out.trans (hB5.mono HB.out.size))
      clear hB5
      go_wp2_with fail
      refine (awake11_any _).mono ?_
      rintro e w6 ⟨rfl, hB6⟩
      go_wp2_with fail
      go_ret
      exact ⟨rfl, HB5.out.trans (hB6.mono HB5.out.size)⟩
  · have HF := Lib.hid hf
    clear hf
    go_wp2_with fail
    refine (small_no HI1.out HF.out).mono ?_
    rintro e w5 ⟨rfl, hB5⟩
    have HB5 := Lib.hid (HB.out.trans (hB5.mono HB.out.size))
    clear hB5
    go_wp2_with fail
    refine (awake11_any _).mono ?_
    rintro e w6 ⟨rfl, hB6⟩
    go_wp2_with fail
    go_ret
    exact ⟨rfl, HB5.out.trans (hB6.mono HB5.out.size)⟩
end Aq
end Go.Proofs.Ytaacpoadfdmfnaa
