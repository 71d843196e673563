/-
  What image.planes answers.
-/
import Derived.Test.YtaacpoadfdmfnaaFrameIm
import Derived.Test.YtaacpoadfdmfnaaEach
namespace Go.Proofs.Ytaacpoadfdmfnaa
open Go Go.RowKit Go.Shelf
namespace Aq
def planeErr (gs : List Grid) (cs : List Comp) (i : Nat) : Int :=
  match cs[i]? with
  | some c => testE (planeB c.cols c.rows c.bs.length && (c.cols == (gs.getD i noGrid).cols) && (c.rows == (gs.getD i noGrid).rows)) 4
  | none => 0
set_option maxHeartbeats 1000000 in
theorem planes1_any (w : World) (B : Nat) (fv : Value) (gs : List Grid) (cs : List Comp) (i : Nat) (c : Comp) (hc : cs[i]? = some c) (hi : i ≤ 140737488355328) (hF : RdFV w fv gs) (hcell : w.cell? ⟨B, 0, none⟩ = some fv)
    (p : Option Addr) (cap : Nat) (hbv : c.bv = .slice p c.bs.length cap) :
    Calls Try.prog 117 #[.int .i64 i, .agg (compRow c).toArray, .pointer (some ⟨B, 0, none⟩)] w (Ret (.int .i64 (planeErr gs cs i)) w) := by
  obtain ⟨fq, rfl⟩ : ∃ q, fv = .pointer q := by cases hF <;> exact ⟨_, rfl⟩
  have HE := Lib.hid (show planeErr gs cs i = testE (planeB c.cols c.rows c.bs.length && (c.cols == (gs.getD i noGrid).cols) && (c.rows == (gs.getD i noGrid).rows)) 4 from by simp only [planeErr, hc])
  obtain ⟨w1, hw1⟩ : ∃ w1, w1 = w.alloc (.cells (compRow c).toArray 63) := ⟨_, rfl⟩
  have hB1 : Below w.heap.size w w1 := by rw [hw1]; exact below_new _
  have hG := Lib.hid (grid_any (hF.below hB1) i hi)
  have hcell1 : w1.cell? ⟨B, 0, none⟩ = some (.pointer fq) := old_cell hB1 hcell
  have hrow : ∀ j v, (compRow c)[j]? = some v → w1.cell? ⟨w.heap.size, j, none⟩ = some v := fun j v hv => by
    rw [hw1]; exact new_cell (Below.refl _ _) j (by simpa using hv)
  have hb : B < w1.heap.size := lt_of_cell hcell1
  have h4 := hrow 4 _ rfl
  have h5 := hrow 5 _ rfl
  have h6 : w1.cell? ⟨w.heap.size, 6, none⟩ = some (.slice p c.bs.length cap) := by rw [← hbv]; exact hrow 6 _ rfl
  have hs1 : w.heap.size < w1.heap.size := by rw [hw1]; simp
  obtain ⟨g, hg⟩ : ∃ g, g = gs.getD i noGrid := ⟨_, rfl⟩
  rw [← hg] at hG HE
  have hb0 : B < w.heap.size := lt_of_cell hcell
  clear hg hF hc
  go_enter Try.func117, Try.ntmps117
  go_wp2_with fail
  rw [← hw1]
  clear hw1 hrow hcell hb0
  refine hG.out.mono ?_
  rintro e w2 ⟨rfl, hB2⟩
  have h42 := old_cell hB2 h4
  have h52 := old_cell hB2 h5
  have h62 := old_cell hB2 h6
  have hs2 : w.heap.size < w2.heap.size := by have := hB2.size; omega
  have HB := Lib.hid (hB1.trans (hB2.mono hB1.size))
  clear h4 h5 h6 hB2 hB1 hcell1 hG
  simp only [gridRow]
  have HP := Lib.hid (fun w => planeRight_any w c.cols c.rows p c.bs.length cap)
  generalize planeB c.cols c.rows c.bs.length = pb at *
  have hs22 : w2.heap.size < w2.heap.size + 1 := Nat.lt_succ_self _
  cases pb
  all_goals
    go_wp2_with (first | (go_at_call 118; refine (HP.out _).mono ?_; rintro e w3 ⟨rfl, hB3⟩; (have hB23 := (below_new _).trans (hB3.mono (by simp))); (have q4 := old_cell hB23 h42); (have q5 := old_cell hB23 h52); (have g0 := new_cell (v := .int .i64 g.cols) hB3 0 rfl); (have g1 := new_cell (v := .int .i64 g.rows) hB3 1 rfl)) | (go_at_call 110; refine (test_any _ _ _).mono ?_; rintro e w4 ⟨rfl, hB4⟩))
    all_goals
      go_ret
      refine ⟨ret_int ?_, HB.out.trans ((hB23.mono HB.out.size).trans (hB4.mono (by have := HB.out.size; have := hB23.size; omega)))⟩
      rw [HE.out]
      first | rfl | simp_all [testE]
/-- The grids of an image's frame; none where it has no frame. -/
def gsOf (W H : Int) (cs : List Comp) : List Grid := if newErr W H (partsOf cs) = 0 then gridsOf W H (fixP (partsOf cs)) else []
theorem RdImg.bvs {w : World} {cv qv tv : Value} {cs : List Comp} {qs : List Quant} {ts : List Tag} (h : RdImg w cv qv tv cs qs ts) : ∀ c, c ∈ cs → ∃ p cap, c.bv = .slice p c.bs.length cap := fun c hc => by
  obtain ⟨p, cap, e, _⟩ := (h.blocks c hc).form
  rw [List.length_map] at e
  exact ⟨p, cap, e⟩
theorem FrP.gives {w w' : World} {W H : Int} {cs : List Comp} {e : Ending} (h : FrP w W H (partsOf cs) e w') :
    ∃ q, e = .returned (.tuple #[.pointer q, .int .i64 (newErr W H (partsOf cs))]) ∧ RdFV w' (.pointer q) (gsOf W H cs) ∧ Below w.heap.size w w' := by
  obtain ⟨hB, ⟨hne, rfl⟩ | ⟨h0, F, hF, rfl, hRF⟩⟩ := h
  · exact ⟨none, rfl, by unfold gsOf; rw [if_neg hne]; exact .none, hB⟩
  · refine ⟨some ⟨F, 0, none⟩, by rw [h0], ?_, hB⟩
    unfold gsOf
    rw [if_pos h0]
    exact .some F W H _ (hRF _ (fun _ _ _ => rfl))
theorem planes_each {w w2 : World} {cv qv tv : Value} {cs : List Comp} {qs : List Quant} {ts : List Tag} (hR : RdImg w cv qv tv cs qs ts) (hlen : cs.length ≤ 1000) (hB2 : Below w.heap.size w w2) {q : Option Addr} {gs : List Grid} (hF : RdFV w2 (.pointer q) gs) :
    Calls Try.prog 106 #[cv, .func (.func 117) #[] #[.pointer (some ⟨w2.heap.size, 0, none⟩)]] (w2.alloc (.cells #[.pointer q] 87)) (Ret (.int .i64 (firstE cs.length (planeErr gs cs))) (w2.alloc (.cells #[.pointer q] 87))) := by
  have hB3 : Below w2.heap.size w2 (w2.alloc (.cells #[.pointer q] 87)) := below_new _
  have hB := hB2.trans (hB3.mono hB2.size)
  have := each_Comp (hR.comps.below hB) 117 #[.pointer (some ⟨w2.heap.size, 0, none⟩)] (enters_of Try.func117 (by kernel_rfl) rfl) (planeErr gs cs) (fun i x hx w3 hw3 => by
    rw [List.getElem?_map] at hx
    obtain ⟨c, hd, rfl⟩ := Option.map_eq_some_iff.1 hx
    obtain ⟨p, cap, e⟩ := hR.bvs c (List.mem_of_getElem? hd)
    have hil : i < cs.length := (List.getElem?_eq_some_iff.1 hd).1
    exact planes1_any w3 w2.heap.size (.pointer q) gs cs i c hd (by omega) (hF.below (hB3.trans (hw3.mono hB3.size))) (new_cell hw3 0 rfl) p cap e)
  rw [List.length_map] at this
  exact this
/-- The error of the components' planes. -/
def planesErr (W H : Int) (cs : List Comp) : Int := firstE cs.length (planeErr (gsOf W H cs) cs)
set_option maxHeartbeats 1000000 in
theorem planes_any {w : World} {W H : Int} {cv qv tv : Value} {cs : List Comp} {qs : List Quant} {ts : List Tag} (hR : RdImg w cv qv tv cs qs ts) (hlen : cs.length ≤ 1000) :
    Calls Try.prog 61 #[.agg #[.int .i64 W, .int .i64 H, cv, qv, tv]] w (Ret (.int .i64 (planesErr W H cs)) w) := by
  obtain ⟨⟨p, cap, ecv, hcap, _⟩, _, _⟩ := hR.comps
  obtain ⟨qp, ql, qc, eqv⟩ : ∃ p n cap, qv = .slice p n cap := by obtain ⟨p, cap, e, _⟩ := hR.quants.form; exact ⟨_, _, _, e⟩
  obtain ⟨tp, tl, tc, etv⟩ : ∃ p n cap, tv = .slice p n cap := by obtain ⟨p, cap, e, _⟩ := hR.tags.form; exact ⟨_, _, _, e⟩
  subst ecv eqv etv
  obtain ⟨w1, hw1⟩ : ∃ w1, w1 = w.alloc (.cells #[.int .i64 W, .int .i64 H, .slice p (cs.map compRow).length cap, .slice qp ql qc, .slice tp tl tc] 26) := ⟨_, rfl⟩
  have hB1 : Below w.heap.size w w1 := by rw [hw1]; exact below_new _
  have hI2 : w1.cell? ⟨w.heap.size, 2, none⟩ = some (.slice p (cs.map compRow).length cap) := by rw [hw1]; exact new_cell (Below.refl _ _) 2 rfl
  have HFR := Lib.hid ((frame_any (W := W) (H := H) (qv := .slice qp ql qc) (tv := .slice tp tl tc) (hR.comps.below hB1) hlen (fun c hc => by obtain ⟨p, cap, e⟩ := hR.bvs c hc; exact ⟨_, _, _, e⟩)).mono fun e w' h => h.gives)
  have HEA := Lib.hid (fun w2 (hB2 : Below w.heap.size w w2) (q : Option Addr) (hF : RdFV w2 (.pointer q) (gsOf W H cs)) => planes_each hR hlen hB2 hF)
  have hs1 : w.heap.size < w1.heap.size := by rw [hw1]; simp
  clear hR hlen hcap
  generalize (cs.map compRow).length = n at *
  go_enter Try.func61, Try.ntmps61
  go_wp2_with fail
  rw [← hw1]
  clear hw1
  refine HFR.out.mono ?_
  rintro e w2 ⟨q, rfl, hFV, hB2⟩
  have hI22 := old_cell hB2 hI2
  have hs2 : w.heap.size < w2.heap.size := by have := hB2.size; omega
  have HB := Lib.hid (hB1.trans (hB2.mono hB1.size))
  have HE := Lib.hid (HEA.out w2 HB.out q hFV)
  clear hI2 hB1 hB2 hFV HFR HEA
  go_wp2_with fail
  refine HE.out.mono ?_
  rintro e w3 ⟨rfl, hB3⟩
  go_wp2_with fail
  go_ret
  exact ⟨rfl, (HB.out.alloc HB.out.size _).trans (hB3.mono (by have := HB.out.size; simp; omega))⟩
end Aq
end Go.Proofs.Ytaacpoadfdmfnaa
