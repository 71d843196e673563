/-
  ImageSames: whether any two images are alike is the document's. No condition.
-/
import Derived.Test.YtaacpoadfdmfnaaLSames
import Derived.Test.YtaacpoadfdmfnaaOpen
import Derived.Test.YtaacpoadfdmfnaaRows
import Derived.SizedLaws
import Derived.ProofKit
namespace Go.Proofs.Ytaacpoadfdmfnaa
open Go Go.RowKit Go.ChangeShapes Go.WideShapes Go.ChangeAt
namespace Aq
set_option maxRecDepth 100000 in
theorem liftedImageSames (os : Os) (started : os.Started) (H : Type) (enc : TypeId × Value → H) :
    ReturnsInHanded {} Try.checked os 7 .any (Rows.imageSamesSpec.pre6 enc Try.prog Try.f7 Rows.imageSamesRow.domain false) (Rows.imageSamesSpec.post enc Try.prog Try.f7 false true false false) := by
  refine returnsInHanded_of_change_sized (C := Try.checked) own started (by kernel_rfl) Try.func7
    (ChangeSpec.witness6 (enc := enc) (C := Try.checked) false ⟨#[], #[.agg #[.int .i64 0, .int .i64 0, .slice none 0 0, .slice none 0 0, .slice none 0 0], .agg #[.int .i64 0, .int .i64 0, .slice none 0 0, .slice none 0 0, .slice none 0 0]], []⟩ 12 (by kernel_rfl) (by kernel_rfl) (by kernel_rfl) (by kernel_rfl)) ?_
  intro W base args ds gs before hval0 hW hcnd hwt _
  have hval : ∀ (j : Nat) t v, Try.f7.params[j]? = some t → args[j]? = some v → Value.okWide Try.prog W .any base t v := hval0
  have hW2 := hW
  obtain ⟨p, q, hA0, hV, hbef, hfz, hnd⟩ := hW
  have hA : DataW.TrodAll enc Try.prog W 0 (fun _ => true) true Try.f7.params.toList args.toList ds p := hA0
  have hpar : Try.f7.params = #[26, 26] := rfl
  rw [hpar] at hA hval hwt
  obtain ⟨v0, vs0, d0, ds0, p0, q0, hargs, rfl, rfl, h0, r0⟩ := trodAll_cons hA
  obtain ⟨v1, vs1, d1, ds1, p1, q1, rfl, rfl, rfl, h1, r1⟩ := trodAll_cons r0
  obtain ⟨rfl, rfl, rfl⟩ := trodAll_nil r1
  obtain rfl : args = #[v0, v1] := by cases args; simp_all
  obtain ⟨rfl, rfl⟩ := trodVars_none hV
  obtain ⟨w0, t0, cv0, qv0, tv0, cs0, qs0, ts0, rfl, iw0, it0, R0⟩ := open_image (hval 0 26 v0 rfl rfl) h0 (wt_each hwt (j := 0) rfl rfl)
  obtain ⟨w1, t1, cv1, qv1, tv1, cs1, qs1, ts1, rfl, iw1, it1, R1⟩ := open_image (hval 1 26 v1 rfl rfl) h1 (wt_each hwt (j := 1) rfl rfl)
  refine (imageSames_any R0 R1).mono fun e W' ⟨he, hB⟩ => ?_
  subst he
  exact ⟨_, rfl, post_of_law rfl hW2 (by rw [hpar]; intro t ht; simp only [List.mem_cons, List.not_mem_nil, or_false] at ht; rcases ht with rfl | rfl <;> exact of_decide_eq_true (by kernel_rfl)) (fun _ _ _ => trodAll_cons_mk (shut_bool Try.underlying4 _) trodAll_mk0) rfl rfl hB (ok_one (by kernel_rfl) rfl (okWide_bool_mk Try.underlying4 _))⟩
theorem imageSames_holds : Rows.ImageSamesSaid :=
  OpenClaim.holds_of_wide 7 Try.f7 rfl rfl rfl rfl rfl rfl rfl ⟨rfl, rfl, rfl, rfl, rfl⟩ rfl rfl rfl rfl rfl (by kernel_rfl) Try.func7 (by kernel_rfl)
    (of_decide_eq_true (by kernel_rfl)) (by unfold Func.isWrapper; first | (rw [if_pos (by decide +kernel)]; kernel_rfl) | (rw [if_neg (by decide +kernel)]; exact ⟨rfl, rfl⟩))
    (fun os started H enc _ => liftedImageSames os started H enc)
#print axioms imageSames_holds
end Aq
end Go.Proofs.Ytaacpoadfdmfnaa
