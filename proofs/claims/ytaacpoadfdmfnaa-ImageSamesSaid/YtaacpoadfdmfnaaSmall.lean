/-
  What the law's Small answers.
-/
import Derived.Test.YtaacpoadfdmfnaaFew
namespace Go.Proofs.Ytaacpoadfdmfnaa
open Go Go.RowKit Go.Shelf
namespace Aq
set_option maxHeartbeats 400000 in
theorem small_any {w : World} {W H : Int} {cv qv tv : Value} {cs : List Comp} {qs : List Quant} {ts : List Tag} (hR : RdImg w cv qv tv cs qs ts) :
    Calls Try.prog 19 #[.agg #[.int .i64 W, .int .i64 H, cv, qv, tv]] w (Ret (.int .i64 (if fewB 300 140000 cs qs ts = true then 1 else 0)) w) := by
  obtain ⟨cp, cc, ecv, _, ⟨_, hcl⟩, _⟩ := hR.comps.form
  obtain ⟨qp, qc, eqv, _, ⟨_, hql⟩, _⟩ := hR.quants.form
  obtain ⟨tp, tc, etv, _, ⟨_, htl⟩, _⟩ := hR.tags.form
  rw [List.length_map] at ecv eqv etv
  subst ecv eqv etv
  have HF := Lib.hid (few_any (W := W) (H := H) (hR.below (below_new (.cells #[.int .i64 W, .int .i64 H, .slice cp cs.length cc, .slice qp qs.length qc, .slice tp ts.length tc] 26))) 300 140000 (by omega) (by omega) (by omega) (by omega))
  generalize fewB 300 140000 cs qs ts = fb at *
  clear hR hcl hql htl
  cases fb
  all_goals
    go_enter Try.func19, Try.ntmps19
    go_wp2_with fail
    refine HF.out.mono ?_
    rintro e w2 ⟨rfl, hB2⟩
    go_wp2_with fail
    go_ret
    exact ⟨rfl, (below_new _).trans (hB2.mono (by simp))⟩
end Aq
end Go.Proofs.Ytaacpoadfdmfnaa
