/-
  From a law's walk to its row: a law that returns true and has at most made new memory holds of every input.
-/
import Derived.Test.YtaacpoadfdmfnaaRows
import Derived.Test.YtaacpoadfdmfnaaModel
import Derived.ReadAgain
import Derived.ProofKit
import Derived.OpenShut
import Derived.Deep.Slices
import Derived.Carry
namespace Go.Proofs.Ytaacpoadfdmfnaa
open Go Go.RowKit Go.ChangeShapes Go.WideShapes Go.ChangeAt
namespace Aq
theorem own : ownKnob Try.prog.godebug = none := by kernel_rfl
theorem kids : Kids Try.prog (· < Try.prog.types.size) := kids_rows (by kernel_rfl) (by kernel_rfl)
theorem full : ∀ t e, t < Try.prog.types.size → Try.prog.underlying t = some (.slice e) → 0 < Try.prog.cellsOf e := slices_full_of Try.prog (by kernel_rfl)
section
variable {H : Type} {enc : TypeId × Value → H}
theorem same_below {W W' : World} (hB : Below W.heap.size W W') {ps : List MemPlace} (hlt : ∀ x ∈ ps, x.block < W.heap.size) : ∀ x ∈ ps, W.sameAt W' x := by
  intro x hx
  have h := hlt x hx
  cases x with
  | cell b off => exact hB.cell (p := ⟨b, off, none⟩) h
  | map b => exact hB.block b h
theorem args_again {W W' : World} (hB : Below W.heap.size W W') {sp : Nat → Bool} : ∀ {ts : List TypeId} {vs : List Value} {ds : List (DataW H)} {ps : List MemPlace}, (∀ t ∈ ts, t < Try.prog.types.size) →
    DataW.TrodAll enc Try.prog W 0 (fun _ => true) true ts vs ds ps → (∀ x ∈ ps, sp x.block = true) → (∀ x ∈ ps, x.block < W.heap.size) → DataW.TrodAll enc Try.prog W' 0 sp true ts vs ds ps
  | [], [], [], _, _, h, _, _ => h
  | _ :: _, _ :: _, _ :: _, _, hT, ⟨p, q, h1, h2, e⟩, hs, hlt => by
    subst e
    have hp : ∀ x ∈ p, x ∈ p ++ q := fun x hx => List.mem_append_left _ hx
    have hq : ∀ x ∈ q, x ∈ p ++ q := fun x hx => List.mem_append_right _ hx
    obtain ⟨n, hn⟩ := h1.respare kids full (hT _ (List.mem_cons_self ..)) (fun x hx => hs x (hp x hx))
    exact ⟨p, q, ⟨n, DataW.trod_carry n _ _ _ hn (same_below hB fun x hx => hlt x (hp x hx))⟩, args_again hB (fun t ht => hT t (List.mem_cons_of_mem _ ht)) h2 (fun x hx => hs x (hq x hx)) (fun x hx => hlt x (hq x hx)), rfl⟩
theorem frozen_below {W W' : World} (hB : Below W.heap.size W W') {a : Addr} (h : a.block < W.heap.size) : W'.frozen? a = W.frozen? a := by
  unfold World.frozen?
  rw [hB.block _ h]
set_option maxRecDepth 100000 in
/-- A law that answers v and has at most made new memory. -/
theorem post_of_law {f : Func} {s : ChangeSpec} {apart fresh handsOn again : Bool} {W W' : World} {args : Array Value} {v : Value} {ds : List (DataW H)} {before : List MemPlace} (hv : s.vars = [])
    (hW : DataW.Whole enc Try.prog f.params.toList s.vars apart W args.toList ds [] before) (hT : ∀ t ∈ f.params.toList, t < Try.prog.types.size)
    (hres : ∀ (b : Nat) (sp : Nat → Bool) (hd : Bool), DataW.TrodAll enc Try.prog W' b sp hd f.resultTypes.toList (v.resultList f.resultTypes.size) (s.fn H (ds ++ [])).results [])
    (hargs : (s.fn H (ds ++ [])).args = ds) (hvars : (s.fn H (ds ++ [])).vars = []) (hB : Below W.heap.size W W')
    (hok : ∀ (j : Nat) (t : TypeId) (r : Value), f.resultTypes[j]? = some t → (v.resultList f.resultTypes.size)[j]? = some r → Value.okWide Try.prog W' .any 0 t r) :
    s.post enc Try.prog f apart fresh handsOn again W args v W' := by
  have hlt : ∀ p ∈ before, p.block < W.heap.size := fun p hp => hW.lt p hp
  have hW' := hW
  obtain ⟨p, q, hA, hV, hpq, hz, hn⟩ := hW
  rw [hv] at hV
  obtain ⟨hq1, rfl⟩ := trodVars_none hV
  rw [List.append_nil] at hpq
  subst hpq
  have ha : ∀ sp : Nat → Bool, (∀ x ∈ before, sp x.block = true) → DataW.TrodAll enc Try.prog W' 0 sp true f.params.toList args.toList (s.fn H (ds ++ [])).args before := fun sp hs => by
    rw [hargs]; exact args_again hB hT hA hs hlt
  have hvv : ∀ sp : Nat → Bool, DataW.TrodVars enc Try.prog W' sp s.vars (s.fn H (ds ++ [])).vars [] := fun sp => by rw [hv, hvars]; rfl
  have hold : ∀ p ∈ before, (fun b => decide (b < W.heap.size)) p.block = true := fun p hp => by simpa using hlt p hp
  refine ⟨ds, [], before, [], before, [], hW', hres _ _ _, ha _ hold, hvv _, World.keptBut_mono (fun p hp => ⟨hp, Or.inr (Or.inl hp)⟩) (hB.frame _), fun _ => ?_⟩
  refine ⟨hok, _, _, ([] ++ before) ++ [], ⟨[] ++ before, [], trodAll_append (ha _ (fun _ _ => rfl)) (hres _ _ _), hvv _, rfl, ?_, ?_⟩, ?_⟩
  · intro b off hp
    have hp' : MemPlace.cell b off ∈ before := by simpa using hp
    rw [frozen_below hB (a := ⟨b, off, none⟩) (hlt _ hp')]
    exact hz b off (by simpa using hp')
  · intro ha
    have := hn ha
    simpa using this
  · intro p hp _
    simpa using hp
end
end Aq
end Go.Proofs.Ytaacpoadfdmfnaa
