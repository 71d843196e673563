/-
  A region that draws its order, whose operations read memory that lies, and call what at most makes new memory: one walk in the order of the text serves. No program is named here.
-/
import Derived.Test.YtaacpoadfdmfnaaBase
import Derived.Deep.Quiet
import Derived.Deep.QuietTactic
import Derived.KernelRfl
namespace Go.Proofs.Ytaacpoadfdmfnaa
open Go Go.RowKit
namespace Aq
section
variable {P : Program} {ops : Array Oper}
/-- The region's law at the class 'nothing that lay has turned'. -/
theorem wp_region_calm {id : Nat} {Q : Exit → Act → World → Prop} {a : Act} {w : World} {l : List Oper} (hm : P.follows .mixedOrders = true) (hB : Region.lexB .any l.toArray = true)
    (h : wpQuiet P l.toArray (fun w' => Below w.heap.size w w') (fun a' => ∀ w', Below w.heap.size w w' → Q .normal a' w') l a) : (Code.region id l.toArray true).wp P Q a w :=
  wp_region_quiet (C := fun w' => Below w.heap.size w w') hm hB ((Below.refl _ w).drew) (by simpa using h)
variable {C : World → Prop} {Q : Act → Prop} {a : Act} {o : Oper} {rest : List Oper}
/-- An operation that is passed over. -/
theorem calm_skip (hw : Region.wanted o (yielded ops a.tmps) = false) (h : wpQuiet P ops C Q rest (a.put o.dst undef)) : wpQuiet P ops C Q (o :: rest) a := by
  simp only [wpQuiet, hw]; exact h
/-- An operation that yields one value in every world of the class. -/
theorem calm_val {v : Value} (hw : Region.wanted o (yielded ops a.tmps) = true) (hr : ∀ w', C w' → (execOp a.eval o).run P w' = .ok (.value v) w') (h : wpQuiet P ops C Q rest (a.put o.dst v)) : wpQuiet P ops C Q (o :: rest) a := by
  simp only [wpQuiet, hw, if_true]
  exact ⟨v, fun w' hw' => by unfold Oper.quietAt; rw [hr w' hw']; exact ⟨rfl, rfl⟩, h⟩
theorem calm_ex (hw : Region.wanted o (yielded ops a.tmps) = true) (h : ∃ v, (∀ w', C w' → (execOp a.eval o).run P w' = .ok (.value v) w') ∧ wpQuiet P ops C Q rest (a.put o.dst v)) : wpQuiet P ops C Q (o :: rest) a :=
  let ⟨_, h1, h2⟩ := h
  calm_val hw h1 h2
/-- A call. -/
theorem calm_call {v : Value} {f : FuncId} {args : Array Value} (hw : Region.wanted o (yielded ops a.tmps) = true) (hr : ∀ w', C w' → (execOp a.eval o).run P w' = .ok (.enter f args) w')
    (hc : ∀ w', C w' → Calls P f args w' fun e w'' => e = .returned v ∧ C w'') (h : wpQuiet P ops C Q rest (a.put o.dst v)) : wpQuiet P ops C Q (o :: rest) a := by
  simp only [wpQuiet, hw, if_true]
  exact ⟨v, fun w' hw' => by unfold Oper.quietAt; rw [hr w' hw']; exact ⟨rfl, hc w' hw'⟩, h⟩
/-- A call whose contract is 'returns v, and has at most made new memory'. -/
theorem calm_ret {v : Value} {f : FuncId} {args : Array Value} {w : World} (hw : Region.wanted o (yielded ops a.tmps) = true) (hr : ∀ w', Below w.heap.size w w' → (execOp a.eval o).run P w' = .ok (.enter f args) w')
    (hc : ∀ w', Below w.heap.size w w' → Calls P f args w' (Ret v w')) (h : wpQuiet P ops (fun w' => Below w.heap.size w w') Q rest (a.put o.dst v)) : wpQuiet P ops (fun w' => Below w.heap.size w w') Q (o :: rest) a :=
  calm_call hw hr (fun w' hw' => (hc w' hw').mono fun _ _ ⟨h1, h2⟩ => ⟨h1, hw'.trans (h2.mono hw'.size)⟩) h
/-- A row is read. -/
theorem calm_load_mid {w : World} (hw : Region.wanted o (yielded ops a.tmps) = true) (ty : TypeId) (x : Operand) (ho : o.op = .load ty x) (b off : Nat) (hx : a.eval x = .pointer (some ⟨b, off, none⟩)) (cs : List Value) (d : TypeDesc)
    (hc : w.rangeAt b off cs) (hu : P.underlying ty = some d) (hd : d.isRow = true) (hi : (P.info? ty).map (·.size) = some cs.length)
    (h : wpQuiet P ops (fun w' => Below w.heap.size w w') Q rest (a.put o.dst (.agg cs.toArray))) : wpQuiet P ops (fun w' => Below w.heap.size w w') Q (o :: rest) a :=
  calm_val hw (fun w' hB => by
    unfold execOp
    simp only [ho, hx, Instr.loadAt, Instr.sureAddr, Sem.run_bind, Sem.run_pure, Result.andThen_ok, run_loadVar_mid w' b off ty cs d (rangeAt_below hB hc) hu hd hi]) h
/-- '!=' on two rows. -/
theorem calm_neq_agg (hw : Region.wanted o (yielded ops a.tmps) = true) (ty ty' : TypeId) (x y : Operand) (ho : o.op = .binOp .neq ty x y ty') (xs ys : Array Value) (hx : a.eval x = .agg xs) (hy : a.eval y = .agg ys) (r : Bool)
    (hg : P.eqGuardType P.depth ty = false) (hr : ∀ w', C w' → (binOp .neq ty (.agg xs) (.agg ys)).run P w' = .ok (.bool r) w')
    (h : wpQuiet P ops C Q rest (a.put o.dst (.bool r))) : wpQuiet P ops C Q (o :: rest) a :=
  calm_val hw (fun w' hB => by
    unfold execOp
    simp only [ho, hx, hy, Sem.run_bind, run_eqGuard_agg w' .neq ty x y xs ys hg, Result.andThen_ok, hr w' hB, Sem.run_pure]) h
theorem calm_eql_agg (hw : Region.wanted o (yielded ops a.tmps) = true) (ty ty' : TypeId) (x y : Operand) (ho : o.op = .binOp .eql ty x y ty') (xs ys : Array Value) (hx : a.eval x = .agg xs) (hy : a.eval y = .agg ys) (r : Bool)
    (hg : P.eqGuardType P.depth ty = false) (hr : ∀ w', C w' → (binOp .eql ty (.agg xs) (.agg ys)).run P w' = .ok (.bool r) w')
    (h : wpQuiet P ops C Q rest (a.put o.dst (.bool r))) : wpQuiet P ops C Q (o :: rest) a :=
  calm_val hw (fun w' hB => by
    unfold execOp
    simp only [ho, hx, hy, Sem.run_bind, run_eqGuard_agg w' .eql ty x y xs ys hg, Result.andThen_ok, hr w' hB, Sem.run_pure]) h
/-- The same outside such a region. -/
theorem wpList_neq_agg {Q : Exit → Act → World → Prop} {w : World} (hgd : o.guard = none) (ty ty' : TypeId) (x y : Operand) (ho : o.op = .binOp .neq ty x y ty') (xs ys : Array Value) (hx : a.eval x = .agg xs) (hy : a.eval y = .agg ys) (r : Bool)
    (hg : P.eqGuardType P.depth ty = false) (hr : (binOp .neq ty (.agg xs) (.agg ys)).run P w = .ok (.bool r) w)
    (h : wpList P ops Q rest (a.put o.dst (.bool r)) w) : wpList P ops Q (o :: rest) a w :=
  wpList_plain hgd fun _ hK => by
    unfold Oper.wp execOp
    simp only [ho, hx, hy, Sem.run_bind, run_eqGuard_agg w .neq ty x y xs ys hg, Result.andThen_ok, hr, Sem.run_pure]
    exact hK _ _ h
theorem wpList_eql_agg {Q : Exit → Act → World → Prop} {w : World} (hgd : o.guard = none) (ty ty' : TypeId) (x y : Operand) (ho : o.op = .binOp .eql ty x y ty') (xs ys : Array Value) (hx : a.eval x = .agg xs) (hy : a.eval y = .agg ys) (r : Bool)
    (hg : P.eqGuardType P.depth ty = false) (hr : (binOp .eql ty (.agg xs) (.agg ys)).run P w = .ok (.bool r) w)
    (h : wpList P ops Q rest (a.put o.dst (.bool r)) w) : wpList P ops Q (o :: rest) a w :=
  wpList_plain hgd fun _ hK => by
    unfold Oper.wp execOp
    simp only [ho, hx, hy, Sem.run_bind, run_eqGuard_agg w .eql ty x y xs ys hg, Result.andThen_ok, hr, Sem.run_pure]
    exact hK _ _ h
end
end Aq
end Go.Proofs.Ytaacpoadfdmfnaa
