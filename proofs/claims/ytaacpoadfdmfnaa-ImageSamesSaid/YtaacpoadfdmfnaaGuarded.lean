/-
  Operations under a guard, outside regions that draw; loads of one cell inside such regions. No program is named here.
-/
import Derived.Test.YtaacpoadfdmfnaaCalm
namespace Go.Proofs.Ytaacpoadfdmfnaa
open Go Go.RowKit
namespace Aq
section
variable {P : Program} {ops : Array Oper} {rest : List Oper} {o : Oper} {a : Act} {w : World} {Q : Exit → Act → World → Prop}
theorem wpList_taken (hw : Region.wanted o (yielded ops a.tmps) = true) (h : ∀ K : Act → World → Prop, (∀ a w, wpList P ops Q rest a w → K a w) → o.wp P a w K Q) : wpList P ops Q (o :: rest) a w :=
  wpList_step fun K hK => by simp only [hw, if_true]; exact h K hK
/-- A row is read, under a guard. -/
theorem wpList_load_mid_g (hw : Region.wanted o (yielded ops a.tmps) = true) (ty : TypeId) (x : Operand) (ho : o.op = .load ty x) (b off : Nat) (hx : a.eval x = .pointer (some ⟨b, off, none⟩)) (cs : List Value) (d : TypeDesc)
    (hc : w.rangeAt b off cs) (hu : P.underlying ty = some d) (hd : d.isRow = true) (hi : (P.info? ty).map (·.size) = some cs.length)
    (h : wpList P ops Q rest (a.put o.dst (.agg cs.toArray)) w) : wpList P ops Q (o :: rest) a w :=
  wpList_taken hw fun _ hK => by
    unfold Oper.wp execOp
    simp only [ho, hx, Instr.loadAt, Instr.sureAddr, Sem.run_bind, Sem.run_pure, Result.andThen_ok, run_loadVar_mid w b off ty cs d hc hu hd hi]
    exact hK _ _ h
theorem wpList_eql_agg_g (hw : Region.wanted o (yielded ops a.tmps) = true) (ty ty' : TypeId) (x y : Operand) (ho : o.op = .binOp .eql ty x y ty') (xs ys : Array Value) (hx : a.eval x = .agg xs) (hy : a.eval y = .agg ys) (r : Bool)
    (hg : P.eqGuardType P.depth ty = false) (hr : (binOp .eql ty (.agg xs) (.agg ys)).run P w = .ok (.bool r) w)
    (h : wpList P ops Q rest (a.put o.dst (.bool r)) w) : wpList P ops Q (o :: rest) a w :=
  wpList_taken hw fun _ hK => by
    unfold Oper.wp execOp
    simp only [ho, hx, hy, Sem.run_bind, run_eqGuard_agg w .eql ty x y xs ys hg, Result.andThen_ok, hr, Sem.run_pure]
    exact hK _ _ h
theorem wpList_neq_agg_g (hw : Region.wanted o (yielded ops a.tmps) = true) (ty ty' : TypeId) (x y : Operand) (ho : o.op = .binOp .neq ty x y ty') (xs ys : Array Value) (hx : a.eval x = .agg xs) (hy : a.eval y = .agg ys) (r : Bool)
    (hg : P.eqGuardType P.depth ty = false) (hr : (binOp .neq ty (.agg xs) (.agg ys)).run P w = .ok (.bool r) w)
    (h : wpList P ops Q rest (a.put o.dst (.bool r)) w) : wpList P ops Q (o :: rest) a w :=
  wpList_taken hw fun _ hK => by
    unfold Oper.wp execOp
    simp only [ho, hx, hy, Sem.run_bind, run_eqGuard_agg w .neq ty x y xs ys hg, Result.andThen_ok, hr, Sem.run_pure]
    exact hK _ _ h
end
end Aq
end Go.Proofs.Ytaacpoadfdmfnaa
