/-
  What image.Right answers: the first error of all.
-/
import Derived.Test.YtaacpoadfdmfnaaPlanes
import Derived.Test.YtaacpoadfdmfnaaTables3
import Derived.Test.YtaacpoadfdmfnaaRanged
import Derived.Laws.EntriesVeiled
namespace Go.Proofs.Ytaacpoadfdmfnaa
open Go Go.RowKit Go.Shelf
namespace Aq
set_option maxHeartbeats 1000000 in
theorem each_func {w : World} (b n cap : Nat) (vs : List Value) (hN : vs.length = n) (hn : n ≤ 1000) (hx : ∀ i v, vs[i]? = some v → w.cell? ⟨b, i, none⟩ = some v) (hf : ∀ v, v ∈ vs → ∃ f cp, v = .func f #[] cp) (g : Nat) (cp : Array Value)
    (eg : ∀ args w, (callFunc g args).run Try.prog w = .ok (.enter g args) w) (E : Nat → Int)
    (hc : ∀ i x, vs[i]? = some x → ∀ w', Below w.heap.size w w' → Calls Try.prog g (#[.int .i64 i, x] ++ cp) w' (Ret (.int .i64 (E i)) w')) :
    Calls Try.prog 104 #[.slice (some ⟨b, 0, none⟩) n cap, .func (.func g) #[] cp] w (Ret (.int .i64 (firstE n E)) w) := by
  have HN := Lib.hid hN; clear hN
  have HC := Lib.hid hc; clear hc
  have HX := Lib.hid hx; clear hx
  have HF := Lib.hid hf; clear hf
  go_enter Try.func104, Try.ntmps104
  go_wp2_with fail
  go_loopw [5, 6, 7, 10] (fun _ _ _ i wr => ∃ k : Nat, k ≤ n ∧ i = .int .i64 k ∧ Below w.heap.size w wr ∧ Hid (∀ j, j < k → E j = 0)) (fun _ _ _ i wr => n - (intOf i).toNat)
  case atStart => exact ⟨0, by omega, rfl, Below.refl _ _, fun j hj => absurd hj (Nat.not_lt_zero _)⟩
  case round =>
    obtain ⟨k, hkn, rfl, hB, hE⟩ := hrel
    by_cases hlt : k < n
    · obtain ⟨x, hxk⟩ : ∃ x, vs[k]? = some x := ⟨_, List.getElem?_eq_getElem (by rw [HN.out]; exact hlt)⟩
      obtain ⟨f, cpf, rfl⟩ := HF.out x (List.mem_of_getElem? hxk)
      have hr : wr.cell? ⟨b, k, none⟩ = some (.func f #[] cpf) := old_cell hB (HX.out k _ hxk)
      have HCA := Lib.hid (fun w' hw' => HC.out k _ hxk w' hw')
      have hk1 : (k : Int) < (n : Int) := by omega
      clear hxk
      go_wp2_with fail
      refine (HCA.out _ hB).mono ?_
      rintro e w2 ⟨rfl, hB2⟩
      have hB3 : Below w.heap.size w w2 := hB.trans (hB2.mono hB.size)
      by_cases hz : E k = 0
      · have hb : (E k != 0) = false := by simp [hz]
        have HZ := Lib.hid hz; clear hz
        clear hB hB2
        go_wp2_with fail
        go_roundw
        case rel => exact ⟨k + 1, by omega, by go_num, hB3, fun j hj => by rcases Nat.lt_succ_iff_lt_or_eq.1 hj with h | h; exact hE.out j h; subst h; exact HZ.out⟩
        case measure => simp [intOf]; omega
      · have hb : (E k != 0) = true := by simp [hz]
        have hfin : firstE n E = E k := firstE_some hlt hz hE.out
        have HF := Lib.hid hfin; clear hfin hz
        clear hB hB2
        go_wp2_with fail
        go_ret
        exact ⟨by rw [HF.out]; rfl, hB3⟩
    · obtain rfl : k = n := by omega
      have hfin : firstE k E = 0 := firstE_none hE
      have HF := Lib.hid hfin; clear hfin
      go_wp2_with fail
      go_ret
      exact ⟨by rw [HF.out]; rfl, hB⟩
set_option maxHeartbeats 400000 in
theorem all1_any {w : World} (i : Int) (a m : Option Addr) (E : Int) (hc : Calls Try.prog 56 #[.pointer a, .pointer m] w (Ret (.int .i64 E) w)) :
    Calls Try.prog 105 #[.int .i64 i, .func (.func 56) #[] #[.pointer a, .pointer m]] w (Ret (.int .i64 E) w) := by
  have eg : ∀ args w, (callFunc 56 args).run Try.prog w = .ok (.enter 56 args) w := enters_of Try.func56 (by kernel_rfl) rfl
  have HC := Lib.hid hc; clear hc
  go_enter Try.func105, Try.ntmps105
  go_wp2_with fail
  refine HC.out.mono ?_
  rintro e w2 ⟨rfl, hB2⟩
  go_wp2_with fail
  go_ret
  exact ⟨rfl, hB2⟩
set_option maxHeartbeats 400000 in
theorem right11_any {w : World} (a b : Nat) (f : Nat) (W H : Int) (cp qp tp : Option Addr) (cl cc ql qc tl tc : Nat) (E : Int)
    (eg : ∀ args w, (callFunc f args).run Try.prog w = .ok (.enter f args) w)
    (hf : w.cell? ⟨a, 0, none⟩ = some (.func (.func f) #[] #[])) (h0 : w.cell? ⟨b, 0, none⟩ = some (.int .i64 W)) (h1 : w.cell? ⟨b, 1, none⟩ = some (.int .i64 H))
    (h2 : w.cell? ⟨b, 2, none⟩ = some (.slice cp cl cc)) (h3 : w.cell? ⟨b, 3, none⟩ = some (.slice qp ql qc)) (h4 : w.cell? ⟨b, 4, none⟩ = some (.slice tp tl tc))
    (hc : Calls Try.prog f #[.agg #[.int .i64 W, .int .i64 H, .slice cp cl cc, .slice qp ql qc, .slice tp tl tc]] w (Ret (.int .i64 E) w)) :
    Calls Try.prog 56 #[.pointer (some ⟨a, 0, none⟩), .pointer (some ⟨b, 0, none⟩)] w (Ret (.int .i64 E) w) := by
  have HC := Lib.hid hc; clear hc
  go_enter Try.func56, Try.ntmps56
  go_wp2_with fail
  refine HC.out.mono ?_
  rintro e w2 ⟨rfl, hB2⟩
  go_wp2_with fail
  go_ret
  exact ⟨rfl, hB2⟩
set_option maxHeartbeats 400000 in
theorem right1F_any (w : World) (f : Nat) (m : Option Addr) :
    Calls Try.prog 55 #[.func (.func f) #[] #[], .pointer m] w (fun e w' => e = .returned (.func (.func 56) #[] #[.pointer (some ⟨w.heap.size, 0, none⟩), .pointer m]) ∧ w' = w.alloc (.cells #[.func (.func f) #[] #[]] 30)) := by
  go_enter Try.func55, Try.ntmps55
  go_wp2_with fail
  go_ret
  exact ⟨rfl, rfl⟩
set_option maxHeartbeats 400000 in
theorem right2F_any {w : World} {W H : Int} {cp qp tp : Option Addr} {cl cc ql qc tl tc : Nat} {cs : List Comp}
    (hF : ∀ w', Below w.heap.size w w' → Calls Try.prog 48 #[.agg #[.int .i64 W, .int .i64 H, .slice cp cl cc, .slice qp ql qc, .slice tp tl tc]] w' (FrP w' W H (partsOf cs))) :
    Calls Try.prog 57 #[.agg #[.int .i64 W, .int .i64 H, .slice cp cl cc, .slice qp ql qc, .slice tp tl tc]] w (Ret (.int .i64 (newErr W H (partsOf cs))) w) := by
  have HF := Lib.hid ((hF _ (below_new (.cells #[.int .i64 W, .int .i64 H, .slice cp cl cc, .slice qp ql qc, .slice tp tl tc] 26))).mono fun e w' h => h.gives)
  clear hF
  go_enter Try.func57, Try.ntmps57
  go_wp2_with fail
  refine HF.out.mono ?_
  rintro e w2 ⟨q, rfl, hFV, hB2⟩
  go_wp2_with fail
  go_ret
  exact ⟨rfl, (below_new _).trans (hB2.mono (by simp))⟩
end Aq
end Go.Proofs.Ytaacpoadfdmfnaa
