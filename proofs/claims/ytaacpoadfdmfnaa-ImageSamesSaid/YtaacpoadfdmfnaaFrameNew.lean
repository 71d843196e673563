/-
  What frame.New answers.
-/
import Derived.Test.YtaacpoadfdmfnaaFrame0
import Derived.Test.YtaacpoadfdmfnaaClone
import Derived.Deep.RegionHeld3
import Derived.Deep.DeepCutAuto
import Derived.Deep.AppendLies
import Derived.Deep.RegionLaw
import Derived.BigQuiet
import Derived.Laws.EntriesVeiled
namespace Go.Proofs.Ytaacpoadfdmfnaa
open Go Go.RowKit Go.Shelf
namespace Aq
structure Grid where
  cols : Int
  rows : Int
  ownCols : Int
  ownRows : Int
def gridRow (g : Grid) : List Value := [.int .i64 g.cols, .int .i64 g.rows, .int .i64 g.ownCols, .int .i64 g.ownRows]
/-- The factors as a frame has them. -/
def fixP (ps : List Part) : List Part := if ps.length = 1 then [⟨1, 1⟩] else ps
def hhOf (ps : List Part) : Int := ps.foldl (fun a p => max a p.h) 0
def vvOf (ps : List Part) : Int := ps.foldl (fun a p => max a p.v) 0
def sumOf (ps : List Part) : Int := ps.foldl (fun a p => a + p.h * p.v) 0
def gridOf (W H : Int) (ps : List Part) (p : Part) : Grid :=
  ⟨upN W (8 * hhOf ps) * p.h, upN H (8 * vvOf ps) * p.v, upN (upN (W * p.h) (hhOf ps)) 8, upN (upN (H * p.v) (vvOf ps)) 8⟩
def gridsOf (W H : Int) (ps : List Part) : List Grid := ps.map (gridOf W H ps)
def totalOf (gs : List Grid) : Int := gs.foldl (fun a g => a + g.cols * g.rows) 0
/-- The error of a frame. -/
def newErr (W H : Int) (ps : List Part) : Int :=
  if rightErr W H ps ≠ 0 then rightErr W H ps
  else if 1 < ps.length ∧ 10 < sumOf (fixP ps) then 12
  else if 16384 < totalOf (gridsOf W H (fixP ps)) then 11 else 0
/-- The frame at block F. -/
structure RdFrame (w : World) (F : Nat) (W H : Int) (ps : List Part) : Prop where
  cells : ∃ pv gv, w.heap[F]? = some (.cells #[pv, gv, .int .i64 (upN W (8 * hhOf ps)), .int .i64 (upN H (8 * vvOf ps)), .int .i64 (8 * hhOf ps), .int .i64 (8 * vvOf ps), .int .i64 (totalOf (gridsOf W H ps)), .int .i64 (sumOf ps)] 158 (0, 0)) ∧
    RdL w 2 pv (ps.map partRow) ∧ RdL w 4 gv ((gridsOf W H ps).map gridRow)
theorem rightErr_zero {W H : Int} {ps : List Part} (h : rightErr W H ps = 0) : 1 ≤ W ∧ W ≤ 16384 ∧ 1 ≤ H ∧ H ≤ 16384 ∧ 1 ≤ ps.length ∧ ps.length ≤ 4 ∧ ∀ p, p ∈ ps → 1 ≤ p.h ∧ p.h ≤ 4 ∧ 1 ≤ p.v ∧ p.v ≤ 4 := by
  unfold rightErr at h
  split at h
  · omega
  · rename_i h1
    split at h
    · omega
    · rename_i h2
      split at h
      · omega
      · rename_i h3
        refine ⟨by omega, by omega, by omega, by omega, by omega, by omega, fun p hp => ?_⟩
        have : ps.any badP = false := by cases hb : ps.any badP with | false => rfl | true => exact absurd (by simp [hb]) h1
        have := List.any_eq_false.1 this p hp
        simp [badP, badN] at this
        omega
theorem foldl_take_succ {α β : Type} (f : β → α → β) (b : β) {l : List α} {k : Nat} {x : α} (h : l[k]? = some x) : (l.take (k + 1)).foldl f b = f ((l.take k).foldl f b) x := by
  rw [List.take_add_one, h, List.foldl_append]
  rfl
theorem clonePart_some {w : World} {v : Value} {ps : List Part} (hR : RdL w 2 v (ps.map partRow)) (hn : 1 ≤ ps.length) (hm : ps.length ≤ 4) :
    Calls Try.prog 138 #[v] w (fun e w' => ∃ g cap cur, e = .returned (.slice (some ⟨g, 0, none⟩) ps.length cap) ∧ Below w.heap.size w w' ∧ w.heap.size ≤ g ∧ g < w'.heap.size ∧ w'.heap[g]? = some (.cells cur 154 (0, 0)) ∧
      ps.length ≤ cap ∧ cap ≤ maxLen ∧ cur.size = cap * 2 ∧ cur.toList.take (ps.length * 2) = (ps.map partRow).flatten) :=
  (clone_Part hR (by rw [List.length_map]; omega)).mono fun e w' ⟨v', he, ⟨hl, ho⟩, hB⟩ => by
    rw [List.length_map] at ho
    rcases ho with ⟨_, h0⟩ | ⟨g, cap, cur, rfl, hg, hh, hc, hmx, hs, ht⟩
    · omega
    · exact ⟨g, cap, cur, he, hB, hg, (Array.getElem?_eq_some_iff.1 hh).1, hh, hc, hmx, hs, ht⟩
theorem hh_bd {qs : List Part} (h : ∀ p, p ∈ qs → 1 ≤ p.h ∧ p.h ≤ 4 ∧ 1 ≤ p.v ∧ p.v ≤ 4) : 0 ≤ hhOf qs ∧ hhOf qs ≤ 4 ∧ 0 ≤ vvOf qs ∧ vvOf qs ≤ 4 ∧ 0 ≤ sumOf qs ∧ sumOf qs ≤ 16 * qs.length := by
  suffices H : ∀ (l : List Part) (a b c : Int), (∀ p, p ∈ l → 1 ≤ p.h ∧ p.h ≤ 4 ∧ 1 ≤ p.v ∧ p.v ≤ 4) → 0 ≤ a → a ≤ 4 → 0 ≤ b → b ≤ 4 → 0 ≤ c →
      0 ≤ l.foldl (fun a p => max a p.h) a ∧ l.foldl (fun a p => max a p.h) a ≤ 4 ∧ 0 ≤ l.foldl (fun a p => max a p.v) b ∧ l.foldl (fun a p => max a p.v) b ≤ 4 ∧ 0 ≤ l.foldl (fun a p => a + p.h * p.v) c ∧ l.foldl (fun a p => a + p.h * p.v) c ≤ c + 16 * l.length by
    have := H qs 0 0 0 h (by omega) (by omega) (by omega) (by omega) (by omega)
    unfold hhOf vvOf sumOf
    omega
  intro l
  induction l with
  | nil => intro a b c _ h1 h2 h3 h4 h5; simp; omega
  | cons p l ih =>
    intro a b c hp h1 h2 h3 h4 h5
    have hq := hp p (List.mem_cons_self ..)
    have hm1 : 0 ≤ p.h * p.v := Int.mul_nonneg (by omega) (by omega)
    have hm2 : p.h * p.v ≤ 4 * 4 := Int.mul_le_mul hq.2.1 hq.2.2.2 (by omega) (by omega)
    have := ih (max a p.h) (max b p.v) (c + p.h * p.v) (fun q hq => hp q (List.mem_cons_of_mem _ hq)) (by omega) (by omega) (by omega) (by omega) (by omega)
    simp only [List.foldl_cons, List.length_cons]
    omega
theorem hh_pos {qs : List Part} (h : ∀ p, p ∈ qs → 1 ≤ p.h ∧ p.h ≤ 4 ∧ 1 ≤ p.v ∧ p.v ≤ 4) (hn : 1 ≤ qs.length) : 1 ≤ hhOf qs ∧ 1 ≤ vvOf qs := by
  cases qs with
  | nil => simp at hn
  | cons p l =>
    have hp := h p (List.mem_cons_self ..)
    have hm : ∀ (l : List Part) (f : Part → Int) (a : Int), a ≤ l.foldl (fun a p => max a (f p)) a := by
      intro l f
      induction l with
      | nil => intro a; exact Int.le_refl _
      | cons q l ih => intro a; simp only [List.foldl_cons]; have := ih (max a (f q)); omega
    have h1 := hm l (·.h) (max 0 p.h)
    have h2 := hm l (·.v) (max 0 p.v)
    simp only [hhOf, vvOf, List.foldl_cons]
    omega
/-- The cells of the k-th part in a row of the call's own. -/
theorem part_cells {w : World} {g N k : Nat} {cur : Array Value} {t : TypeId} {qs : List Part} {p : Part} (hh : w.heap[g]? = some (.cells cur t (0, 0))) (ht : cur.toList.take (N * 2) = (qs.map partRow).flatten) (hN : qs.length = N) (hp : qs[k]? = some p) :
    w.cell? ⟨g, k * 2, none⟩ = some (.int .i64 p.h) ∧ w.cell? ⟨g, k * 2 + 1, none⟩ = some (.int .i64 p.v) := by
  have hk : k < N := by rw [← hN]; exact (List.getElem?_eq_some_iff.1 hp).1
  have hl : ∀ x, x ∈ qs.map partRow → x.length = 2 := fun x hx => by obtain ⟨q, _, rfl⟩ := List.mem_map.1 hx; rfl
  have hi : (qs.map partRow)[k]? = some (partRow p) := by simp [hp]
  have key : ∀ j v, j < 2 → (partRow p)[j]? = some v → w.cell? ⟨g, k * 2 + j, none⟩ = some v := fun j v hj hv => by
    have h := flatten_get hl hi j hj
    rw [← ht, List.getElem?_take_of_lt (by omega), hv] at h
    rw [cell_of_row w g _ cur t (0, 0) hh]
    simpa using h
  exact ⟨key 0 _ (by omega) rfl, key 1 _ (by omega) rfl⟩
theorem upN_bd (x y : Int) (h0 : 0 ≤ x) (h1 : 1 ≤ y) (h2 : y ≤ 1000) : 0 ≤ upN x y ∧ upN x y ≤ x + 1000 := by
  unfold upN
  constructor
  · exact Int.ediv_nonneg (by omega) (by omega)
  · have := Int.ediv_le_self (a := x + y - 1) y (by omega)
    omega
theorem total_bd {gs : List Grid} {qs : List Part} {A D : Int} {f g : Part → Int} (hg : gs = qs.map (fun p => (⟨A * p.h, D * p.v, f p, g p⟩ : Grid))) (a0 : 0 ≤ A) (a1 : A ≤ 17384) (d0 : 0 ≤ D) (d1 : D ≤ 17384)
    (hq : ∀ p, p ∈ qs → 1 ≤ p.h ∧ p.h ≤ 4 ∧ 1 ≤ p.v ∧ p.v ≤ 4) (k : Nat) : 0 ≤ totalOf (gs.take k) ∧ totalOf (gs.take k) ≤ 4900000000 * k := by
  subst hg
  induction k with
  | zero => simp [totalOf]
  | succ k ih =>
    cases h : qs[k]? with
    | none =>
      have hl : qs.length ≤ k := List.getElem?_eq_none_iff.1 h
      rw [List.take_of_length_le (by simp; omega)] at ih ⊢
      omega
    | some p =>
      have hp := hq p (List.mem_of_getElem? h)
      have e : totalOf ((qs.map (fun p => (⟨A * p.h, D * p.v, f p, g p⟩ : Grid))).take (k + 1)) = totalOf ((qs.map (fun p => (⟨A * p.h, D * p.v, f p, g p⟩ : Grid))).take k) + (A * p.h) * (D * p.v) := foldl_take_succ (fun a (g : Grid) => a + g.cols * g.rows) 0 (x := ⟨A * p.h, D * p.v, f p, g p⟩) (by rw [List.getElem?_map, h]; rfl)
      have m1 : 0 ≤ A * p.h := Int.mul_nonneg (by omega) (by omega)
      have m2 : A * p.h ≤ 17384 * 4 := Int.mul_le_mul (by omega) (by omega) (by omega) (by omega)
      have m3 : 0 ≤ D * p.v := Int.mul_nonneg (by omega) (by omega)
      have m4 : D * p.v ≤ 17384 * 4 := Int.mul_le_mul (by omega) (by omega) (by omega) (by omega)
      have m5 : 0 ≤ (A * p.h) * (D * p.v) := Int.mul_nonneg m1 m3
      have m6 : (A * p.h) * (D * p.v) ≤ 69536 * 69536 := Int.mul_le_mul (by omega) (by omega) m3 (by omega)
      rw [e]
      omega
theorem ownsRow_below {w w' : World} {base : Nat} {e : TypeId} {size : Nat} {v : Value} {n : Nat} {xs : List Value} (h : w.ownsRow base e size v n xs) (hB : Below w.heap.size w w') : w'.ownsRow base e size v n xs := by
  obtain ⟨hl, h | ⟨g, cap, cur, hv, hb, hh, r⟩⟩ := h
  · exact ⟨hl, .inl h⟩
  · exact ⟨hl, .inr ⟨g, cap, cur, hv, hb, (hB.block g (Array.getElem?_eq_some_iff.1 hh).1).trans hh, r⟩⟩
theorem ownsRow_keep {w w' : World} {base : Nat} {e : TypeId} {size : Nat} {v : Value} {n : Nat} {xs : List Value} (h : w.ownsRow base e size v n xs) (hk : ∀ b, base ≤ b → b < w.heap.size → w'.heap[b]? = w.heap[b]?) : w'.ownsRow base e size v n xs := by
  obtain ⟨hl, h | ⟨g, cap, cur, hv, hb, hh, r⟩⟩ := h
  · exact ⟨hl, .inl h⟩
  · exact ⟨hl, .inr ⟨g, cap, cur, hv, hb, (hk g hb (Array.getElem?_eq_some_iff.1 hh).1).trans hh, r⟩⟩
/-- The frame lies in blocks from base on: it stands wherever these stand. -/
def KeepsFrame (base : Nat) (w : World) (F : Nat) (W H : Int) (ps : List Part) : Prop := ∀ w', (∀ b, base ≤ b → b < w.heap.size → w'.heap[b]? = w.heap[b]?) → RdFrame w' F W H ps
theorem ownsRow_ne {w : World} {base : Nat} {e : TypeId} {size : Nat} {v : Value} {n : Nat} {xs : List Value} (h : w.ownsRow base e size v n xs) {k : Nat} (hk : k < base) : some k ≠ v.ownBlock := by
  obtain ⟨_, ⟨rfl, _⟩ | ⟨g, cap, cur, rfl, hb, _⟩⟩ := h
  · simp [Value.ownBlock]
  · simp [Value.ownBlock]; omega
theorem ownsRow_ne' {w : World} {base : Nat} {e : TypeId} {size : Nat} {v : Value} {n : Nat} {xs : List Value} (h : w.ownsRow base e size v n xs) {k : Nat} (hk : w.heap.size ≤ k) : some k ≠ v.ownBlock := by
  obtain ⟨_, ⟨rfl, _⟩ | ⟨g, cap, cur, rfl, hb, hh, _⟩⟩ := h
  · simp [Value.ownBlock]
  · have := (Array.getElem?_eq_some_iff.1 hh).1
    simp [Value.ownBlock]; omega
theorem ownsRow_set {w : World} {base : Nat} {e : TypeId} {size : Nat} {v : Value} {n : Nat} {xs : List Value} (h : w.ownsRow base e size v n xs) {k i : Nat} (hk : k < base) (x : Value) : (w.setCell ⟨k, i, none⟩ x).ownsRow base e size v n xs := by
  obtain ⟨hl, h | ⟨g, cap, cur, hv, hb, hh, r⟩⟩ := h
  · exact ⟨hl, .inl h⟩
  · exact ⟨hl, .inr ⟨g, cap, cur, hv, hb, (Below.heap_setCell w ⟨k, i, none⟩ x g (by simp; omega)).trans hh, r⟩⟩
theorem ownsRow_own {w : World} {base : Nat} {e : TypeId} {size : Nat} {v : Value} {n : Nat} {xs : List Value} (h : w.ownsRow base e size v n xs) {k : Nat} (hk : v.ownBlock = some k) : base ≤ k := by
  obtain ⟨_, ⟨rfl, _⟩ | ⟨g, cap, cur, rfl, hb, _⟩⟩ := h
  · simp [Value.ownBlock] at hk
  · simp [Value.ownBlock] at hk; omega
theorem take_two {cur : Array Value} (h : 2 ≤ cur.size) (a b : Value) : ((cur.setIfInBounds 0 a).setIfInBounds 1 b).toList.take (1 * 2) = [a, b] := by
  rcases cur with ⟨l⟩
  match l, h with
  | x :: y :: r, _ => simp
theorem infoz_Grid : (Try.prog.info? 116).map (fun i => (i.zero, i.size, i.bytes)) = some (some (.agg #[.int .i64 0, .int .i64 0, .int .i64 0, .int .i64 0]), 4, 32) := by kernel_rfl
set_option maxRecDepth 100000 in
set_option maxHeartbeats 4000000 in
theorem new_any {w : World} {v : Value} {ps : List Part} (W H : Int) (hR : RdL w 2 v (ps.map partRow)) :
    Calls Try.prog 101 #[.int .i64 W, .int .i64 H, v] w fun e w' => Below w.heap.size w w' ∧
      ((newErr W H ps ≠ 0 ∧ e = .returned (.tuple #[.pointer none, .int .i64 (newErr W H ps)])) ∨
       (newErr W H ps = 0 ∧ ∃ F, w.heap.size ≤ F ∧ e = .returned (.tuple #[.pointer (some ⟨F, 0, none⟩), .int .i64 0]) ∧ KeepsFrame w.heap.size w' F W H (fixP ps))) := by
  have HRT := Lib.hid (right_any W H hR)
  by_cases h0 : rightErr W H ps = 0
  · have hz := rightErr_zero h0
    have hb0 : (rightErr W H ps != 0) = false := by simp [h0]
    have HCL := Lib.hid (show ∀ w2, Below w.heap.size w w2 → _ from fun w2 hB => clonePart_some (hR.below hB) hz.2.2.2.2.1 hz.2.2.2.2.2.1)
    obtain ⟨⟨p, cap, rfl, hcap, hcm, hx⟩, hk, ho⟩ := hR
    rw [List.length_map] at hcap hcm HRT HCL ⊢
    have HR0 := Lib.hid h0
    clear hx hk ho h0 hcap hcm
    obtain ⟨hW1, hW2, hH1, hH2, hN1, hN4, hps⟩ := hz
    obtain ⟨N, hN⟩ : ∃ N, N = ps.length := ⟨_, rfl⟩
    rw [← hN] at HRT HCL hN1 hN4 ⊢
    have HN := Lib.hid hN; clear hN
    have HPS := Lib.hid hps; clear hps
    go_enter Try.func101, Try.ntmps101
    go_wp2_with fail
    refine HRT.out.mono ?_
    rintro e w2 ⟨rfl, hB2⟩
    go_wp2_with fail
    refine (HCL.out w2 hB2).mono ?_
    rintro e w3 ⟨g, cap3, cur, rfl, hB3, hg, hg3, hh, hc3, hm3, hs3, ht3⟩
    have hBw3 : Below w.heap.size w w3 := hB2.trans (hB3.mono hB2.size)
    have hgw : w.heap.size ≤ g := Nat.le_trans hB2.size hg
    have HGB := Lib.hid hgw
    clear HRT HCL hB2 hB3 hg
    by_cases h1 : N = 1
    · have hb1 : ((N : Int) == 1) = true := by rw [beq_iff_eq]; omega
      have hq0 : w3.cell? ⟨g, 0, none⟩ = some (cur.getD 0 undef) := by rw [cell_of_row w3 g 0 cur _ (0, 0) hh]; simp [Array.getD_eq_getD_getElem?, Array.getElem?_eq_getElem (show 0 < cur.size by omega)]
      have hq1 : w3.cell? ⟨g, 1, none⟩ = some (cur.getD 1 undef) := by rw [cell_of_row w3 g 1 cur _ (0, 0) hh]; simp [Array.getD_eq_getD_getElem?, Array.getElem?_eq_getElem (show 1 < cur.size by omega)]
      have hf0 : w3.frozen? ⟨g, 0, none⟩ = false := frozen_of_row w3 g 0 cur _ hh
      have hf1 : w3.frozen? ⟨g, 1, none⟩ = false := frozen_of_row w3 g 1 cur _ hh
      have hl0 : (0 : Int) < (N : Int) := by omega
      have HH := Lib.hid hh; have HT3 := Lib.hid ht3; have H1 := Lib.hid h1; have HS3 := Lib.hid hs3
      clear hh ht3 h1 hs3
      obtain ⟨w3', hw3'⟩ : ∃ w3', w3' = (w3.setCell ⟨g, 0, none⟩ (.int .i64 1)).setCell ⟨g, 1, none⟩ (.int .i64 1) := ⟨_, rfl⟩
      obtain ⟨cur', hcur'⟩ : ∃ c, c = (cur.setIfInBounds 0 (.int .i64 1)).setIfInBounds 1 (.int .i64 1) := ⟨_, rfl⟩
      have hh' : w3'.heap[g]? = some (.cells cur' 154 (0, 0)) := by rw [hw3', hcur']; exact heap_setCell_same _ g 1 _ _ _ (heap_setCell_same w3 g 0 _ _ _ HH.out)
      have hs' : w3'.heap.size = w3.heap.size := by rw [hw3']; simp [World.setCell]
      have hB' : Below w.heap.size w w3' := by rw [hw3']; exact (hBw3.setCell (p := ⟨g, 0, none⟩) hgw _).setCell (p := ⟨g, 1, none⟩) hgw _
      obtain ⟨qs, hqs⟩ : ∃ qs : List Part, qs = [⟨1, 1⟩] := ⟨_, rfl⟩
      have HQN := Lib.hid (show qs.length = N from by rw [hqs, H1.out]; rfl)
      have HQS := Lib.hid (show ∀ p, p ∈ qs → 1 ≤ p.h ∧ p.h ≤ 4 ∧ 1 ≤ p.v ∧ p.v ≤ 4 from by rw [hqs]; simp)
      have HFX := Lib.hid (show fixP ps = qs from by rw [hqs]; unfold fixP; rw [if_pos (by rw [← HN.out]; exact H1.out)])
      have HT := Lib.hid (show cur'.toList.take (N * 2) = (qs.map partRow).flatten from by
        rw [hqs, hcur', H1.out]
        exact take_two (by rw [HS3.out]; omega) _ _)
      have HS' := Lib.hid (show cur'.size = cap3 * 2 from by rw [hcur']; simp; exact HS3.out)
      have HG4 := Lib.hid (show (w3'.alloc (.cells #[.slice (some ⟨g, 0, none⟩) N cap3, .slice none 0 0, .int .i64 0, .int .i64 0, .int .i64 0, .int .i64 0, .int .i64 0, .int .i64 0] 158)).heap[g]? = some (.cells cur' 154 (0, 0)) from (Below.heap_alloc _ _ g (by omega)).trans hh')
      have HB4 := Lib.hid (show Below w.heap.size w (w3'.alloc (.cells #[.slice (some ⟨g, 0, none⟩) N cap3, .slice none 0 0, .int .i64 0, .int .i64 0, .int .i64 0, .int .i64 0, .int .i64 0, .int .i64 0] 158)) from hB'.alloc hB'.size _)
      obtain ⟨F, hF⟩ : ∃ F, F = w3.heap.size := ⟨_, rfl⟩
      have HF4 := Lib.hid (show (w3'.alloc (.cells #[.slice (some ⟨g, 0, none⟩) N cap3, .slice none 0 0, .int .i64 0, .int .i64 0, .int .i64 0, .int .i64 0, .int .i64 0, .int .i64 0] 158)).heap[F]? = some (.cells #[.slice (some ⟨g, 0, none⟩) N cap3, .slice none 0 0, .int .i64 0, .int .i64 0, .int .i64 0, .int .i64 0, .int .i64 0, .int .i64 0] 158 (0, 0)) from by rw [hF, ← hs']; exact heap_alloc_new _ _)
      have hgF : g < F := by omega
      have hwF : w.heap.size ≤ F := by have := hBw3.size; omega
      have HM3 := Lib.hid hm3
      have H1N := Lib.hid (show (N : Int) ≤ 1 from by have := H1.out; omega)
      clear hh' hs' hB' hqs HT3 HS3 hBw3 hm3
      have HW3 := Lib.hid hw3'; have HFF := Lib.hid hF; have HSZ := HS'; have HH3 := HH
      clear hw3' hF hcur' HS'
      go_wp2_with fail
      rw [← HW3.out, ← HFF.out]
      clear HW3 HFF HH HH3 hq0 hq1 hf0 hf1 hg3 hl0
      generalize w3' = w3 at *
      generalize cur' = cur at *
      generalize w3.alloc (.cells #[.slice (some ⟨g, 0, none⟩) N cap3, .slice none 0 0, .int .i64 0, .int .i64 0, .int .i64 0, .int .i64 0, .int .i64 0, .int .i64 0] 158) = w4 at *
      go_loopw [10, 11, 13, 42] (fun hh vv _ i wr => ∃ k : Nat, k ≤ N ∧ i = .int .i64 k ∧ hh = .int .i64 (hhOf (qs.take k)) ∧ vv = .int .i64 (vvOf (qs.take k)) ∧ Hid (wr.heap[F]? = some (.cells #[.slice (some ⟨g, 0, none⟩) N cap3, .slice none 0 0, .int .i64 0, .int .i64 0, .int .i64 0, .int .i64 0, .int .i64 0, .int .i64 (sumOf (qs.take k))] 158 (0, 0))) ∧
        Hid (wr.heap[g]? = some (.cells cur 154 (0, 0))) ∧ Hid (Below w.heap.size w wr)) (fun _ _ _ i _ => N - (intOf i).toNat)
      case atStart => exact ⟨0, by omega, rfl, rfl, rfl, HF4.out, HG4.out, HB4.out⟩
      case round =>
        obtain ⟨k, hkN, rfl, rfl, rfl, hF, hG, hB⟩ := hrel
        by_cases hlt : k < N
        · obtain ⟨q, hq⟩ : ∃ q, qs[k]? = some q := ⟨_, List.getElem?_eq_getElem (by rw [HQN.out]; exact hlt)⟩
          have hqb := HQS.out q (List.mem_of_getElem? hq)
          have hcc := part_cells hG.out HT.out HQN.out hq
          obtain ⟨hc0, hc1⟩ := hcc
          have hbd := hh_bd (qs := qs.take k) (fun p hp => HQS.out p (List.mem_of_mem_take hp))
          rw [List.length_take, HQN.out, Nat.min_eq_left hkN] at hbd
          have h7 : wr.cell? ⟨F, 7, none⟩ = some (.int .i64 (sumOf (qs.take k))) := by rw [cell_of_row wr F 7 _ _ (0, 0) hF.out]; rfl
          have hfz : wr.frozen? ⟨F, 7, none⟩ = false := frozen_of_row wr F 7 _ _ hF.out
          have hFs : F < wr.heap.size := (Array.getElem?_eq_some_iff.1 hF.out).1
          have e1 := Lib.hid (show hhOf (qs.take (k + 1)) = max (hhOf (qs.take k)) q.h from foldl_take_succ _ _ hq)
          have e2 := Lib.hid (show vvOf (qs.take (k + 1)) = max (vvOf (qs.take k)) q.v from foldl_take_succ _ _ hq)
          have e3 := Lib.hid (show sumOf (qs.take (k + 1)) = sumOf (qs.take k) + q.h * q.v from foldl_take_succ _ _ hq)
          generalize hhOf (qs.take k) = a at *
          generalize vvOf (qs.take k) = b at *
          generalize sumOf (qs.take k) = c at *
          obtain ⟨q1, q2, q3, q4⟩ := hqb
          obtain ⟨b1, b2, b3, b4, b5, b6⟩ := hbd
          have m1 : 0 ≤ q.h * q.v := Int.mul_nonneg (by omega) (by omega)
          have m2 : q.h * q.v ≤ 4 * 4 := Int.mul_le_mul q2 q4 (by omega) (by omega)
          have HQ := Lib.hid hq; clear hq
          go_wp2_with fail
          go_quiet (fail)
          obtain ⟨a2, ha2⟩ : ∃ a2, a2 = if a < q.h then q.h else a := ⟨_, rfl⟩
          obtain ⟨b2', hb2⟩ : ∃ b2', b2' = if b < q.v then q.v else b := ⟨_, rfl⟩
          rw [← ha2, ← hb2]
          have EA := Lib.hid (show a2 = max a q.h from by rw [ha2]; split <;> omega)
          have EB := Lib.hid (show b2' = max b q.v from by rw [hb2]; split <;> omega)
          clear ha2 hb2
          obtain ⟨w5, hw5⟩ : ∃ w5, w5 = (wr.alloc (.cells #[.int .i64 q.h, .int .i64 q.v] 154)).drewN nq := ⟨_, rfl⟩
          have hB6 : Below wr.heap.size wr w5 := by rw [hw5]; exact below_drewN (below_new _) nq
          have hp0 : w5.cell? ⟨wr.heap.size, 0, none⟩ = some (.int .i64 q.h) := by rw [hw5, World.cell?_drewN]; exact new_cell (Below.refl _ _) 0 rfl
          have hp1 : w5.cell? ⟨wr.heap.size, 1, none⟩ = some (.int .i64 q.v) := by rw [hw5, World.cell?_drewN]; exact new_cell (Below.refl _ _) 1 rfl
          have h75 : w5.cell? ⟨F, 7, none⟩ = some (.int .i64 c) := old_cell hB6 h7
          have hf5 : w5.frozen? ⟨F, 7, none⟩ = false := by rw [← hfz]; exact hB6.frozen (p := ⟨F, 7, none⟩) hFs
          have hF5 := Lib.hid ((hB6.block F hFs).trans hF.out)
          have hG5 := Lib.hid ((hB6.block g (by omega)).trans hG.out)
          have hB5 := Lib.hid (hB.out.trans (hB6.mono hB.out.size))
          rw [← hw5]
          clear h7 hfz hc0 hc1 hF hG hB hB6 hw5
          go_wp2_with fail
          go_region
          all_goals go_wp2_with fail
          all_goals
            go_roundw
            case rel =>
              refine ⟨k + 1, by omega, by go_num, congrArg (Value.int .i64) (by rw [e1.out, EA.out]), congrArg (Value.int .i64) (by rw [e2.out, EB.out]), ?_, ?_, ?_⟩
              · rw [e3.out]
                exact heap_setCell_same w5 F 7 _ _ _ hF5.out
              · exact (Below.heap_setCell w5 ⟨F, 7, none⟩ _ g (by simp; omega)).trans hG5.out
              · exact (hB5.out.setCell (p := ⟨F, 7, none⟩) hwF _).drew
            case measure => simp [intOf]; omega
        · obtain rfl : N = k := by omega
          have hT : qs.take N = qs := List.take_of_length_le (by rw [HQN.out]; exact Nat.le_refl _)
          rw [hT] at hF ⊢
          have hbd := hh_bd HQS.out
          rw [HQN.out] at hbd
          have hpos := hh_pos HQS.out (by rw [HQN.out]; exact hN1)
          clear hT
          have h7 : wr.cell? ⟨F, 7, none⟩ = some (.int .i64 (sumOf qs)) := by rw [cell_of_row wr F 7 _ _ (0, 0) hF.out]; rfl
          have hFs : F < wr.heap.size := (Array.getElem?_eq_some_iff.1 hF.out).1
          have HNE := Lib.hid (show newErr W H ps = if 1 < N ∧ 10 < sumOf qs then 12 else if 16384 < totalOf (gridsOf W H qs) then 11 else 0 from by
            unfold newErr; rw [if_neg (by rw [HR0.out]; decide), HFX.out, ← HN.out])
          have HGR := Lib.hid (show gridsOf W H qs = qs.map (fun p => ⟨upN W (8 * hhOf qs) * p.h, upN H (8 * vvOf qs) * p.v, upN (upN (W * p.h) (hhOf qs)) 8, upN (upN (H * p.v) (vvOf qs)) 8⟩) from rfl)
          have HRF := Lib.hid (show ∀ w', (∃ pv gv, w'.heap[F]? = some (.cells #[pv, gv, .int .i64 (upN W (8 * hhOf qs)), .int .i64 (upN H (8 * vvOf qs)), .int .i64 (8 * hhOf qs), .int .i64 (8 * vvOf qs), .int .i64 (totalOf (gridsOf W H qs)), .int .i64 (sumOf qs)] 158 (0, 0)) ∧
            RdL w' 2 pv (qs.map partRow) ∧ RdL w' 4 gv ((gridsOf W H qs).map gridRow)) → RdFrame w' F W H qs from fun w' h => ⟨h⟩)
          generalize hhOf qs = a at *
          generalize vvOf qs = b at *
          generalize sumOf qs = s at *
          by_cases h12 : 1 < N ∧ 10 < s
          · have HF12 := Lib.hid (show newErr W H ps = 12 from by rw [HNE.out, if_pos h12])
            obtain ⟨hx1, hx2⟩ := h12
            have hx1' : (1 : Int) < (N : Int) := by omega
            go_wp2_with fail
            go_ret2
            exact ⟨hB.out, .inl ⟨by rw [HF12.out]; decide, by rw [HF12.out]; rfl⟩⟩
          · have HNE2 := Lib.hid (show newErr W H ps = if 16384 < totalOf (gridsOf W H qs) then 11 else 0 from by rw [HNE.out, if_neg h12])
            have h4 : wr.cell? ⟨F, 4, none⟩ = some (.int .i64 0) := by rw [cell_of_row wr F 4 _ _ (0, 0) hF.out]; rfl
            have h5 : wr.cell? ⟨F, 5, none⟩ = some (.int .i64 0) := by rw [cell_of_row wr F 5 _ _ (0, 0) hF.out]; rfl
            have hf4 : wr.frozen? ⟨F, 4, none⟩ = false := frozen_of_row wr F 4 _ _ hF.out
            have hf5 : wr.frozen? ⟨F, 5, none⟩ = false := frozen_of_row wr F 5 _ _ hF.out
            obtain ⟨a0, a4, b0, b4, _, _⟩ := hbd
            obtain ⟨a1, b1⟩ := hpos
            have hF6 := heap_setCell_same (wr.setCell ⟨F, 4, none⟩ (.int .i64 (8 * a))) F 5 _ _ (.int .i64 (8 * b)) (heap_setCell_same wr F 4 _ _ (.int .i64 (8 * a)) hF.out)
            have hG6 : ((wr.setCell ⟨F, 4, none⟩ (.int .i64 (8 * a))).setCell ⟨F, 5, none⟩ (.int .i64 (8 * b))).heap[g]? = some (.cells cur 154 (0, 0)) := ((Below.heap_setCell _ ⟨F, 5, none⟩ _ g (by simp; omega)).trans (Below.heap_setCell wr ⟨F, 4, none⟩ _ g (by simp; omega))).trans hG.out
            have hB6 := (hB.out.setCell (p := ⟨F, 4, none⟩) hwF (.int .i64 (8 * a))).setCell (p := ⟨F, 5, none⟩) hwF (.int .i64 (8 * b))
            have HF6 := Lib.hid hF6; have HG6 := Lib.hid hG6; have HB6 := Lib.hid hB6
            clear hF6 hG6 hB6
            have hd3 : (N : Int) ≤ 1 := H1N.out
            skip
            go_wp2_with fail
            clear h4 h5 hf4 hf5 h7 hFs h12
            generalize (wr.setCell ⟨F, 4, none⟩ (.int .i64 (8 * a))).setCell ⟨F, 5, none⟩ (.int .i64 (8 * b)) = w6 at *
            have hFs : F < w6.heap.size := (Array.getElem?_eq_some_iff.1 HF6.out).1
            have h4 : w6.cell? ⟨F, 4, none⟩ = some (.int .i64 (8 * a)) := by rw [cell_of_row w6 F 4 _ _ (0, 0) HF6.out]; rfl
            have h5 : w6.cell? ⟨F, 5, none⟩ = some (.int .i64 (8 * b)) := by rw [cell_of_row w6 F 5 _ _ (0, 0) HF6.out]; rfl
            have h2 : w6.cell? ⟨F, 2, none⟩ = some (.int .i64 0) := by rw [cell_of_row w6 F 2 _ _ (0, 0) HF6.out]; rfl
            have h3 : w6.cell? ⟨F, 3, none⟩ = some (.int .i64 0) := by rw [cell_of_row w6 F 3 _ _ (0, 0) HF6.out]; rfl
            have hf2 : w6.frozen? ⟨F, 2, none⟩ = false := frozen_of_row w6 F 2 _ _ HF6.out
            have hf3 : w6.frozen? ⟨F, 3, none⟩ = false := frozen_of_row w6 F 3 _ _ HF6.out
            go_region_held3 (fun wx => wx.cell? ⟨F, 4, none⟩ = some (.int .i64 (8 * a)) ∧ wx.cell? ⟨F, 5, none⟩ = some (.int .i64 (8 * b))) (first | exact ⟨h4, h5⟩ | (refine ⟨?_, ?_⟩ <;> go_simp)) (first | (go_at_call 139; refine (up_any _ _ _ (by omega) (by omega) (by omega) (by omega)).mono ?_; rintro e w' ⟨rfl, rfl⟩))
            have h0 : w6.cell? ⟨F, 0, none⟩ = some (.slice (some ⟨g, 0, none⟩) N cap3) := by rw [cell_of_row w6 F 0 _ _ (0, 0) HF6.out]; rfl
            go_wp2_with fail
            have hF7 := Lib.hid (show ((w6.setCell ⟨F, 2, none⟩ (.int .i64 (upN W (8 * a)))).setCell ⟨F, 3, none⟩ (.int .i64 (upN H (8 * b)))).drew.heap[F]? = some (.cells #[.slice (some ⟨g, 0, none⟩) N cap3, .slice none 0 0, .int .i64 (upN W (8 * a)), .int .i64 (upN H (8 * b)), .int .i64 (8 * a), .int .i64 (8 * b), .int .i64 0, .int .i64 s] 158 (0, 0)) from
              heap_setCell_same (w6.setCell ⟨F, 2, none⟩ (.int .i64 (upN W (8 * a)))) F 3 _ _ (.int .i64 (upN H (8 * b))) (heap_setCell_same w6 F 2 _ _ (.int .i64 (upN W (8 * a))) HF6.out))
            have hG7 := Lib.hid (show ((w6.setCell ⟨F, 2, none⟩ (.int .i64 (upN W (8 * a)))).setCell ⟨F, 3, none⟩ (.int .i64 (upN H (8 * b)))).drew.heap[g]? = some (.cells cur 154 (0, 0)) from
              ((Below.heap_setCell _ ⟨F, 3, none⟩ _ g (by simp; omega)).trans (Below.heap_setCell w6 ⟨F, 2, none⟩ _ g (by simp; omega))).trans HG6.out)
            have hB7 := Lib.hid (show Below w.heap.size w (((w6.setCell ⟨F, 2, none⟩ (.int .i64 (upN W (8 * a)))).setCell ⟨F, 3, none⟩ (.int .i64 (upN H (8 * b)))).drew) from
              ((HB6.out.setCell (p := ⟨F, 2, none⟩) hwF _).setCell (p := ⟨F, 3, none⟩) hwF _).drew)
            generalize ((w6.setCell ⟨F, 2, none⟩ (.int .i64 (upN W (8 * a)))).setCell ⟨F, 3, none⟩ (.int .i64 (upN H (8 * b)))).drew = w7 at *
            clear h0 h2 h3 h4 h5 hf2 hf3 hFs
            have bA := upN_bd W (8 * a) (by omega) (by omega) (by omega)
            have bD := upN_bd H (8 * b) (by omega) (by omega) (by omega)
            generalize upN W (8 * a) = A' at *
            generalize upN H (8 * b) = D' at *
            have hGl : (gridsOf W H qs).length = N := by rw [HGR.out, List.length_map]; exact HQN.out
            have HGL := Lib.hid hGl; clear hGl
            generalize gridsOf W H qs = gs at *
            go_loopw [15, 16, 110] (fun _ _ i wr => ∃ k : Nat, k ≤ N ∧ i = .int .i64 k ∧ Hid (∃ gv, wr.heap[F]? = some (.cells #[.slice (some ⟨g, 0, none⟩) N cap3, gv, .int .i64 A', .int .i64 D', .int .i64 (8 * a), .int .i64 (8 * b), .int .i64 (totalOf (gs.take k)), .int .i64 s] 158 (0, 0)) ∧
                wr.ownsRow (F + 1) 116 4 gv k ((gs.take k).map gridRow).flatten) ∧
              Hid (wr.heap[g]? = some (.cells cur 154 (0, 0))) ∧ Hid (Below w.heap.size w wr)) (fun _ _ i _ => N - (intOf i).toNat)
            case atStart => exact ⟨0, by omega, rfl, ⟨_, hF7.out, World.ownsRow_nil _ _ _ _⟩, hG7.out, hB7.out⟩
            case round =>
              obtain ⟨k, hkN, rfl, hFO, hG, hB⟩ := hrel
              clear hF7 hG7 hB7 HF6 HG6 HB6 HF4 HG4 HB4
              by_cases hlt : k < N
              · obtain ⟨q, hq⟩ : ∃ q, qs[k]? = some q := ⟨_, List.getElem?_eq_getElem (by rw [HQN.out]; exact hlt)⟩
                obtain ⟨q1, q2, q3, q4⟩ := HQS.out q (List.mem_of_getElem? hq)
                have hcc := part_cells hG.out HT.out HQN.out hq
                obtain ⟨hc0, hc1⟩ := hcc
                obtain ⟨gv, hF, hO⟩ := hFO.out
                have hgk : gs[k]? = some ⟨A' * q.h, D' * q.v, upN (upN (W * q.h) a) 8, upN (upN (H * q.v) b) 8⟩ := by rw [HGR.out, List.getElem?_map, hq]; rfl
                have hFs : F < wr.heap.size := (Array.getElem?_eq_some_iff.1 hF).1
                have eT := Lib.hid (show totalOf (gs.take (k + 1)) = totalOf (gs.take k) + (A' * q.h) * (D' * q.v) from foldl_take_succ _ _ hgk)
                have eG := Lib.hid (show ((gs.take (k + 1)).map gridRow).flatten = ((gs.take k).map gridRow).flatten ++ [.int .i64 (A' * q.h), .int .i64 (D' * q.v), .int .i64 (upN (upN (W * q.h) a) 8), .int .i64 (upN (upN (H * q.v) b) 8)] from by
                  rw [List.take_add_one, hgk]; simp [gridRow])
                have m1 : 0 ≤ A' * q.h := Int.mul_nonneg (by omega) (by omega)
                have m2 : A' * q.h ≤ 17384 * 4 := Int.mul_le_mul (by omega) q2 (by omega) (by omega)
                have m3 : 0 ≤ D' * q.v := Int.mul_nonneg (by omega) (by omega)
                have m4 : D' * q.v ≤ 17384 * 4 := Int.mul_le_mul (by omega) q4 (by omega) (by omega)
                have m5 : 0 ≤ W * q.h := Int.mul_nonneg (by omega) (by omega)
                have m6 : W * q.h ≤ 16384 * 4 := Int.mul_le_mul hW2 q2 (by omega) (by omega)
                have m7 : 0 ≤ H * q.v := Int.mul_nonneg (by omega) (by omega)
                have m8 : H * q.v ≤ 16384 * 4 := Int.mul_le_mul hH2 q4 (by omega) (by omega)
                have u1 := upN_bd (W * q.h) a (by omega) (by omega) (by omega)
                have u2 := upN_bd (H * q.v) b (by omega) (by omega) (by omega)
                have hF2 : wr.cell? ⟨F, 2, none⟩ = some (.int .i64 A') := by rw [cell_of_row wr F 2 _ _ (0, 0) hF]; rfl
                have hF3 : wr.cell? ⟨F, 3, none⟩ = some (.int .i64 D') := by rw [cell_of_row wr F 3 _ _ (0, 0) hF]; rfl
                have hgs : g < wr.heap.size := by omega
                have HQ := Lib.hid hq; have HK := Lib.hid hgk
                clear hq hgk hFO
                have HF := Lib.hid hF; have HO := Lib.hid hO
                clear hF hO
                go_wp2_with fail
                obtain ⟨w8, hw8⟩ : ∃ w8, w8 = wr.alloc (.cells #[.int .i64 q.h, .int .i64 q.v] 154) := ⟨_, rfl⟩
                have hB8 : Below wr.heap.size wr w8 := by rw [hw8]; exact below_new _
                have hp0 : w8.cell? ⟨wr.heap.size, 0, none⟩ = some (.int .i64 q.h) := by rw [hw8]; exact new_cell (Below.refl _ _) 0 rfl
                have hp1 : w8.cell? ⟨wr.heap.size, 1, none⟩ = some (.int .i64 q.v) := by rw [hw8]; exact new_cell (Below.refl _ _) 1 rfl
                have hF82 := old_cell hB8 hF2
                have hF83 := old_cell hB8 hF3
                have hs8 : wr.heap.size < w8.heap.size := by rw [hw8]; simp
                have hFs8 : F < w8.heap.size := by omega
                have HF8 := Lib.hid ((hB8.block F hFs).trans HF.out)
                have HG8 := Lib.hid ((hB8.block g hgs).trans hG.out)
                have HB8 := Lib.hid (hB.out.trans (hB8.mono hB.out.size))
                have HB8r := Lib.hid hB8
                rw [← hw8]
                clear hc0 hc1 hF2 hF3 hw8 hB8 hF hG hB HF
                have HU1 := Lib.hid (fun w => up_any w (W * q.h) a (by omega) (by omega) (by omega) (by omega))
                have HU2 := Lib.hid (fun w => up_any w (upN (W * q.h) a) 8 (by omega) (by omega) (by omega) (by omega))
                have HU3 := Lib.hid (fun w => up_any w (H * q.v) b (by omega) (by omega) (by omega) (by omega))
                have HU4 := Lib.hid (fun w => up_any w (upN (H * q.v) b) 8 (by omega) (by omega) (by omega) (by omega))
                have hkl : (k : Int) + 1 ≤ 4 := by omega
                have hTb : 0 ≤ totalOf (gs.take k) ∧ totalOf (gs.take k) ≤ 4900000000 * k := total_bd HGR.out (by omega) (by omega) (by omega) (by omega) HQS.out k
                have m9 : 0 ≤ A' * q.h * (D' * q.v) := Int.mul_nonneg m1 m3
                have m10 : A' * q.h * (D' * q.v) ≤ 69536 * 69536 := Int.mul_le_mul (by omega) (by omega) m3 (by omega)
                go_cut [16] (fun s16 wx => s16 = .pointer (some ⟨w8.heap.size, 0, none⟩) ∧ wx.cell? ⟨w8.heap.size, 0, none⟩ = some (.int .i64 (A' * q.h)) ∧ wx.cell? ⟨w8.heap.size, 1, none⟩ = some (.int .i64 (D' * q.v)) ∧
                  wx.cell? ⟨w8.heap.size, 2, none⟩ = some (.int .i64 (upN (upN (W * q.h) a) 8)) ∧ wx.cell? ⟨w8.heap.size, 3, none⟩ = some (.int .i64 (upN (upN (H * q.v) b) 8)) ∧ w8.heap.size < wx.heap.size ∧ Hid (Below w8.heap.size w8 wx))
                case first =>
                  have v1 : IntKind.i64.wrap (W * q.h) = W * q.h := IntWalk.i64_in _ (by omega)
                  have v2 : IntKind.i64.wrap (H * q.v) = H * q.v := IntWalk.i64_in _ (by omega)
                  have v3 : IntKind.i64.wrap (A' * q.h) = A' * q.h := IntWalk.i64_in _ (by omega)
                  have v4 : IntKind.i64.wrap (D' * q.v) = D' * q.v := IntWalk.i64_in _ (by omega)
                  go_region_held3 (fun wx => wx.cell? ⟨F, 2, none⟩ = some (.int .i64 A') ∧ wx.cell? ⟨F, 3, none⟩ = some (.int .i64 D') ∧ wx.cell? ⟨wr.heap.size, 0, none⟩ = some (.int .i64 q.h) ∧ wx.cell? ⟨wr.heap.size, 1, none⟩ = some (.int .i64 q.v)) (first | exact ⟨hF82, hF83, hp0, hp1⟩ | (refine ⟨?_, ?_, ?_, ?_⟩ <;> go_simp)) (first | (go_at_call 139; ((with_reducible refine (HU1.out _).mono ?_); rintro e w' ⟨rfl, rfl⟩)) | (go_at_call 139; ((with_reducible refine (HU2.out _).mono ?_); rintro e w' ⟨rfl, rfl⟩)) | (go_at_call 139; ((with_reducible refine (HU3.out _).mono ?_); rintro e w' ⟨rfl, rfl⟩)) | (go_at_call 139; ((with_reducible refine (HU4.out _).mono ?_); rintro e w' ⟨rfl, rfl⟩)))
                  all_goals (go_wp2_with fail; go_meet; exact ⟨rfl, new_cell (Below.refl _ _) 0 rfl, new_cell (Below.refl _ _) 1 rfl, new_cell (Below.refl _ _) 2 rfl, new_cell (Below.refl _ _) 3 rfl, by simp, by first | exact (below_new _).drew | exact below_new _⟩)
                case rest =>
                  obtain ⟨rfl, hg0, hg1, hg2, hg3, hszc, hBc⟩ := hcut
                  have hFc := Lib.hid ((hBc.out.block F hFs8).trans HF8.out)
                  have hGc := Lib.hid ((hBc.out.block g (by omega)).trans HG8.out)
                  have hBcw := Lib.hid (HB8.out.trans (hBc.out.mono HB8.out.size))
                  have hBcr : Below wr.heap.size wr wc := HB8r.out.trans (hBc.out.mono HB8r.out.size)
                  have hOc := Lib.hid (show wc.ownsRow (F + 1) 116 4 gv k ((gs.take k).map gridRow).flatten from ownsRow_below HO.out hBcr)
                  have h1c : wc.cell? ⟨F, 1, none⟩ = some gv := by rw [cell_of_row wc F 1 _ _ (0, 0) hFc.out]; rfl
                  have h1f : wc.frozen? ⟨F, 1, none⟩ = false := frozen_of_row wc F 1 _ _ hFc.out
                  have hFcs : F < wc.heap.size := (Array.getElem?_eq_some_iff.1 hFc.out).1
                  have hneF : some F ≠ gv.ownBlock := ownsRow_ne HO.out (by omega)
                  have hneg : some g ≠ gv.ownBlock := ownsRow_ne HO.out (by omega)
                  have hne8 : some w8.heap.size ≠ gv.ownBlock := ownsRow_ne' HO.out (by have := HB8r.out.size; omega)
                  clear hF82 hF83 hp0 hp1 HF8 HG8 HB8 HB8r HO HU1 HU2 HU3 HU4 hBc hBcr
                  have HOW := Lib.hid (show ∀ wy, Below wc.heap.size wc wy → wy.ownsRow (F + 1) 116 4 gv k ((gs.take k).map gridRow).flatten from fun wy h => ownsRow_below hOc.out h)
                  obtain ⟨i0, hi, hz0, hz1, hz2⟩ := info_parts infoz_Grid
                  have hk63 : k + 1 ≤ maxLen := by unfold maxLen; omega
                  have hkby : (k + 1) * 32 ≤ 140737488355328 := by omega
                  have HN1 := Lib.hid (show ∀ u, u ∈ [Value.int .i64 (A' * q.h), .int .i64 (D' * q.v), .int .i64 (upN (upN (W * q.h) a) 8), .int .i64 (upN (upN (H * q.v) b) 8)] → u.oneCell' = true from fun u hu => by
                    simp only [List.mem_cons, List.not_mem_nil, or_false] at hu
                    rcases hu with rfl | rfl | rfl | rfl <;> rfl)
                  have HSW := Lib.hid (show w.heap.size ≤ wc.heap.size from hBcw.out.size)
                  have HOO := Lib.hid (show ∀ j, gv.ownBlock = some j → w.heap.size ≤ j from fun j hj => by have := ownsRow_own hOc.out hj; omega)
                  have HBS := Lib.hid (show ∀ o, F + 1 ≤ (wc.alloc o).heap.size from fun o => by rw [World.size_alloc]; omega)
                  have HNF := Lib.hid hneF; have HNG := Lib.hid hneg; have HN8 := Lib.hid hne8
                  clear hneF hneg hne8 hOc
                  go_wp2_with fail
                  go_cut [16] (fun s16 wx => s16 = .pointer (some ⟨w8.heap.size, 0, none⟩) ∧ Hid (∃ gv', wx.heap[F]? = some (.cells #[.slice (some ⟨g, 0, none⟩) N cap3, gv', .int .i64 A', .int .i64 D', .int .i64 (8 * a), .int .i64 (8 * b), .int .i64 (totalOf (gs.take k)), .int .i64 s] 158 (0, 0)) ∧
                      wx.ownsRow (F + 1) 116 4 gv' (k + 1) ((gs.take (k + 1)).map gridRow).flatten) ∧ Hid (wx.heap[g]? = some (.cells cur 154 (0, 0))) ∧ Hid (Below w.heap.size w wx) ∧
                      wx.cell? ⟨w8.heap.size, 0, none⟩ = some (.int .i64 (A' * q.h)) ∧ wx.cell? ⟨w8.heap.size, 1, none⟩ = some (.int .i64 (D' * q.v)))
                  case first =>
                    go_region_law ((refine step_append_lies _ rfl _ _ 156 rfl (F + 1) 116 i0 _ 4 32 Try.underlying156 hi hz0 hz1 hz2 rfl (by decide) gv k _ rfl (HOW.out _ ?_) ⟨wc.heap.size, 0, none⟩ 1 1 [.int .i64 (A' * q.h), .int .i64 (D' * q.v), .int .i64 (upN (upN (W * q.h) a) 8), .int .i64 (upN (upN (H * q.v) b) 8)] rfl rfl (World.news_of_block (heap_alloc_new wc _)) HN1.out (by decide) hk63 hkby (HBS.out _) _ rfl ?_; (focus (first | exact below_new _ | exact (below_new _).drew)); intro g2 cap2 w1 hown1 hgrow1 hat1 hlt1; (have hF1 := Lib.hid ((hgrow1.block F (by simp; omega) HNF.out).trans ((Below.heap_alloc wc _ F hFcs).trans hFc.out))); (have h1w := cell_of_row w1 F 1 _ _ (0, 0) hF1.out); (have hf1w := frozen_of_row w1 F 1 _ _ hF1.out)))
                    all_goals
                      go_wp2_with fail
                      go_meet
                      rw [eG.out]
                      refine ⟨rfl, ⟨_, heap_setCell_same w1 F 1 _ _ _ hF1.out, ownsRow_set hown1 (by omega) _⟩, ?_, ?_, ?_, ?_⟩
                      · exact (Below.heap_setCell w1 ⟨F, 1, none⟩ _ g (by simp; omega)).trans ((hgrow1.block g (by simp; omega) HNG.out).trans ((Below.heap_alloc wc _ g (by omega)).trans hGc.out))
                      · first
                          | exact ((((hBcw.out.alloc HSW.out _).grown hgrow1 (by simp; have := HSW.out; omega) HOO.out).setCell (p := ⟨F, 1, none⟩) hwF _))
                          | exact (((((hBcw.out.alloc HSW.out _).drew).grown hgrow1 (by simp; have := HSW.out; omega) HOO.out).setCell (p := ⟨F, 1, none⟩) hwF _))
                      · exact (World.cell?_of_block ((Below.heap_setCell w1 ⟨F, 1, none⟩ _ w8.heap.size (by simp; omega)).trans ((hgrow1.block w8.heap.size (by simp; omega) HN8.out).trans (Below.heap_alloc wc _ w8.heap.size hszc)))).trans hg0
                      · exact (World.cell?_of_block ((Below.heap_setCell w1 ⟨F, 1, none⟩ _ w8.heap.size (by simp; omega)).trans ((hgrow1.block w8.heap.size (by simp; omega) HN8.out).trans (Below.heap_alloc wc _ w8.heap.size hszc)))).trans hg1
                  case rest =>
                    clear hFc hGc hBcw h1c h1f hFcs HOW HBS HN1 HNF HNG HN8 HSW HOO hi hz0 hz1 hz2 hg0 hg1 hg2 hg3 hszc eG
                    obtain ⟨rfl, hFO, hGx, hBx, hx0, hx1⟩ := hcut
                    obtain ⟨gv', hFx, hOx⟩ := hFO.out
                    have h6 : wc.cell? ⟨F, 6, none⟩ = some (.int .i64 (totalOf (gs.take k))) := by rw [cell_of_row wc F 6 _ _ (0, 0) hFx]; rfl
                    have h6f : wc.frozen? ⟨F, 6, none⟩ = false := frozen_of_row wc F 6 _ _ hFx
                    obtain ⟨ht1, ht2⟩ := hTb
                    have hk4 : (k : Int) ≤ 4 := by omega
                    have HFx := Lib.hid hFx; have HOx := Lib.hid hOx
                    clear hFx hOx hFO hkby
                    generalize totalOf (gs.take k) = tk at *
                    go_wp2_with fail
                    go_region
                    all_goals go_wp2_with fail
                    all_goals
                      go_roundw
                      case rel =>
                        refine ⟨k + 1, by omega, by go_num, ?_, ?_, ?_⟩
                        · rw [eT.out]
                          exact ⟨_, heap_setCell_same wc F 6 _ _ _ HFx.out, ownsRow_set HOx.out (by omega) _⟩
                        · exact (Below.heap_setCell wc ⟨F, 6, none⟩ _ g (by simp; omega)).trans hGx.out
                        · exact (hBx.out.setCell (p := ⟨F, 6, none⟩) hwF _).drew
                      case measure => simp [intOf]; omega
              · obtain rfl : N = k := by omega
                have hT : gs.take N = gs := List.take_of_length_le (by rw [HGL.out]; exact Nat.le_refl _)
                rw [hT] at hFO
                obtain ⟨gv, hF, hO⟩ := hFO.out
                have h6 : wr.cell? ⟨F, 6, none⟩ = some (.int .i64 (totalOf gs)) := by rw [cell_of_row wr F 6 _ _ (0, 0) hF]; rfl
                have hFs : F < wr.heap.size := (Array.getElem?_eq_some_iff.1 hF).1
                have HF := Lib.hid hF; have HO := Lib.hid hO
                clear hT hFO hF hO
                by_cases h11 : 16384 < totalOf gs
                · have HF11 := Lib.hid (show newErr W H ps = 11 from by rw [HNE2.out, if_pos h11])
                  go_wp2_with fail
                  go_ret2
                  exact ⟨hB.out, .inl ⟨by rw [HF11.out]; decide, by rw [HF11.out]; rfl⟩⟩
                · have HF0 := Lib.hid (show newErr W H ps = 0 from by rw [HNE2.out, if_neg h11])
                  have hle : totalOf gs ≤ 16384 := by omega
                  clear h11
                  go_wp2_with fail
                  go_ret2
                  refine ⟨hB.out, .inr ⟨HF0.out, F, hwF, rfl, fun wk hwk => ?_⟩⟩
                  rw [HFX.out]
                  refine HRF.out _ ⟨_, _, (hwk F hwF (Array.getElem?_eq_some_iff.1 HF.out).1).trans HF.out, ?_, ?_⟩
                  · refine RdL.of_owns (base := 0) (e := 154) ?_ (by rw [List.length_map, HQN.out]; omega) (fun x hx => by obtain ⟨q, _, rfl⟩ := List.mem_map.1 hx; rfl) (fun x hx v hv => by
                      obtain ⟨q, _, rfl⟩ := List.mem_map.1 hx
                      simp only [partRow, List.mem_cons, List.not_mem_nil, or_false] at hv
                      rcases hv with rfl | rfl <;> rfl)
                    rw [List.length_map, HQN.out]
                    exact ⟨by rw [flatten_length (k := 2) (fun x hx => by obtain ⟨q, _, rfl⟩ := List.mem_map.1 hx; rfl), List.length_map, HQN.out], .inr ⟨g, cap3, cur, rfl, Nat.zero_le _, (hwk g HGB.out (Array.getElem?_eq_some_iff.1 hG.out).1).trans hG.out, hc3, HM3.out, HSZ.out, HT.out⟩⟩
                  · refine RdL.of_owns (base := F + 1) (e := 116) ?_ (by rw [List.length_map, HGL.out]; omega) (fun x hx => by obtain ⟨q, _, rfl⟩ := List.mem_map.1 hx; rfl) (fun x hx v hv => by
                      obtain ⟨q, _, rfl⟩ := List.mem_map.1 hx
                      simp only [gridRow, List.mem_cons, List.not_mem_nil, or_false] at hv
                      rcases hv with rfl | rfl | rfl | rfl <;> rfl)
                    rw [List.length_map, HGL.out]
                    exact ownsRow_keep HO.out (fun b hb hlt => hwk b (by omega) hlt)
    · have hb1 : ((N : Int) == 1) = false := by rw [beq_eq_false_iff_ne]; omega
      have HH := Lib.hid hh; have HT3 := Lib.hid ht3; have HS3 := Lib.hid hs3
      clear hh ht3 hs3
      obtain ⟨qs, hqs⟩ : ∃ qs, qs = ps := ⟨_, rfl⟩
      have HQN := Lib.hid (show qs.length = N from by rw [hqs]; exact HN.out.symm)
      have HQS := Lib.hid (show ∀ p, p ∈ qs → 1 ≤ p.h ∧ p.h ≤ 4 ∧ 1 ≤ p.v ∧ p.v ≤ 4 from by rw [hqs]; exact HPS.out)
      have HFX := Lib.hid (show fixP ps = qs from by rw [hqs]; unfold fixP; rw [if_neg (by rw [← HN.out]; exact h1)])
      have HG4 := Lib.hid (show (w3.alloc (.cells #[.slice (some ⟨g, 0, none⟩) N cap3, .slice none 0 0, .int .i64 0, .int .i64 0, .int .i64 0, .int .i64 0, .int .i64 0, .int .i64 0] 158)).heap[g]? = some (.cells cur 154 (0, 0)) from (Below.heap_alloc _ _ g hg3).trans HH.out)
      have HT := Lib.hid (show cur.toList.take (N * 2) = (qs.map partRow).flatten from by rw [hqs]; exact HT3.out)
      have HB4 := Lib.hid (show Below w.heap.size w (w3.alloc (.cells #[.slice (some ⟨g, 0, none⟩) N cap3, .slice none 0 0, .int .i64 0, .int .i64 0, .int .i64 0, .int .i64 0, .int .i64 0, .int .i64 0] 158)) from hBw3.alloc hBw3.size _)
      obtain ⟨F, hF⟩ : ∃ F, F = w3.heap.size := ⟨_, rfl⟩
      have HF4 := Lib.hid (show (w3.alloc (.cells #[.slice (some ⟨g, 0, none⟩) N cap3, .slice none 0 0, .int .i64 0, .int .i64 0, .int .i64 0, .int .i64 0, .int .i64 0, .int .i64 0] 158)).heap[F]? = some (.cells #[.slice (some ⟨g, 0, none⟩) N cap3, .slice none 0 0, .int .i64 0, .int .i64 0, .int .i64 0, .int .i64 0, .int .i64 0, .int .i64 0] 158 (0, 0)) from by rw [hF]; exact heap_alloc_new _ _)
      have hgF : g < F := by omega
      have hwF : w.heap.size ≤ F := by have := hBw3.size; omega
      have HM3 := Lib.hid hm3; have HSZ := HS3
      clear hqs HH HT3 HS3 hBw3 hm3
      go_wp2_with fail
      rw [← hF]
      clear hF hg3
      generalize w3.alloc (.cells #[.slice (some ⟨g, 0, none⟩) N cap3, .slice none 0 0, .int .i64 0, .int .i64 0, .int .i64 0, .int .i64 0, .int .i64 0, .int .i64 0] 158) = w4 at *
      go_loopw [10, 11, 13, 42] (fun hh vv _ i wr => ∃ k : Nat, k ≤ N ∧ i = .int .i64 k ∧ hh = .int .i64 (hhOf (qs.take k)) ∧ vv = .int .i64 (vvOf (qs.take k)) ∧ Hid (wr.heap[F]? = some (.cells #[.slice (some ⟨g, 0, none⟩) N cap3, .slice none 0 0, .int .i64 0, .int .i64 0, .int .i64 0, .int .i64 0, .int .i64 0, .int .i64 (sumOf (qs.take k))] 158 (0, 0))) ∧
        Hid (wr.heap[g]? = some (.cells cur 154 (0, 0))) ∧ Hid (Below w.heap.size w wr)) (fun _ _ _ i _ => N - (intOf i).toNat)
      case atStart => exact ⟨0, by omega, rfl, rfl, rfl, HF4.out, HG4.out, HB4.out⟩
      case round =>
        obtain ⟨k, hkN, rfl, rfl, rfl, hF, hG, hB⟩ := hrel
        by_cases hlt : k < N
        · obtain ⟨q, hq⟩ : ∃ q, qs[k]? = some q := ⟨_, List.getElem?_eq_getElem (by rw [HQN.out]; exact hlt)⟩
          have hqb := HQS.out q (List.mem_of_getElem? hq)
          have hcc := part_cells hG.out HT.out HQN.out hq
          obtain ⟨hc0, hc1⟩ := hcc
          have hbd := hh_bd (qs := qs.take k) (fun p hp => HQS.out p (List.mem_of_mem_take hp))
          rw [List.length_take, HQN.out, Nat.min_eq_left hkN] at hbd
          have h7 : wr.cell? ⟨F, 7, none⟩ = some (.int .i64 (sumOf (qs.take k))) := by rw [cell_of_row wr F 7 _ _ (0, 0) hF.out]; rfl
          have hfz : wr.frozen? ⟨F, 7, none⟩ = false := frozen_of_row wr F 7 _ _ hF.out
          have hFs : F < wr.heap.size := (Array.getElem?_eq_some_iff.1 hF.out).1
          have e1 := Lib.hid (show hhOf (qs.take (k + 1)) = max (hhOf (qs.take k)) q.h from foldl_take_succ _ _ hq)
          have e2 := Lib.hid (show vvOf (qs.take (k + 1)) = max (vvOf (qs.take k)) q.v from foldl_take_succ _ _ hq)
          have e3 := Lib.hid (show sumOf (qs.take (k + 1)) = sumOf (qs.take k) + q.h * q.v from foldl_take_succ _ _ hq)
          generalize hhOf (qs.take k) = a at *
          generalize vvOf (qs.take k) = b at *
          generalize sumOf (qs.take k) = c at *
          obtain ⟨q1, q2, q3, q4⟩ := hqb
          obtain ⟨b1, b2, b3, b4, b5, b6⟩ := hbd
          have m1 : 0 ≤ q.h * q.v := Int.mul_nonneg (by omega) (by omega)
          have m2 : q.h * q.v ≤ 4 * 4 := Int.mul_le_mul q2 q4 (by omega) (by omega)
          have HQ := Lib.hid hq; clear hq
          go_wp2_with fail
          go_quiet (fail)
          obtain ⟨a2, ha2⟩ : ∃ a2, a2 = if a < q.h then q.h else a := ⟨_, rfl⟩
          obtain ⟨b2', hb2⟩ : ∃ b2', b2' = if b < q.v then q.v else b := ⟨_, rfl⟩
          rw [← ha2, ← hb2]
          have EA := Lib.hid (show a2 = max a q.h from by rw [ha2]; split <;> omega)
          have EB := Lib.hid (show b2' = max b q.v from by rw [hb2]; split <;> omega)
          clear ha2 hb2
          obtain ⟨w5, hw5⟩ : ∃ w5, w5 = (wr.alloc (.cells #[.int .i64 q.h, .int .i64 q.v] 154)).drewN nq := ⟨_, rfl⟩
          have hB6 : Below wr.heap.size wr w5 := by rw [hw5]; exact below_drewN (below_new _) nq
          have hp0 : w5.cell? ⟨wr.heap.size, 0, none⟩ = some (.int .i64 q.h) := by rw [hw5, World.cell?_drewN]; exact new_cell (Below.refl _ _) 0 rfl
          have hp1 : w5.cell? ⟨wr.heap.size, 1, none⟩ = some (.int .i64 q.v) := by rw [hw5, World.cell?_drewN]; exact new_cell (Below.refl _ _) 1 rfl
          have h75 : w5.cell? ⟨F, 7, none⟩ = some (.int .i64 c) := old_cell hB6 h7
          have hf5 : w5.frozen? ⟨F, 7, none⟩ = false := by rw [← hfz]; exact hB6.frozen (p := ⟨F, 7, none⟩) hFs
          have hF5 := Lib.hid ((hB6.block F hFs).trans hF.out)
          have hG5 := Lib.hid ((hB6.block g (by omega)).trans hG.out)
          have hB5 := Lib.hid (hB.out.trans (hB6.mono hB.out.size))
          rw [← hw5]
          clear h7 hfz hc0 hc1 hF hG hB hB6 hw5
          go_wp2_with fail
          go_region
          all_goals go_wp2_with fail
          all_goals
            go_roundw
            case rel =>
              refine ⟨k + 1, by omega, by go_num, congrArg (Value.int .i64) (by rw [e1.out, EA.out]), congrArg (Value.int .i64) (by rw [e2.out, EB.out]), ?_, ?_, ?_⟩
              · rw [e3.out]
                exact heap_setCell_same w5 F 7 _ _ _ hF5.out
              · exact (Below.heap_setCell w5 ⟨F, 7, none⟩ _ g (by simp; omega)).trans hG5.out
              · exact (hB5.out.setCell (p := ⟨F, 7, none⟩) hwF _).drew
            case measure => simp [intOf]; omega
        · obtain rfl : N = k := by omega
          have hT : qs.take N = qs := List.take_of_length_le (by rw [HQN.out]; exact Nat.le_refl _)
          rw [hT] at hF ⊢
          have hbd := hh_bd HQS.out
          rw [HQN.out] at hbd
          have hpos := hh_pos HQS.out (by rw [HQN.out]; exact hN1)
          clear hT
          have h7 : wr.cell? ⟨F, 7, none⟩ = some (.int .i64 (sumOf qs)) := by rw [cell_of_row wr F 7 _ _ (0, 0) hF.out]; rfl
          have hFs : F < wr.heap.size := (Array.getElem?_eq_some_iff.1 hF.out).1
          have HNE := Lib.hid (show newErr W H ps = if 1 < N ∧ 10 < sumOf qs then 12 else if 16384 < totalOf (gridsOf W H qs) then 11 else 0 from by
            unfold newErr; rw [if_neg (by rw [HR0.out]; decide), HFX.out, ← HN.out])
          have HGR := Lib.hid (show gridsOf W H qs = qs.map (fun p => ⟨upN W (8 * hhOf qs) * p.h, upN H (8 * vvOf qs) * p.v, upN (upN (W * p.h) (hhOf qs)) 8, upN (upN (H * p.v) (vvOf qs)) 8⟩) from rfl)
          have HRF := Lib.hid (show ∀ w', (∃ pv gv, w'.heap[F]? = some (.cells #[pv, gv, .int .i64 (upN W (8 * hhOf qs)), .int .i64 (upN H (8 * vvOf qs)), .int .i64 (8 * hhOf qs), .int .i64 (8 * vvOf qs), .int .i64 (totalOf (gridsOf W H qs)), .int .i64 (sumOf qs)] 158 (0, 0)) ∧
            RdL w' 2 pv (qs.map partRow) ∧ RdL w' 4 gv ((gridsOf W H qs).map gridRow)) → RdFrame w' F W H qs from fun w' h => ⟨h⟩)
          generalize hhOf qs = a at *
          generalize vvOf qs = b at *
          generalize sumOf qs = s at *
          by_cases h12 : 1 < N ∧ 10 < s
          · have HF12 := Lib.hid (show newErr W H ps = 12 from by rw [HNE.out, if_pos h12])
            obtain ⟨hx1, hx2⟩ := h12
            have hx1' : (1 : Int) < (N : Int) := by omega
            go_wp2_with fail
            go_ret2
            exact ⟨hB.out, .inl ⟨by rw [HF12.out]; decide, by rw [HF12.out]; rfl⟩⟩
          · have HNE2 := Lib.hid (show newErr W H ps = if 16384 < totalOf (gridsOf W H qs) then 11 else 0 from by rw [HNE.out, if_neg h12])
            have h4 : wr.cell? ⟨F, 4, none⟩ = some (.int .i64 0) := by rw [cell_of_row wr F 4 _ _ (0, 0) hF.out]; rfl
            have h5 : wr.cell? ⟨F, 5, none⟩ = some (.int .i64 0) := by rw [cell_of_row wr F 5 _ _ (0, 0) hF.out]; rfl
            have hf4 : wr.frozen? ⟨F, 4, none⟩ = false := frozen_of_row wr F 4 _ _ hF.out
            have hf5 : wr.frozen? ⟨F, 5, none⟩ = false := frozen_of_row wr F 5 _ _ hF.out
            obtain ⟨a0, a4, b0, b4, _, _⟩ := hbd
            obtain ⟨a1, b1⟩ := hpos
            have hF6 := heap_setCell_same (wr.setCell ⟨F, 4, none⟩ (.int .i64 (8 * a))) F 5 _ _ (.int .i64 (8 * b)) (heap_setCell_same wr F 4 _ _ (.int .i64 (8 * a)) hF.out)
            have hG6 : ((wr.setCell ⟨F, 4, none⟩ (.int .i64 (8 * a))).setCell ⟨F, 5, none⟩ (.int .i64 (8 * b))).heap[g]? = some (.cells cur 154 (0, 0)) := ((Below.heap_setCell _ ⟨F, 5, none⟩ _ g (by simp; omega)).trans (Below.heap_setCell wr ⟨F, 4, none⟩ _ g (by simp; omega))).trans hG.out
            have hB6 := (hB.out.setCell (p := ⟨F, 4, none⟩) hwF (.int .i64 (8 * a))).setCell (p := ⟨F, 5, none⟩) hwF (.int .i64 (8 * b))
            have HF6 := Lib.hid hF6; have HG6 := Lib.hid hG6; have HB6 := Lib.hid hB6
            clear hF6 hG6 hB6
            have hd3 : (1 : Int) < (N : Int) := by omega
            have hd2 : s ≤ 10 := by omega
            go_wp2_with fail
            clear h4 h5 hf4 hf5 h7 hFs h12
            generalize (wr.setCell ⟨F, 4, none⟩ (.int .i64 (8 * a))).setCell ⟨F, 5, none⟩ (.int .i64 (8 * b)) = w6 at *
            have hFs : F < w6.heap.size := (Array.getElem?_eq_some_iff.1 HF6.out).1
            have h4 : w6.cell? ⟨F, 4, none⟩ = some (.int .i64 (8 * a)) := by rw [cell_of_row w6 F 4 _ _ (0, 0) HF6.out]; rfl
            have h5 : w6.cell? ⟨F, 5, none⟩ = some (.int .i64 (8 * b)) := by rw [cell_of_row w6 F 5 _ _ (0, 0) HF6.out]; rfl
            have h2 : w6.cell? ⟨F, 2, none⟩ = some (.int .i64 0) := by rw [cell_of_row w6 F 2 _ _ (0, 0) HF6.out]; rfl
            have h3 : w6.cell? ⟨F, 3, none⟩ = some (.int .i64 0) := by rw [cell_of_row w6 F 3 _ _ (0, 0) HF6.out]; rfl
            have hf2 : w6.frozen? ⟨F, 2, none⟩ = false := frozen_of_row w6 F 2 _ _ HF6.out
            have hf3 : w6.frozen? ⟨F, 3, none⟩ = false := frozen_of_row w6 F 3 _ _ HF6.out
            go_region_held3 (fun wx => wx.cell? ⟨F, 4, none⟩ = some (.int .i64 (8 * a)) ∧ wx.cell? ⟨F, 5, none⟩ = some (.int .i64 (8 * b))) (first | exact ⟨h4, h5⟩ | (refine ⟨?_, ?_⟩ <;> go_simp)) (first | (go_at_call 139; refine (up_any _ _ _ (by omega) (by omega) (by omega) (by omega)).mono ?_; rintro e w' ⟨rfl, rfl⟩))
            have h0 : w6.cell? ⟨F, 0, none⟩ = some (.slice (some ⟨g, 0, none⟩) N cap3) := by rw [cell_of_row w6 F 0 _ _ (0, 0) HF6.out]; rfl
            go_wp2_with fail
            have hF7 := Lib.hid (show ((w6.setCell ⟨F, 2, none⟩ (.int .i64 (upN W (8 * a)))).setCell ⟨F, 3, none⟩ (.int .i64 (upN H (8 * b)))).drew.heap[F]? = some (.cells #[.slice (some ⟨g, 0, none⟩) N cap3, .slice none 0 0, .int .i64 (upN W (8 * a)), .int .i64 (upN H (8 * b)), .int .i64 (8 * a), .int .i64 (8 * b), .int .i64 0, .int .i64 s] 158 (0, 0)) from
              heap_setCell_same (w6.setCell ⟨F, 2, none⟩ (.int .i64 (upN W (8 * a)))) F 3 _ _ (.int .i64 (upN H (8 * b))) (heap_setCell_same w6 F 2 _ _ (.int .i64 (upN W (8 * a))) HF6.out))
            have hG7 := Lib.hid (show ((w6.setCell ⟨F, 2, none⟩ (.int .i64 (upN W (8 * a)))).setCell ⟨F, 3, none⟩ (.int .i64 (upN H (8 * b)))).drew.heap[g]? = some (.cells cur 154 (0, 0)) from
              ((Below.heap_setCell _ ⟨F, 3, none⟩ _ g (by simp; omega)).trans (Below.heap_setCell w6 ⟨F, 2, none⟩ _ g (by simp; omega))).trans HG6.out)
            have hB7 := Lib.hid (show Below w.heap.size w (((w6.setCell ⟨F, 2, none⟩ (.int .i64 (upN W (8 * a)))).setCell ⟨F, 3, none⟩ (.int .i64 (upN H (8 * b)))).drew) from
              ((HB6.out.setCell (p := ⟨F, 2, none⟩) hwF _).setCell (p := ⟨F, 3, none⟩) hwF _).drew)
            generalize ((w6.setCell ⟨F, 2, none⟩ (.int .i64 (upN W (8 * a)))).setCell ⟨F, 3, none⟩ (.int .i64 (upN H (8 * b)))).drew = w7 at *
            clear h0 h2 h3 h4 h5 hf2 hf3 hFs
            have bA := upN_bd W (8 * a) (by omega) (by omega) (by omega)
            have bD := upN_bd H (8 * b) (by omega) (by omega) (by omega)
            generalize upN W (8 * a) = A' at *
            generalize upN H (8 * b) = D' at *
            have hGl : (gridsOf W H qs).length = N := by rw [HGR.out, List.length_map]; exact HQN.out
            have HGL := Lib.hid hGl; clear hGl
            generalize gridsOf W H qs = gs at *
            go_loopw [15, 16, 110] (fun _ _ i wr => ∃ k : Nat, k ≤ N ∧ i = .int .i64 k ∧ Hid (∃ gv, wr.heap[F]? = some (.cells #[.slice (some ⟨g, 0, none⟩) N cap3, gv, .int .i64 A', .int .i64 D', .int .i64 (8 * a), .int .i64 (8 * b), .int .i64 (totalOf (gs.take k)), .int .i64 s] 158 (0, 0)) ∧
                wr.ownsRow (F + 1) 116 4 gv k ((gs.take k).map gridRow).flatten) ∧
              Hid (wr.heap[g]? = some (.cells cur 154 (0, 0))) ∧ Hid (Below w.heap.size w wr)) (fun _ _ i _ => N - (intOf i).toNat)
            case atStart => exact ⟨0, by omega, rfl, ⟨_, hF7.out, World.ownsRow_nil _ _ _ _⟩, hG7.out, hB7.out⟩
            case round =>
              obtain ⟨k, hkN, rfl, hFO, hG, hB⟩ := hrel
              clear hF7 hG7 hB7 HF6 HG6 HB6 HF4 HG4 HB4
              by_cases hlt : k < N
              · obtain ⟨q, hq⟩ : ∃ q, qs[k]? = some q := ⟨_, List.getElem?_eq_getElem (by rw [HQN.out]; exact hlt)⟩
                obtain ⟨q1, q2, q3, q4⟩ := HQS.out q (List.mem_of_getElem? hq)
                have hcc := part_cells hG.out HT.out HQN.out hq
                obtain ⟨hc0, hc1⟩ := hcc
                obtain ⟨gv, hF, hO⟩ := hFO.out
                have hgk : gs[k]? = some ⟨A' * q.h, D' * q.v, upN (upN (W * q.h) a) 8, upN (upN (H * q.v) b) 8⟩ := by rw [HGR.out, List.getElem?_map, hq]; rfl
                have hFs : F < wr.heap.size := (Array.getElem?_eq_some_iff.1 hF).1
                have eT := Lib.hid (show totalOf (gs.take (k + 1)) = totalOf (gs.take k) + (A' * q.h) * (D' * q.v) from foldl_take_succ _ _ hgk)
                have eG := Lib.hid (show ((gs.take (k + 1)).map gridRow).flatten = ((gs.take k).map gridRow).flatten ++ [.int .i64 (A' * q.h), .int .i64 (D' * q.v), .int .i64 (upN (upN (W * q.h) a) 8), .int .i64 (upN (upN (H * q.v) b) 8)] from by
                  rw [List.take_add_one, hgk]; simp [gridRow])
                have m1 : 0 ≤ A' * q.h := Int.mul_nonneg (by omega) (by omega)
                have m2 : A' * q.h ≤ 17384 * 4 := Int.mul_le_mul (by omega) q2 (by omega) (by omega)
                have m3 : 0 ≤ D' * q.v := Int.mul_nonneg (by omega) (by omega)
                have m4 : D' * q.v ≤ 17384 * 4 := Int.mul_le_mul (by omega) q4 (by omega) (by omega)
                have m5 : 0 ≤ W * q.h := Int.mul_nonneg (by omega) (by omega)
                have m6 : W * q.h ≤ 16384 * 4 := Int.mul_le_mul hW2 q2 (by omega) (by omega)
                have m7 : 0 ≤ H * q.v := Int.mul_nonneg (by omega) (by omega)
                have m8 : H * q.v ≤ 16384 * 4 := Int.mul_le_mul hH2 q4 (by omega) (by omega)
                have u1 := upN_bd (W * q.h) a (by omega) (by omega) (by omega)
                have u2 := upN_bd (H * q.v) b (by omega) (by omega) (by omega)
                have hF2 : wr.cell? ⟨F, 2, none⟩ = some (.int .i64 A') := by rw [cell_of_row wr F 2 _ _ (0, 0) hF]; rfl
                have hF3 : wr.cell? ⟨F, 3, none⟩ = some (.int .i64 D') := by rw [cell_of_row wr F 3 _ _ (0, 0) hF]; rfl
                have hgs : g < wr.heap.size := by omega
                have HQ := Lib.hid hq; have HK := Lib.hid hgk
                clear hq hgk hFO
                have HF := Lib.hid hF; have HO := Lib.hid hO
                clear hF hO
                go_wp2_with fail
                obtain ⟨w8, hw8⟩ : ∃ w8, w8 = wr.alloc (.cells #[.int .i64 q.h, .int .i64 q.v] 154) := ⟨_, rfl⟩
                have hB8 : Below wr.heap.size wr w8 := by rw [hw8]; exact below_new _
                have hp0 : w8.cell? ⟨wr.heap.size, 0, none⟩ = some (.int .i64 q.h) := by rw [hw8]; exact new_cell (Below.refl _ _) 0 rfl
                have hp1 : w8.cell? ⟨wr.heap.size, 1, none⟩ = some (.int .i64 q.v) := by rw [hw8]; exact new_cell (Below.refl _ _) 1 rfl
                have hF82 := old_cell hB8 hF2
                have hF83 := old_cell hB8 hF3
                have hs8 : wr.heap.size < w8.heap.size := by rw [hw8]; simp
                have hFs8 : F < w8.heap.size := by omega
                have HF8 := Lib.hid ((hB8.block F hFs).trans HF.out)
                have HG8 := Lib.hid ((hB8.block g hgs).trans hG.out)
                have HB8 := Lib.hid (hB.out.trans (hB8.mono hB.out.size))
                have HB8r := Lib.hid hB8
                rw [← hw8]
                clear hc0 hc1 hF2 hF3 hw8 hB8 hF hG hB HF
                have HU1 := Lib.hid (fun w => up_any w (W * q.h) a (by omega) (by omega) (by omega) (by omega))
                have HU2 := Lib.hid (fun w => up_any w (upN (W * q.h) a) 8 (by omega) (by omega) (by omega) (by omega))
                have HU3 := Lib.hid (fun w => up_any w (H * q.v) b (by omega) (by omega) (by omega) (by omega))
                have HU4 := Lib.hid (fun w => up_any w (upN (H * q.v) b) 8 (by omega) (by omega) (by omega) (by omega))
                have hkl : (k : Int) + 1 ≤ 4 := by omega
                have hTb : 0 ≤ totalOf (gs.take k) ∧ totalOf (gs.take k) ≤ 4900000000 * k := total_bd HGR.out (by omega) (by omega) (by omega) (by omega) HQS.out k
                have m9 : 0 ≤ A' * q.h * (D' * q.v) := Int.mul_nonneg m1 m3
                have m10 : A' * q.h * (D' * q.v) ≤ 69536 * 69536 := Int.mul_le_mul (by omega) (by omega) m3 (by omega)
                go_cut [16] (fun s16 wx => s16 = .pointer (some ⟨w8.heap.size, 0, none⟩) ∧ wx.cell? ⟨w8.heap.size, 0, none⟩ = some (.int .i64 (A' * q.h)) ∧ wx.cell? ⟨w8.heap.size, 1, none⟩ = some (.int .i64 (D' * q.v)) ∧
                  wx.cell? ⟨w8.heap.size, 2, none⟩ = some (.int .i64 (upN (upN (W * q.h) a) 8)) ∧ wx.cell? ⟨w8.heap.size, 3, none⟩ = some (.int .i64 (upN (upN (H * q.v) b) 8)) ∧ w8.heap.size < wx.heap.size ∧ Hid (Below w8.heap.size w8 wx))
                case first =>
                  have v1 : IntKind.i64.wrap (W * q.h) = W * q.h := IntWalk.i64_in _ (by omega)
                  have v2 : IntKind.i64.wrap (H * q.v) = H * q.v := IntWalk.i64_in _ (by omega)
                  have v3 : IntKind.i64.wrap (A' * q.h) = A' * q.h := IntWalk.i64_in _ (by omega)
                  have v4 : IntKind.i64.wrap (D' * q.v) = D' * q.v := IntWalk.i64_in _ (by omega)
                  go_region_held3 (fun wx => wx.cell? ⟨F, 2, none⟩ = some (.int .i64 A') ∧ wx.cell? ⟨F, 3, none⟩ = some (.int .i64 D') ∧ wx.cell? ⟨wr.heap.size, 0, none⟩ = some (.int .i64 q.h) ∧ wx.cell? ⟨wr.heap.size, 1, none⟩ = some (.int .i64 q.v)) (first | exact ⟨hF82, hF83, hp0, hp1⟩ | (refine ⟨?_, ?_, ?_, ?_⟩ <;> go_simp)) (first | (go_at_call 139; ((with_reducible refine (HU1.out _).mono ?_); rintro e w' ⟨rfl, rfl⟩)) | (go_at_call 139; ((with_reducible refine (HU2.out _).mono ?_); rintro e w' ⟨rfl, rfl⟩)) | (go_at_call 139; ((with_reducible refine (HU3.out _).mono ?_); rintro e w' ⟨rfl, rfl⟩)) | (go_at_call 139; ((with_reducible refine (HU4.out _).mono ?_); rintro e w' ⟨rfl, rfl⟩)))
                  all_goals (go_wp2_with fail; go_meet; exact ⟨rfl, new_cell (Below.refl _ _) 0 rfl, new_cell (Below.refl _ _) 1 rfl, new_cell (Below.refl _ _) 2 rfl, new_cell (Below.refl _ _) 3 rfl, by simp, by first | exact (below_new _).drew | exact below_new _⟩)
                case rest =>
                  obtain ⟨rfl, hg0, hg1, hg2, hg3, hszc, hBc⟩ := hcut
                  have hFc := Lib.hid ((hBc.out.block F hFs8).trans HF8.out)
                  have hGc := Lib.hid ((hBc.out.block g (by omega)).trans HG8.out)
                  have hBcw := Lib.hid (HB8.out.trans (hBc.out.mono HB8.out.size))
                  have hBcr : Below wr.heap.size wr wc := HB8r.out.trans (hBc.out.mono HB8r.out.size)
                  have hOc := Lib.hid (show wc.ownsRow (F + 1) 116 4 gv k ((gs.take k).map gridRow).flatten from ownsRow_below HO.out hBcr)
                  have h1c : wc.cell? ⟨F, 1, none⟩ = some gv := by rw [cell_of_row wc F 1 _ _ (0, 0) hFc.out]; rfl
                  have h1f : wc.frozen? ⟨F, 1, none⟩ = false := frozen_of_row wc F 1 _ _ hFc.out
                  have hFcs : F < wc.heap.size := (Array.getElem?_eq_some_iff.1 hFc.out).1
                  have hneF : some F ≠ gv.ownBlock := ownsRow_ne HO.out (by omega)
                  have hneg : some g ≠ gv.ownBlock := ownsRow_ne HO.out (by omega)
                  have hne8 : some w8.heap.size ≠ gv.ownBlock := ownsRow_ne' HO.out (by have := HB8r.out.size; omega)
                  clear hF82 hF83 hp0 hp1 HF8 HG8 HB8 HB8r HO HU1 HU2 HU3 HU4 hBc hBcr
                  have HOW := Lib.hid (show ∀ wy, Below wc.heap.size wc wy → wy.ownsRow (F + 1) 116 4 gv k ((gs.take k).map gridRow).flatten from fun wy h => ownsRow_below hOc.out h)
                  obtain ⟨i0, hi, hz0, hz1, hz2⟩ := info_parts infoz_Grid
                  have hk63 : k + 1 ≤ maxLen := by unfold maxLen; omega
                  have hkby : (k + 1) * 32 ≤ 140737488355328 := by omega
                  have HN1 := Lib.hid (show ∀ u, u ∈ [Value.int .i64 (A' * q.h), .int .i64 (D' * q.v), .int .i64 (upN (upN (W * q.h) a) 8), .int .i64 (upN (upN (H * q.v) b) 8)] → u.oneCell' = true from fun u hu => by
                    simp only [List.mem_cons, List.not_mem_nil, or_false] at hu
                    rcases hu with rfl | rfl | rfl | rfl <;> rfl)
                  have HSW := Lib.hid (show w.heap.size ≤ wc.heap.size from hBcw.out.size)
                  have HOO := Lib.hid (show ∀ j, gv.ownBlock = some j → w.heap.size ≤ j from fun j hj => by have := ownsRow_own hOc.out hj; omega)
                  have HBS := Lib.hid (show ∀ o, F + 1 ≤ (wc.alloc o).heap.size from fun o => by rw [World.size_alloc]; omega)
                  have HNF := Lib.hid hneF; have HNG := Lib.hid hneg; have HN8 := Lib.hid hne8
                  clear hneF hneg hne8 hOc
                  go_wp2_with fail
                  go_cut [16] (fun s16 wx => s16 = .pointer (some ⟨w8.heap.size, 0, none⟩) ∧ Hid (∃ gv', wx.heap[F]? = some (.cells #[.slice (some ⟨g, 0, none⟩) N cap3, gv', .int .i64 A', .int .i64 D', .int .i64 (8 * a), .int .i64 (8 * b), .int .i64 (totalOf (gs.take k)), .int .i64 s] 158 (0, 0)) ∧
                      wx.ownsRow (F + 1) 116 4 gv' (k + 1) ((gs.take (k + 1)).map gridRow).flatten) ∧ Hid (wx.heap[g]? = some (.cells cur 154 (0, 0))) ∧ Hid (Below w.heap.size w wx) ∧
                      wx.cell? ⟨w8.heap.size, 0, none⟩ = some (.int .i64 (A' * q.h)) ∧ wx.cell? ⟨w8.heap.size, 1, none⟩ = some (.int .i64 (D' * q.v)))
                  case first =>
                    go_region_law ((refine step_append_lies _ rfl _ _ 156 rfl (F + 1) 116 i0 _ 4 32 Try.underlying156 hi hz0 hz1 hz2 rfl (by decide) gv k _ rfl (HOW.out _ ?_) ⟨wc.heap.size, 0, none⟩ 1 1 [.int .i64 (A' * q.h), .int .i64 (D' * q.v), .int .i64 (upN (upN (W * q.h) a) 8), .int .i64 (upN (upN (H * q.v) b) 8)] rfl rfl (World.news_of_block (heap_alloc_new wc _)) HN1.out (by decide) hk63 hkby (HBS.out _) _ rfl ?_; (focus (first | exact below_new _ | exact (below_new _).drew)); intro g2 cap2 w1 hown1 hgrow1 hat1 hlt1; (have hF1 := Lib.hid ((hgrow1.block F (by simp; omega) HNF.out).trans ((Below.heap_alloc wc _ F hFcs).trans hFc.out))); (have h1w := cell_of_row w1 F 1 _ _ (0, 0) hF1.out); (have hf1w := frozen_of_row w1 F 1 _ _ hF1.out)))
                    all_goals
                      go_wp2_with fail
                      go_meet
                      rw [eG.out]
                      refine ⟨rfl, ⟨_, heap_setCell_same w1 F 1 _ _ _ hF1.out, ownsRow_set hown1 (by omega) _⟩, ?_, ?_, ?_, ?_⟩
                      · exact (Below.heap_setCell w1 ⟨F, 1, none⟩ _ g (by simp; omega)).trans ((hgrow1.block g (by simp; omega) HNG.out).trans ((Below.heap_alloc wc _ g (by omega)).trans hGc.out))
                      · first
                          | exact ((((hBcw.out.alloc HSW.out _).grown hgrow1 (by simp; have := HSW.out; omega) HOO.out).setCell (p := ⟨F, 1, none⟩) hwF _))
                          | exact (((((hBcw.out.alloc HSW.out _).drew).grown hgrow1 (by simp; have := HSW.out; omega) HOO.out).setCell (p := ⟨F, 1, none⟩) hwF _))
                      · exact (World.cell?_of_block ((Below.heap_setCell w1 ⟨F, 1, none⟩ _ w8.heap.size (by simp; omega)).trans ((hgrow1.block w8.heap.size (by simp; omega) HN8.out).trans (Below.heap_alloc wc _ w8.heap.size hszc)))).trans hg0
                      · exact (World.cell?_of_block ((Below.heap_setCell w1 ⟨F, 1, none⟩ _ w8.heap.size (by simp; omega)).trans ((hgrow1.block w8.heap.size (by simp; omega) HN8.out).trans (Below.heap_alloc wc _ w8.heap.size hszc)))).trans hg1
                  case rest =>
                    clear hFc hGc hBcw h1c h1f hFcs HOW HBS HN1 HNF HNG HN8 HSW HOO hi hz0 hz1 hz2 hg0 hg1 hg2 hg3 hszc eG
                    obtain ⟨rfl, hFO, hGx, hBx, hx0, hx1⟩ := hcut
                    obtain ⟨gv', hFx, hOx⟩ := hFO.out
                    have h6 : wc.cell? ⟨F, 6, none⟩ = some (.int .i64 (totalOf (gs.take k))) := by rw [cell_of_row wc F 6 _ _ (0, 0) hFx]; rfl
                    have h6f : wc.frozen? ⟨F, 6, none⟩ = false := frozen_of_row wc F 6 _ _ hFx
                    obtain ⟨ht1, ht2⟩ := hTb
                    have hk4 : (k : Int) ≤ 4 := by omega
                    have HFx := Lib.hid hFx; have HOx := Lib.hid hOx
                    clear hFx hOx hFO hkby
                    generalize totalOf (gs.take k) = tk at *
                    go_wp2_with fail
                    go_region
                    all_goals go_wp2_with fail
                    all_goals
                      go_roundw
                      case rel =>
                        refine ⟨k + 1, by omega, by go_num, ?_, ?_, ?_⟩
                        · rw [eT.out]
                          exact ⟨_, heap_setCell_same wc F 6 _ _ _ HFx.out, ownsRow_set HOx.out (by omega) _⟩
                        · exact (Below.heap_setCell wc ⟨F, 6, none⟩ _ g (by simp; omega)).trans hGx.out
                        · exact (hBx.out.setCell (p := ⟨F, 6, none⟩) hwF _).drew
                      case measure => simp [intOf]; omega
              · obtain rfl : N = k := by omega
                have hT : gs.take N = gs := List.take_of_length_le (by rw [HGL.out]; exact Nat.le_refl _)
                rw [hT] at hFO
                obtain ⟨gv, hF, hO⟩ := hFO.out
                have h6 : wr.cell? ⟨F, 6, none⟩ = some (.int .i64 (totalOf gs)) := by rw [cell_of_row wr F 6 _ _ (0, 0) hF]; rfl
                have hFs : F < wr.heap.size := (Array.getElem?_eq_some_iff.1 hF).1
                have HF := Lib.hid hF; have HO := Lib.hid hO
                clear hT hFO hF hO
                by_cases h11 : 16384 < totalOf gs
                · have HF11 := Lib.hid (show newErr W H ps = 11 from by rw [HNE2.out, if_pos h11])
                  go_wp2_with fail
                  go_ret2
                  exact ⟨hB.out, .inl ⟨by rw [HF11.out]; decide, by rw [HF11.out]; rfl⟩⟩
                · have HF0 := Lib.hid (show newErr W H ps = 0 from by rw [HNE2.out, if_neg h11])
                  have hle : totalOf gs ≤ 16384 := by omega
                  clear h11
                  go_wp2_with fail
                  go_ret2
                  refine ⟨hB.out, .inr ⟨HF0.out, F, hwF, rfl, fun wk hwk => ?_⟩⟩
                  rw [HFX.out]
                  refine HRF.out _ ⟨_, _, (hwk F hwF (Array.getElem?_eq_some_iff.1 HF.out).1).trans HF.out, ?_, ?_⟩
                  · refine RdL.of_owns (base := 0) (e := 154) ?_ (by rw [List.length_map, HQN.out]; omega) (fun x hx => by obtain ⟨q, _, rfl⟩ := List.mem_map.1 hx; rfl) (fun x hx v hv => by
                      obtain ⟨q, _, rfl⟩ := List.mem_map.1 hx
                      simp only [partRow, List.mem_cons, List.not_mem_nil, or_false] at hv
                      rcases hv with rfl | rfl <;> rfl)
                    rw [List.length_map, HQN.out]
                    exact ⟨by rw [flatten_length (k := 2) (fun x hx => by obtain ⟨q, _, rfl⟩ := List.mem_map.1 hx; rfl), List.length_map, HQN.out], .inr ⟨g, cap3, cur, rfl, Nat.zero_le _, (hwk g HGB.out (Array.getElem?_eq_some_iff.1 hG.out).1).trans hG.out, hc3, HM3.out, HSZ.out, HT.out⟩⟩
                  · refine RdL.of_owns (base := F + 1) (e := 116) ?_ (by rw [List.length_map, HGL.out]; omega) (fun x hx => by obtain ⟨q, _, rfl⟩ := List.mem_map.1 hx; rfl) (fun x hx v hv => by
                      obtain ⟨q, _, rfl⟩ := List.mem_map.1 hx
                      simp only [gridRow, List.mem_cons, List.not_mem_nil, or_false] at hv
                      rcases hv with rfl | rfl | rfl | rfl <;> rfl)
                    rw [List.length_map, HGL.out]
                    exact ownsRow_keep HO.out (fun b hb hlt => hwk b (by omega) hlt)
  · have hb0 : (rightErr W H ps != 0) = true := by simp [h0]
    have HNE := Lib.hid (show newErr W H ps = rightErr W H ps from by unfold newErr; rw [if_pos h0])
    obtain ⟨⟨p, cap, rfl, hcap, hcm, hx⟩, hk, ho⟩ := hR
    rw [List.length_map] at hcap hcm HRT ⊢
    have HR0 := Lib.hid h0
    clear hx hk ho h0 hcap hcm
    go_enter Try.func101, Try.ntmps101
    go_wp2_with fail
    refine HRT.out.mono ?_
    rintro e w2 ⟨rfl, hB2⟩
    go_wp2_with fail
    go_ret2
    exact ⟨hB2, .inl ⟨by rw [HNE.out]; exact HR0.out, by rw [HNE.out]; rfl⟩⟩
end Aq
end Go.Proofs.Ytaacpoadfdmfnaa
