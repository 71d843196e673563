/-
  What image.Frame answers.
-/
import Derived.Test.YtaacpoadfdmfnaaPlane
import Derived.Deep.AppendLies
namespace Go.Proofs.Ytaacpoadfdmfnaa
open Go Go.RowKit Go.Shelf
namespace Aq
def partsOf (cs : List Comp) : List Part := cs.map fun c => ⟨c.h, c.v⟩
/-- What a call that hands out a frame answers. -/
def FrP (w : World) (W H : Int) (ps : List Part) (e : Ending) (w' : World) : Prop :=
  Below w.heap.size w w' ∧
      ((newErr W H ps ≠ 0 ∧ e = .returned (.tuple #[.pointer none, .int .i64 (newErr W H ps)])) ∨
       (newErr W H ps = 0 ∧ ∃ F, w.heap.size ≤ F ∧ e = .returned (.tuple #[.pointer (some ⟨F, 0, none⟩), .int .i64 0]) ∧ KeepsFrame w.heap.size w' F W H (fixP ps)))
set_option maxRecDepth 100000 in
set_option maxHeartbeats 2000000 in
theorem frame_any {w : World} {W H : Int} {cv qv tv : Value} {cs : List Comp} (hR : RdL w 7 cv (cs.map compRow)) (hlen : cs.length ≤ 1000) (hbv : ∀ c, c ∈ cs → ∃ p n cap, c.bv = .slice p n cap) :
    Calls Try.prog 48 #[.agg #[.int .i64 W, .int .i64 H, cv, qv, tv]] w (FrP w W H (partsOf cs)) := by
  obtain ⟨⟨p, cap, rfl, hcap, hcm, hx⟩, hk, ho⟩ := hR
  rw [List.length_map] at hcap hcm ⊢
  have hn : cs.length ≤ 1000 := hlen
  clear hcap hcm hk ho hlen
  obtain ⟨n, hN⟩ : ∃ n, n = cs.length := ⟨_, rfl⟩
  rw [← hN] at hn ⊢
  have HN := Lib.hid hN; clear hN
  have HX := Lib.hid hx; clear hx
  have HBV := Lib.hid hbv; clear hbv
  obtain ⟨w1, hw1⟩ : ∃ w1, w1 = w.alloc (.cells #[.int .i64 W, .int .i64 H, .slice p n cap, qv, tv] 26) := ⟨_, rfl⟩
  have hs1 : w1.heap.size = w.heap.size + 1 := by rw [hw1]; simp
  have hB1 : Below w.heap.size w w1 := by rw [hw1]; exact below_new _
  have hI0 : w1.cell? ⟨w.heap.size, 0, none⟩ = some (.int .i64 W) := by rw [hw1]; exact new_cell (Below.refl _ _) 0 rfl
  have hI1 : w1.cell? ⟨w.heap.size, 1, none⟩ = some (.int .i64 H) := by rw [hw1]; exact new_cell (Below.refl _ _) 1 rfl
  obtain ⟨i0, hi, hz0, hz1, hz2⟩ := info_parts infoz_Part
  go_enter Try.func48, Try.ntmps48
  go_wp2_with fail
  rw [← hw1]
  clear hw1
  go_loopw [4, 6, 10] (fun l _ i wr => ∃ k : Nat, k ≤ n ∧ i = .int .i64 k ∧ Hid (wr.ownsRow w1.heap.size 154 2 l k ((partsOf (cs.take k)).map partRow).flatten) ∧ Hid (Below w1.heap.size w1 wr)) (fun _ _ i wr => n - (intOf i).toNat)
  case atStart => exact ⟨0, by omega, rfl, World.ownsRow_nil _ _ _ _, Below.refl _ _⟩
  case round =>
    obtain ⟨k, hkn, rfl, hO, hB⟩ := hrel
    by_cases hlt : k < n
    · obtain ⟨c, hc⟩ : ∃ c, cs[k]? = some c := ⟨_, List.getElem?_eq_getElem (by rw [← HN.out]; exact hlt)⟩
      obtain ⟨b, o, rfl, hx⟩ := HX.out (fun h => by rw [List.map_eq_nil_iff] at h; rw [h] at hc; simp at hc)
      have hBr : Below w.heap.size w wr := hB1.trans (hB.out.mono hB1.size)
      have hr : wr.rangeAt b (o + k * 7) (compRow c) := rangeAt_below hBr (hx k (compRow c) (by simp [hc]))
      have r0 : wr.cell? ⟨b, o + k * 7, none⟩ = some (.int .i64 c.id) := hr 0 _ rfl
      have r1 : wr.cell? ⟨b, o + k * 7 + 1, none⟩ = some (.int .i64 c.h) := hr 1 _ rfl
      have r2 : wr.cell? ⟨b, o + k * 7 + 2, none⟩ = some (.int .i64 c.v) := hr 2 _ rfl
      have r3 : wr.cell? ⟨b, o + k * 7 + 3, none⟩ = some (.int .i64 c.q) := hr 3 _ rfl
      have r4 : wr.cell? ⟨b, o + k * 7 + 4, none⟩ = some (.int .i64 c.cols) := hr 4 _ rfl
      have r5 : wr.cell? ⟨b, o + k * 7 + 5, none⟩ = some (.int .i64 c.rows) := hr 5 _ rfl
      have r6 : wr.cell? ⟨b, o + k * 7 + 6, none⟩ = some c.bv := hr 6 _ rfl
      obtain ⟨p6, n6, cap6, e6⟩ := HBV.out c (List.mem_of_getElem? hc)
      rw [e6] at r6
      have hb : b < wr.heap.size := lt_of_cell r0
      have EK := Lib.hid (show ((partsOf (cs.take (k + 1))).map partRow).flatten = ((partsOf (cs.take k)).map partRow).flatten ++ [.int .i64 c.h, .int .i64 c.v] from by
        rw [List.take_add_one, hc]; simp [partsOf, partRow])
      have HOB := Lib.hid (show ∀ wy, Below wr.heap.size wr wy → wy.ownsRow w1.heap.size 154 2 u4 k ((partsOf (cs.take k)).map partRow).flatten from fun wy h => ownsRow_below hO.out h)
      have HOW := Lib.hid (show ∀ j, u4.ownBlock = some j → w1.heap.size ≤ j from fun j hj => ownsRow_own hO.out hj)
      have hk63 : k + 1 ≤ maxLen := by unfold maxLen; omega
      have hkby : (k + 1) * 16 ≤ 140737488355328 := by omega
      have HN1 := Lib.hid (show ∀ u, u ∈ [Value.int .i64 c.h, .int .i64 c.v] → u.oneCell' = true from fun u hu => by
        simp only [List.mem_cons, List.not_mem_nil, or_false] at hu
        rcases hu with rfl | rfl <;> rfl)
      have hsz1 := hB.out.size
      clear hx hc hr hO HX e6 HBV
      go_wp2_with (refine wpList_append_lies _ rfl _ _ 153 rfl w1.heap.size 154 i0 _ 2 16 Try.underlying153 hi hz0 hz1 hz2 rfl (by decide) u4 k _ rfl (HOB.out _ ?_) ⟨wr.heap.size + 1, 0, none⟩ 1 1 [.int .i64 c.h, .int .i64 c.v] rfl rfl (World.news_of_block (heap_new (by simp))) HN1.out (by decide) hk63 hkby ?_ _ rfl ?_; (focus (exact (below_new _).alloc (by simp) _)); (focus (simp; omega)); intro g2 cap2 w5 hown5 hgrow5 hat5 hlt5)
      go_roundw
      case rel =>
        refine ⟨k + 1, by omega, by go_num, ?_, ?_⟩
        · rw [EK.out]; exact hown5
        · exact ((hB.out.alloc hsz1 _).alloc (by simp; omega) _).grown hgrow5 (by simp; omega) HOW.out
      case measure => simp [intOf]; omega
    · obtain rfl : k = n := by omega
      have hT : cs.take k = cs := List.take_of_length_le (by rw [← HN.out]; exact Nat.le_refl _)
      rw [hT] at hO
      have hl : ((partsOf cs).map partRow).length = k := by rw [List.length_map]; unfold partsOf; rw [List.length_map]; exact HN.out.symm
      have hRP : RdL wr 2 u4 ((partsOf cs).map partRow) := RdL.of_owns (base := w1.heap.size) (e := 154) (by rw [hl]; exact hO.out) (by omega)
        (fun x hx => by obtain ⟨q, _, rfl⟩ := List.mem_map.1 hx; rfl) (fun x hx v hv => by
          obtain ⟨q, _, rfl⟩ := List.mem_map.1 hx
          simp only [partRow, List.mem_cons, List.not_mem_nil, or_false] at hv
          rcases hv with rfl | rfl <;> rfl)
      have HNW := Lib.hid (new_any W H hRP)
      have h0 := old_cell hB.out hI0
      have h1 := old_cell hB.out hI1
      have hBr : Below w.heap.size w wr := hB1.trans (hB.out.mono hB1.size)
      clear hT hRP hl hO
      go_wp2_with fail
      refine HNW.out.mono ?_
      rintro e w2 ⟨hB2, ⟨hne, rfl⟩ | ⟨he0, F, hF, rfl, hRF⟩⟩
      · go_wp2_with fail
        go_ret2
        exact ⟨hBr.trans (hB2.mono hBr.size), .inl ⟨hne, rfl⟩⟩
      · go_wp2_with fail
        go_ret2
        exact ⟨hBr.trans (hB2.mono hBr.size), .inr ⟨he0, F, Nat.le_trans hBr.size hF, rfl, fun wk hwk => hRF wk (fun b hb hlt => hwk b (Nat.le_trans hBr.size hb) hlt)⟩⟩
end Aq
end Go.Proofs.Ytaacpoadfdmfnaa
