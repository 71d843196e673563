/-
  What plane.New and a sheet's Plane answer.
-/
import Derived.Test.YtaacpoadfdmfnaaPlanes
import Derived.Test.YtaacpoadfdmfnaaClone
import Derived.Test.YtaacpoadfdmfnaaTable
import Derived.Test.YtaacpoadfdmfnaaBlk
import Derived.Laws.MakeOwn
namespace Go.Proofs.Ytaacpoadfdmfnaa
open Go Go.RowKit Go.Shelf
namespace Aq
theorem madeCells_zero {z : Array Value} {m : Nat} {v : Value} (hz : z.size = m) (hm : 0 < m) (hv : ∀ x, x ∈ z → x = v) (n : Nat) : madeCells z (n * m) = (List.replicate n (List.replicate m v)).flatten.toArray := by
  have h1 : madeCells z (n * m) = (List.replicate (n * m) v).toArray := by
    rw [← Array.toList_inj]
    refine List.eq_replicate_iff.2 ⟨by simp [madeCells], fun x hx => ?_⟩
    unfold madeCells at hx
    rw [Array.toList_map, List.mem_map] at hx
    obtain ⟨i, _, rfl⟩ := hx
    have hi : i % z.size < z.size := Nat.mod_lt _ (by omega)
    rw [getElem!_pos z _ hi]
    exact hv _ (Array.getElem_mem hi)
  rw [h1]
  clear h1
  congr 1
  induction n with
  | zero => simp
  | succ n ih => rw [List.replicate_succ, List.flatten_cons, ← ih, Nat.succ_mul, Nat.add_comm, ← List.replicate_append_replicate]
theorem size_Plane : (Try.prog.info? 61).map (·.size) = some 3 := by kernel_rfl
/-- Rows of noughts. -/
def zeroRows (n : Nat) : List (List Int) := List.replicate n zero64
theorem zeroRows_cells (n : Nat) : ((zeroRows n).map blockRow).flatten = (List.replicate n (List.replicate 64 (Value.int .i16 0))).flatten := by
  unfold zeroRows blockRow ints zero64
  rw [List.map_replicate, List.map_replicate]
theorem infozB : (Try.prog.info? 57).map (fun i => (i.zero, i.size, i.bytes)) = some (some (.agg (List.replicate 64 (.int .i16 0)).toArray), 64, 128) := by kernel_rfl
theorem made_blocks (n : Nat) : madeCells (Value.agg (List.replicate 64 (Value.int .i16 0)).toArray).cells (n * 64) = ((zeroRows n).map blockRow).flatten.toArray := by
  rw [zeroRows_cells]
  exact madeCells_zero (v := .int .i16 0) (by simp [Value.cells]) (by decide) (fun x hx => by simpa [Value.cells] using hx) n
/-- The sheet at block F, whose blocks lie in block b. -/
structure RdSheet (w : World) (F b : Nat) (c r : Int) (bs : List (List Int)) : Prop where
  ne : F ≠ b
  head : ∃ n, n = bs.length ∧ w.heap[F]? = some (.cells #[.int .i64 c, .int .i64 r, .slice (some ⟨b, 0, none⟩) n n] 180 (0, 0))
  body : w.heap[b]? = some (.cells (bs.map blockRow).flatten.toArray 57 (0, 0))
theorem RdSheet.of_heap {w w' : World} {F b : Nat} {c r : Int} {bs : List (List Int)} (hw : w'.heap = w.heap) (h : RdSheet w F b c r bs) : RdSheet w' F b c r bs := ⟨h.ne, by rw [hw]; exact h.head, by rw [hw]; exact h.body⟩
def NewP (c r : Int) (w : World) (e : Ending) (w' : World) : Prop :=
  Below w.heap.size w w' ∧ ((sizedErr c r ≠ 0 ∧ e = .returned (.tuple #[.pointer none, .int .i64 (sizedErr c r)])) ∨
    (sizedErr c r = 0 ∧ ∃ F b, w.heap.size ≤ F ∧ w.heap.size ≤ b ∧ e = .returned (.tuple #[.pointer (some ⟨F, 0, none⟩), .int .i64 0]) ∧ RdSheet w' F b c r (zeroRows (c * r).toNat)))
set_option maxHeartbeats 1000000 in
theorem planeNew_any (w : World) (c r : Int) : Calls Try.prog 74 #[.int .i64 c, .int .i64 r] w (NewP c r w) := by
  have HS := Lib.hid (fun w => sized_any w c r)
  by_cases h : sizedErr c r = 0
  · obtain ⟨h1, h2, h3, h4, h5⟩ := sized_zero h
    have m1 : 0 ≤ c * r := Int.mul_nonneg (by omega) (by omega)
    have hb : (sizedErr c r != 0) = false := by simp [h]
    have hw : IntKind.i64.wrap (c * r) = c * r := IntWalk.i64_in _ (by omega)
    obtain ⟨i0, hi, hz0, hz1, hz2⟩ := info_parts infozB
    obtain ⟨n, hn⟩ : ∃ n : Nat, c * r = n := ⟨(c * r).toNat, by omega⟩
    have hmk : ∀ w, (Instr.makeSlice 59 (.int .i64 (c * r)) (.int .i64 (c * r))).run Try.prog w = .ok (.slice (some ⟨w.heap.size, 0, none⟩) n n) (w.alloc (.cells ((zeroRows n).map blockRow).flatten.toArray 57)) := fun w => by
      have := run_make (P := Try.prog) w 59 57 i0 _ Try.underlying59 hi hz0 .i64 .i64 (c * r) (c * r) m1 (Int.le_refl _) (by rw [hz2]; omega) (by omega)
      rw [this, hn, Int.toNat_natCast, hz1, made_blocks]
    have HN := Lib.hid hn
    have H0 := Lib.hid h
    have HL := Lib.hid (show (zeroRows n).length = n from List.length_replicate)
    generalize hZ : ((zeroRows n).map blockRow).flatten.toArray = Z at hmk
    have HZ := Lib.hid hZ
    clear h hn hi hz0 hz1 hz2 hZ
    go_enter Try.func74, Try.ntmps74
    go_wp2_with (go_at_call 127; refine (HS.out _).mono ?_; rintro e w3 ⟨rfl, rfl⟩)
    go_ret2
    have hnn : (c * r).toNat = n := by rw [HN.out, Int.toNat_natCast]
    refine ⟨(below_new _).trans ((below_new _).mono (by simp)), .inr ⟨H0.out, w3.heap.size + 1, w3.heap.size, by omega, Nat.le_refl _, rfl, ⟨by omega, ⟨n, by rw [hnn, HL.out], heap_new (by simp)⟩, ?_⟩⟩⟩
    rw [hnn, HZ.out]
    exact (Below.heap_alloc _ _ _ (by simp)).trans (heap_alloc_new _ _)
  · have hb : (sizedErr c r != 0) = true := by simp [h]
    have H0 := Lib.hid h
    clear h
    go_enter Try.func74, Try.ntmps74
    go_wp2_with (go_at_call 127; refine (HS.out _).mono ?_; rintro e w3 ⟨rfl, rfl⟩)
    go_ret2
    exact ⟨Below.refl _ _, .inl ⟨H0.out, rfl⟩⟩
theorem RdSheet.rd {w : World} {F b : Nat} {c r : Int} {bs : List (List Int)} (h : RdSheet w F b c r bs) (hn : bs.length ≤ 140737488355328) (hb : ∀ x, x ∈ bs → x.length = 64) : RdL w 64 (.slice (some ⟨b, 0, none⟩) bs.length bs.length) (bs.map blockRow) := by
  have hl : ((bs.map blockRow).flatten).length = bs.length * 64 := by
    rw [flatten_length (k := 64) (fun x hx => by obtain ⟨y, hy, rfl⟩ := List.mem_map.1 hx; rw [blockRow, ints_length]; exact hb y hy), List.length_map]
  refine RdL.of_owns (base := 0) (e := 57) ⟨?_, .inr ⟨b, bs.length, _, by rw [List.length_map], Nat.zero_le _, h.body, by rw [List.length_map]; exact Nat.le_refl _, by have := maxLen_big; omega, ?_, ?_⟩⟩ (by rw [List.length_map]; exact hn) ?_ ?_
  · rw [List.length_map]; exact hl
  · exact hl
  · rw [List.length_map]
    show (bs.map blockRow).flatten.take (bs.length * 64) = _
    exact List.take_of_length_le (by omega)
  · intro x hx
    obtain ⟨y, hy, rfl⟩ := List.mem_map.1 hx
    rw [blockRow, ints_length]; exact hb y hy
  · intro x hx u hu
    obtain ⟨y, hy, rfl⟩ := List.mem_map.1 hx
    exact ints_one _ _ u hu
set_option maxHeartbeats 1000000 in
theorem sheetPlane_any {w : World} {F b : Nat} {c r : Int} {bs : List (List Int)} (h : RdSheet w F b c r bs) (hn : bs.length ≤ 100000) (hb : ∀ x, x ∈ bs → x.length = 64) :
    Calls Try.prog 75 #[.pointer (some ⟨F, 0, none⟩)] w (fun e w' => ∃ v, e = .returned (.agg #[.int .i64 c, .int .i64 r, v]) ∧ w'.ownsRow w.heap.size 57 64 v (bs.map blockRow).length (bs.map blockRow).flatten ∧ Below w.heap.size w w') := by
  obtain ⟨n, hne, hh⟩ := h.head
  have hR := h.rd (by omega) hb
  rw [← hne] at hR hn
  have c0 : w.cell? ⟨F, 0, none⟩ = some (.int .i64 c) := by rw [cell_of_row w F 0 _ _ (0, 0) hh]; rfl
  have c1 : w.cell? ⟨F, 1, none⟩ = some (.int .i64 r) := by rw [cell_of_row w F 1 _ _ (0, 0) hh]; rfl
  have c2 : w.cell? ⟨F, 2, none⟩ = some (.slice (some ⟨b, 0, none⟩) n n) := by rw [cell_of_row w F 2 _ _ (0, 0) hh]; rfl
  have hF : F < w.heap.size := lt_of_cell c0
  have HR := Lib.hid (show ∀ w', Below w.heap.size w w' → RdL w' 64 (.slice (some ⟨b, 0, none⟩) n n) (bs.map blockRow) from fun w' hB => hR.below hB)
  have HL := Lib.hid (show (bs.map blockRow).length * 128 ≤ 140737488355328 from by rw [List.length_map, ← hne]; omega)
  clear hne hh hR h hb
  go_enter Try.func75, Try.ntmps75
  go_wp2_with fail
  refine (clone_Block (HR.out _ ?hb1) HL.out).mono ?_
  case hb1 => exact (below_new _).trans ((below_new _).mono (by simp))
  rintro e w2 ⟨v, rfl, hO, hB2⟩
  have hb1 : Below w.heap.size w w2 := ((below_new _).trans ((below_new _).mono (by simp))).trans (hB2.mono (by simp; omega))
  have HO := Lib.hid (show w2.ownsRow (w.heap.size + 2) 57 64 v (bs.map blockRow).length (bs.map blockRow).flatten from ownsRow_base hO (by simp))
  have HB1 := Lib.hid hb1
  have B0 := blk_below (blk_old (heap_alloc_new w (.cells #[.int .i64 0, .int .i64 0, .slice none 0 0] 61)) (.cells #[.int .i64 c, .int .i64 r, .slice (some ⟨b, 0, none⟩) n n] 61)) hB2
  have B1 := blk_below (heap_new (w := w.alloc (.cells #[.int .i64 0, .int .i64 0, .slice none 0 0] 61)) (o := .cells #[.int .i64 c, .int .i64 r, .slice (some ⟨b, 0, none⟩) n n] 61) (n := w.heap.size + 1) (by simp)) hB2
  obtain ⟨s0, ⟨a0, a1, a2⟩, f0, f1, f2⟩ := blk3 B0
  obtain ⟨s1, ⟨b0, b1, b2⟩, g0, g1, g2⟩ := blk3 B1
  have HB0 := Lib.hid B0
  have HBB1 := Lib.hid B1
  obtain ⟨p, cap, rfl⟩ := ownsRow_slice hO
  clear c0 c1 c2 B0 B1 hb1 hO hB2 HR HL hF
  go_wp2_with fail
  have R0 := blk_set (blk_set (blk_set (blk_set_other HB0.out (p := ⟨w.heap.size + 1, 2, none⟩) (by simp) (.slice p bs.length cap)) 0 (.int .i64 c)) 1 (.int .i64 r)) 2 (.slice p bs.length cap)
  refine bodyPost_ret (ret_cell rfl _ _ w.heap.size 0 [.int .i64 c, .int .i64 r, .slice p bs.length cap] _ rfl (blk_range R0) Try.underlying61 rfl size_Plane) rfl ?_
  refine ⟨_, rfl, ?_, (((HB1.out.setCell (by simp) _).setCell (Nat.le_refl _) _).setCell (Nat.le_refl _) _).setCell (Nat.le_refl _) _⟩
  have := HO.out
  rw [List.length_map] at this
  rw [List.length_map]
  exact ownsRow_base (ownsRow_set (ownsRow_set (ownsRow_set (ownsRow_set this (by omega) _) (by omega) _) (by omega) _) (by omega) _) (by omega)
end Aq
end Go.Proofs.Ytaacpoadfdmfnaa
