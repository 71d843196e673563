/-
  What image.Table answers: the first table of a place.
-/
import Derived.Test.YtaacpoadfdmfnaaModel
import Derived.Test.YtaacpoadfdmfnaaFind
import Derived.Test.YtaacpoadfdmfnaaCalm
import Derived.Shelf.Abstract
namespace Go.Proofs.Ytaacpoadfdmfnaa
open Go Go.RowKit Go.Shelf
namespace Aq
set_option maxHeartbeats 400000 in
theorem table1_any (w : World) (b o : Nat) (x y : Int) (r : List Value) (h : w.cell? ⟨b, o, none⟩ = some (.int .i64 y)) :
    Calls Try.prog 69 #[.agg (.int .i64 x :: r).toArray, .pointer (some ⟨b, o, none⟩)] w (Ret (.bool (x == y)) w) := by
  have hb : b < w.heap.size := lt_of_cell h
  go_enter Try.func69, Try.ntmps69
  go_wp2
  go_ret
  exact ⟨rfl, below_new _⟩
def zero64 : List Int := List.replicate 64 0
/-- What Table returns. -/
def tabV : Option Quant → Value
  | some q => .tuple #[.agg (ints .u16 q.q).toArray, .bool true]
  | none => .tuple #[.agg (ints .u16 zero64).toArray, .bool false]
theorem size_u64 : (Try.prog.info? 35).map (·.size) = some 64 := by kernel_rfl
set_option maxRecDepth 100000 in
set_option maxHeartbeats 2000000 in
theorem table_any {w : World} {W H : Int} {cv qv tv : Value} {qs : List Quant} (n : Int) (hQ : RdL w 65 qv (qs.map quantRow)) :
    Calls Try.prog 24 #[.agg #[.int .i64 W, .int .i64 H, cv, qv, tv], .int .i64 n] w (Ret (tabV (qs.find? fun q => q.pl == n)) w) := by
  have hls := hQ.len
  have hos := hQ.one
  obtain ⟨w3, hw3⟩ : ∃ w3, w3 = ((w.alloc (.cells #[.int .i64 W, .int .i64 H, cv, qv, tv] 26)).alloc (.cells #[.int .i64 n] 3)).alloc (.cells (ints .u16 zero64).toArray 35) := ⟨_, rfl⟩
  have hB3 : Below w.heap.size w w3 := by rw [hw3]; exact (((Below.refl _ _).alloc (Nat.le_refl _) _).alloc (by simp) _).alloc (by simp; omega) _
  have hblk : w3.heap[w.heap.size + 2]? = some (.cells (ints .u16 zero64).toArray 35 (0, 0)) := by rw [hw3]; exact heap_new (by simp)
  have hB32 : Below (w.heap.size + 2) ((w.alloc (.cells #[.int .i64 W, .int .i64 H, cv, qv, tv] 26)).alloc (.cells #[.int .i64 n] 3)) w3 := by rw [hw3]; exact (Below.refl _ _).alloc (by simp) _
  have hc3 : w3.cell? ⟨w.heap.size, 3, none⟩ = some qv := by
    rw [hB32.cell (p := ⟨w.heap.size, 3, none⟩) (by simp)]
    exact new_cell (below_new _) 3 rfl
  have hcn : w3.cell? ⟨w.heap.size + 1, 0, none⟩ = some (.int .i64 n) := by
    rw [hB32.cell (p := ⟨w.heap.size + 1, 0, none⟩) (by simp)]
    exact new_cell_at (w := w.alloc (.cells #[.int .i64 W, .int .i64 H, cv, qv, tv] 26)) (cs := #[.int .i64 n]) (t := 3) (by simp) (Below.refl _ _) 0 rfl
  have hI := indexFunc_Quant (hQ.below hB3) 69 #[.pointer (some ⟨w.heap.size + 1, 0, none⟩)] (enters_of Try.func69 (by kernel_rfl) rfl) (fun i => ((qs.map (·.pl)).getD i 0 == n)) (fun i x hx w2 hw2 => by
    rw [List.getElem?_map] at hx
    obtain ⟨q, hd, rfl⟩ := Option.map_eq_some_iff.1 hx
    have e : (qs.map (·.pl)).getD i 0 = q.pl := by simp [List.getD_eq_getElem?_getD, hd]
    rw [e]
    exact table1_any w2 _ _ q.pl n _ (old_cell hw2 hcn))
  rw [List.length_map] at hI
  have HI := Lib.hid hI; clear hI
  have hs3 : w.heap.size + 2 < w3.heap.size := (Array.getElem?_eq_some_iff.1 hblk).1
  go_enter Try.func24, Try.ntmps24
  go_wp2_with fail
  refine calls_at (w := w3) (by rw [hw3]; rfl) ?_
  clear hw3
  refine HI.out.mono ?_
  rintro e w4 ⟨rfl, hB4⟩
  have hB : Below w.heap.size w w4 := hB3.trans (hB4.mono hB3.size)
  have hblk4 : w4.heap[w.heap.size + 2]? = some (.cells (ints .u16 zero64).toArray 35 (0, 0)) := by rw [hB4.block _ hs3]; exact hblk
  have hc4 : w4.cell? ⟨w.heap.size, 3, none⟩ = some qv := old_cell hB4 hc3
  have hQ4 := hQ.below hB
  clear hB4 hB3 hblk hB32 hc3 hcn HI hs3 hQ
  have HBLK := Lib.hid hblk4; clear hblk4
  rcases firstI_spec qs.length (fun i => (qs.map (·.pl)).getD i 0 == n) with ⟨hf, hall⟩ | ⟨k, hk, hf, hE, hmin⟩
  · have hfind : (qs.find? fun q => q.pl == n) = none := find_none (fun i hi x hx => by have := hall i hi; simpa [List.getD_eq_getElem?_getD, hx] using this)
    rw [hf]
    have HF := Lib.hid hfind
    clear hall hf hfind
    have H2 := Lib.hid (show (Try.prog.info? 35).map (·.size) = some (ints .u16 zero64).toArray.size from size_u64)
    have H4 := Lib.hid (show (ints IntKind.u16 zero64).toArray.all (·.oneCell') = true from by simp [ints, zero64]; rfl)
    go_wp2_with (refine wpList_store_blk rfl 35 _ _ rfl (w.heap.size + 1 + 1) 35 (ints .u16 zero64).toArray (ints .u16 zero64).toArray rfl rfl HBLK.out H2.out rfl H4.out ?_)
    refine bodyPost_ret (ret_cell_tmp rfl _ _ (w.heap.size + 1 + 1) 0 (ints .u16 zero64) _ rfl (rangeAt_setRow HBLK.out) Try.underlying35 rfl size_u64) rfl ?_
    exact ⟨by rw [HF.out]; rfl, below_setRow hB (by omega) _⟩
  · obtain ⟨q, hq⟩ : ∃ q, qs[k]? = some q := ⟨_, List.getElem?_eq_getElem hk⟩
    have hfind : (qs.find? fun q => q.pl == n) = some q := find_some hq (by simpa [List.getD_eq_getElem?_getD, hq] using hE) (fun i hi y hy => by have := hmin i hi; simpa [List.getD_eq_getElem?_getD, hy] using this)
    rw [hf]
    have HF := Lib.hid hfind
    clear hmin hf hfind hE
    obtain ⟨⟨p, cap, rfl, hcap, hcm, hx⟩, hl, ho⟩ := hQ4
    obtain ⟨b, o, rfl, hx1⟩ := hx (fun e => by rw [List.map_eq_nil_iff] at e; rw [e] at hk; simp at hk)
    have hr : w4.rangeAt b (o + k * 65 + 1) (ints .u16 q.q) := rangeAt_tail (hx1 k (quantRow q) (by simp [hq]))
    have hql : q.q.length = 64 := by
      have := hl (quantRow q) (List.mem_map.2 ⟨q, List.mem_of_getElem? hq, rfl⟩)
      simpa [quantRow] using this
    rw [List.length_map] at hcap hcm hc4
    have hk1 : (k : Int) < (qs.length : Int) := by omega
    have hm : qs.length ≤ 140737488355328 := hcm.2
    have hb4 : b < w4.heap.size := by
      exact lt_of_cell (hx1 k (quantRow q) (by simp [hq]) 0 _ rfl)
    have H1 := Lib.hid (show (Try.prog.info? 35).map (·.size) = some (ints .u16 q.q).length from by rw [ints_length, hql]; exact size_u64)
    have H2 := Lib.hid (show (Try.prog.info? 35).map (·.size) = some (ints .u16 q.q).toArray.size from by rw [List.size_toArray, ints_length, hql]; exact size_u64)
    have H3 := Lib.hid (show (ints IntKind.u16 zero64).toArray.size = (ints IntKind.u16 q.q).toArray.size from by rw [List.size_toArray, List.size_toArray, ints_length, ints_length, hql]; rfl)
    have H4 := Lib.hid (show (ints IntKind.u16 q.q).toArray.all (·.oneCell') = true from by simpa using ints_one .u16 q.q)
    have HR := Lib.hid hr
    clear hr hql hl ho hx hx1 hcap hcm hq hls hos
    go_wp2_with (first | (refine wpList_load_mid rfl 35 _ rfl b (o + k * 65 + 1) rfl _ _ HR.out Try.underlying35 rfl H1.out ?_) | (refine wpList_store_blk rfl 35 _ _ rfl (w.heap.size + 1 + 1) 35 (ints .u16 zero64).toArray (ints .u16 q.q).toArray rfl rfl HBLK.out H2.out H3.out H4.out ?_))
    refine bodyPost_ret (ret_cell_tmp rfl _ _ (w.heap.size + 1 + 1) 0 (ints .u16 q.q) _ rfl (rangeAt_setRow HBLK.out) Try.underlying35 rfl H1.out) rfl ?_
    exact ⟨by rw [HF.out]; rfl, below_setRow hB (by omega) _⟩
end Aq
end Go.Proofs.Ytaacpoadfdmfnaa
