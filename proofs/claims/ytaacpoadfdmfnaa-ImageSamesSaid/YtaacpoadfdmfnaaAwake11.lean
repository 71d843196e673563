/-
  The document's example of layer 11 holds.
-/
import Derived.Test.YtaacpoadfdmfnaaBlank
import Derived.Test.YtaacpoadfdmfnaaSize
namespace Go.Proofs.Ytaacpoadfdmfnaa
open Go Go.RowKit Go.Shelf
namespace Aq
def ones (k : Nat) : List Int := List.replicate k 1 ++ List.replicate (64 - k) 0
def onesRow (k : Nat) : Array Value := (quantRow ⟨0, ones k⟩).toArray
theorem onesRow_size {k : Nat} (h : k ≤ 64) : (onesRow k).size = 65 := by simp [onesRow, quantRow, ones]; omega
theorem ones_set {k : Nat} (h : k < 64) : (ones k).set k 1 = ones (k + 1) := by
  unfold ones
  rw [List.set_append_right _ _ (by simp), List.length_replicate, Nat.sub_self, show 64 - k = (64 - (k + 1)) + 1 from by omega, List.replicate_succ, List.set_cons_zero, List.replicate_succ', List.append_assoc]
  rfl
theorem onesRow_set {k : Nat} (h : k < 64) : (onesRow k).setIfInBounds (1 + k) (.int .u16 1) = onesRow (k + 1) := by
  unfold onesRow quantRow ints
  rw [← ones_set h, List.map_set, Nat.add_comm, List.setIfInBounds_toArray, List.set_cons_succ]
theorem onesRow_get {k : Nat} (h : k < 64) : (onesRow k)[1 + k]? = some (.int .u16 0) := by
  unfold onesRow quantRow ints ones
  rw [Nat.add_comm]
  have : (List.replicate (64 - k) (Value.int .u16 0))[0]? = some (.int .u16 0) := by rw [List.getElem?_replicate, if_pos (by omega)]
  simpa [List.getElem?_append_right] using this
theorem awake_img (bv : Value) : imgErr 9 8 [⟨1, 1, 1, 0, 2, 1, bv, zeroRows 2⟩] [⟨0, List.replicate 64 1⟩] [] = 0 := by kernel_rfl
theorem awake_gs : gsOf 9 8 [⟨1, 1, 1, 0, 0, 0, .slice none 0 0, []⟩] = [⟨2, 1, 2, 1⟩] := by kernel_rfl
theorem awake_few (bv : Value) : fewB 300 140000 [⟨1, 1, 1, 0, 2, 1, bv, zeroRows 2⟩] [⟨0, List.replicate 64 1⟩] [] = true := by kernel_rfl
theorem awake_size (bv : Value) : sizeV 0 (sizeOf [⟨1, 1, 1, 0, 2, 1, bv, zeroRows 2⟩] [⟨0, List.replicate 64 1⟩] []) = 468 := by kernel_rfl
theorem awake_cs {cs' : List Comp} (h : BlankOf (gsOf 9 8 [⟨1, 1, 1, 0, 0, 0, .slice none 0 0, []⟩]) [⟨1, 1, 1, 0, 0, 0, .slice none 0 0, []⟩] cs') : ∃ bv, cs' = [⟨1, 1, 1, 0, 2, 1, bv, zeroRows 2⟩] := by
  obtain ⟨hl, hp⟩ := h
  match cs', hl with
  | [c], _ =>
    obtain ⟨h1, h2, h3, h4, h5, h6, h7⟩ := hp 0 _ c rfl rfl
    rw [awake_gs] at h5 h6 h7
    obtain ⟨a, b, d, e, f, g, bv, bs⟩ := c
    simp only at h1 h2 h3 h4 h5 h6 h7
    subst h1 h2 h3 h4 h5 h6 h7
    exact ⟨bv, rfl⟩
section
variable {P : Program} {ops : Array Oper} {rest : List Oper} {o : Oper} {a : Act} {Q : Exit → Act → World → Prop}
theorem wpList_buildSlice_row {w : World} (hgd : o.guard = none) (ty : TypeId) (x : Operand) (ho : o.op = .buildSlice ty 1 #[(0, x)]) (c : Array Value) (e : TypeId) (hx : a.eval x = .agg c)
    (hr : (Instr.buildSlice ty 1 #[(0, .agg c)]).run P w = .ok (.slice (some ⟨w.heap.size, 0, none⟩) 1 1) (w.alloc (.cells c e)))
    (h : wpList P ops Q rest (a.put o.dst (.slice (some ⟨w.heap.size, 0, none⟩) 1 1)) (w.alloc (.cells c e))) : wpList P ops Q (o :: rest) a w :=
  wpList_plain hgd fun _ hK => by
    unfold Oper.wp execOp
    have hm : (#[(0, x)].map fun (y : Nat × Operand) => (y.1, a.eval y.2)) = #[(0, .agg c)] := by simp [hx]
    simp only [ho, Sem.run_bind, Sem.run_pure, Result.andThen_ok, hm, hr]
    exact hK _ _ h
end
theorem built_quant (w : World) : (Instr.buildSlice 23 1 #[(0, .agg (quantRow ⟨0, List.replicate 64 1⟩).toArray)]).run Try.prog w = .ok (.slice (some ⟨w.heap.size, 0, none⟩) 1 1) (w.alloc (.cells (quantRow ⟨0, List.replicate 64 1⟩).toArray 39)) := by kernel_rfl
theorem zq_size : (Try.prog.info? 39).map (·.size) = some Try.zeroCells39.size := by kernel_rfl
theorem zq_one : Try.zeroCells39.all (·.oneCell') = true := by kernel_rfl
theorem zq_row : Try.zeroCells39 = onesRow 0 := by kernel_rfl
theorem ones_all : onesRow 64 = (quantRow ⟨0, List.replicate 64 1⟩).toArray := by kernel_rfl
set_option maxRecDepth 100000 in
set_option maxHeartbeats 4000000 in
theorem awake11_any (w : World) : Calls Try.prog 18 #[] w (Ret (.bool true) w) := by
  go_enter Try.func18, Try.ntmps18
  go_wp2_with (refine wpList_store_new rfl 39 _ _ rfl w _ _ rfl rfl rfl zq_size rfl zq_one ?_)
  obtain ⟨w1, hw1⟩ : ∃ w1, w1 = w.alloc (.cells Try.zeroCells39 39) := ⟨_, rfl⟩
  rw [← hw1]
  have HB := Lib.hid (show Below w.heap.size w w1 from by rw [hw1]; exact below_new _)
  have HQ := Lib.hid (show w1.heap[w.heap.size]? = some (.cells (onesRow 0) 39 (0, 0)) from by rw [hw1, ← zq_row]; exact heap_alloc_new _ _)
  clear hw1
  go_loopw [2] (fun i wr => ∃ k : Nat, k ≤ 64 ∧ i = .int .i64 k ∧ Hid (wr.heap[w.heap.size]? = some (.cells (onesRow k) 39 (0, 0))) ∧ Hid (Below w.heap.size w wr)) (fun i _ => 64 - (intOf i).toNat)
  case atStart => exact ⟨0, by omega, rfl, HQ.out, HB.out⟩
  case round =>
    obtain ⟨k, hk, rfl, HQr, HBr⟩ := hrel
    by_cases hlt : k < 64
    · have hc : wr.cell? ⟨w.heap.size, 1 + k, none⟩ = some (.int .u16 0) := blk_cell HQr.out _ (onesRow_get hlt)
      have hf : wr.frozen? ⟨w.heap.size, 1 + k, none⟩ = false := blk_frozen HQr.out _
      have hs : w.heap.size < wr.heap.size := blk_lt HQr.out
      have h1 : (k : Int) < 64 := by omega
      go_wp2_with fail
      go_roundw
      case rel =>
        refine ⟨k + 1, by omega, by go_num, ?_, ?_⟩
        · have := blk_set HQr.out (1 + k) (.int .u16 1)
          rw [onesRow_set hlt] at this
          exact this
        · exact HBr.out.setCell (Nat.le_refl _) _
      case measure => simp [intOf]; omega
    · obtain rfl : k = 64 := by omega
      have HQ64 := Lib.hid (show wr.heap[w.heap.size]? = some (.cells (quantRow ⟨0, List.replicate 64 1⟩).toArray 39 (0, 0)) from by rw [← ones_all]; exact HQr.out)
      obtain ⟨q, hq⟩ : ∃ q : Quant, q = ⟨0, List.replicate 64 1⟩ := ⟨_, rfl⟩
      rw [← hq] at HQ64
      have HXA := Lib.hid (show ∀ o, (wr.alloc o).rangeAt w.heap.size 0 (quantRow q) from fun o => blk_range (blk_old HQ64.out o))
      have HI := Lib.hid (show (Try.prog.info? 39).map (·.size) = some (quantRow q).length from by rw [hq]; exact size_Quant)
      have HQE := Lib.hid hq
      clear hq
      have HBS := Lib.hid (show ∀ w, (Instr.buildSlice 23 1 #[(0, .agg (quantRow q).toArray)]).run Try.prog w = .ok (.slice (some ⟨w.heap.size, 0, none⟩) 1 1) (w.alloc (.cells (quantRow q).toArray 39)) from by rw [HQE.out]; exact built_quant)
      go_wp2_with (first | (refine wpList_load_mid rfl 39 _ rfl w.heap.size 0 rfl (quantRow q) _ (HXA.out _) Try.underlying39 rfl HI.out ?_) | (refine wpList_buildSlice_row rfl 23 _ rfl (quantRow q).toArray 39 rfl (HBS.out _) ?_))
      have b1 := blk_old (heap_alloc_new wr (.cells #[.int .i64 1, .int .i64 1, .int .i64 1, .int .i64 0, .int .i64 0, .int .i64 0, .slice none 0 0] 63)) (.cells (quantRow q).toArray 39)
      have b2 := heap_new (w := wr.alloc (.cells #[.int .i64 1, .int .i64 1, .int .i64 1, .int .i64 0, .int .i64 0, .int .i64 0, .slice none 0 0] 63)) (o := .cells (quantRow q).toArray 39) (n := wr.heap.size + 1) (by simp)
      have hB9 : Below w.heap.size w ((wr.alloc (.cells #[.int .i64 1, .int .i64 1, .int .i64 1, .int .i64 0, .int .i64 0, .int .i64 0, .slice none 0 0] 63)).alloc (.cells (quantRow q).toArray 39)) := (HBr.out.alloc HBr.out.size _).alloc (by have := HBr.out.size; simp; omega) _
      generalize (wr.alloc (.cells #[.int .i64 1, .int .i64 1, .int .i64 1, .int .i64 0, .int .i64 0, .int .i64 0, .slice none 0 0] 63)).alloc (.cells (quantRow q).toArray 39) = w9 at *
      have hR : RdL w9 7 (.slice (some ⟨wr.heap.size, 0, none⟩) 1 1) ([(⟨1, 1, 1, 0, 0, 0, .slice none 0 0, []⟩ : Comp)].map compRow) := rd_of_block (e := 63) (rows := [(⟨1, 1, 1, 0, 0, 0, .slice none 0 0, []⟩ : Comp)].map compRow) b1 (by decide) (comp_rows7 _) (by decide)
      have hQ : RdL w9 65 (.slice (some ⟨wr.heap.size + 1, 0, none⟩) 1 1) ([q].map quantRow) := rd_of_block (e := 39) (rows := [q].map quantRow) (by simpa using b2) (by simp) (fun x hx => by have : x = quantRow q := by simpa using hx
                                                                                                                                                                                               subst this; rw [HQE.out]; rfl) (fun x hx v hv => by
        have : x = quantRow q := by simpa using hx
        subst this
        rcases List.mem_cons.1 hv with rfl | hv
        · rfl
        · exact ints_one _ _ v hv)
      have hBL := blank_any 9 8 hR hQ (by decide) (by simp) (fun c hc => by have : c = ⟨1, 1, 1, 0, 0, 0, .slice none 0 0, []⟩ := by simpa using hc
                                                                            subst this; exact ⟨_, _, _, rfl⟩) (fun c hc => by have : c = ⟨1, 1, 1, 0, 0, 0, .slice none 0 0, []⟩ := by simpa using hc
                                                                                                                              subst this; unfold i64; decide) (fun r hr => by
        have : r = q := by simpa using hr
        subst this
        rw [HQE.out]
        exact ⟨by unfold i64; decide, fun n hn => by have := List.eq_of_mem_replicate hn; omega⟩)
      clear b1 b2 hR hQ HBS HI HXA HQ64 HQr HQ HB hk hlt
      have HB9 := Lib.hid hB9; clear hB9
      refine hBL.mono ?_
      clear hBL
      rintro e w10 ⟨hB10, cs', hbl, ⟨hne, _⟩ | ⟨h0, cv, qv, rfl, hImg⟩⟩
      · obtain ⟨bv, rfl⟩ := awake_cs hbl
        rw [HQE.out] at hne
        exact absurd (awake_img bv) hne
      · obtain ⟨bv, rfl⟩ := awake_cs hbl
        obtain ⟨cp, cc, ecv, _⟩ := hImg.comps.form
        obtain ⟨qp, qc, eqv, _⟩ := hImg.quants.form
        have ecv : cv = .slice cp 1 cc := ecv
        have eqv : qv = .slice qp 1 qc := eqv
        subst ecv eqv
        have HIM := Lib.hid hImg
        have HB10 := Lib.hid (HB9.out.trans (hB10.mono HB9.out.size))
        clear hImg hB10 h0 hbl
        go_wp2_with fail
        have hIA := HIM.out.below (below_new (.cells #[.int .i64 9, .int .i64 8, .slice cp 1 cc, .slice qp 1 qc, .slice none 0 0] 26))
        have hSZ := size_any (W := 9) (H := 8) hIA (by rw [HQE.out]; exact awake_few bv)
        rw [HQE.out, awake_img, awake_size] at hSZ
        refine hSZ.mono ?_
        rintro e w11 ⟨rfl, hB11⟩
        obtain ⟨b0, o, p6, cap6, rfl, hb0, _, _, _, _, _, _, r6, _⟩ := (hIA.below hB11).row rfl (k := 0) rfl
        have m2 : w11.cell? ⟨w10.heap.size, 2, none⟩ = some (.slice (some ⟨b0, o, none⟩) 1 cc) := old_cell hB11 (new_cell (Below.refl _ _) 2 rfl)
        have hs : w10.heap.size < w11.heap.size := lt_of_cell m2
        rw [Nat.zero_mul, Nat.add_zero] at r6
        have r6' : w11.cell? ⟨b0, o + 6, none⟩ = some (.slice p6 2 cap6) := r6
        have HB11 := Lib.hid ((HB10.out.alloc HB10.out.size _).trans (hB11.mono (by have := HB10.out.size; simp; omega)))
        clear hIA hSZ hB11 r6
        go_wp2_with fail
        go_ret
        exact ⟨rfl, HB11.out⟩
end Aq
end Go.Proofs.Ytaacpoadfdmfnaa
