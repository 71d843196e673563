/-
  What plane.sized, plane.Right answer; what a frame's Grid, Unit, Units answer.
-/
import Derived.Test.YtaacpoadfdmfnaaFrameNew
import Derived.Test.YtaacpoadfdmfnaaComps
namespace Go.Proofs.Ytaacpoadfdmfnaa
open Go Go.RowKit Go.Shelf
namespace Aq
def sizedErr (c r : Int) : Int := if c < 1 ∨ r < 1 then 1 else if 16384 < c ∨ 16384 / c < r then 11 else 0
theorem sized_zero {c r : Int} (h : sizedErr c r = 0) : 1 ≤ c ∧ c ≤ 16384 ∧ 1 ≤ r ∧ r ≤ 16384 ∧ c * r ≤ 16384 := by
  unfold sizedErr at h
  split at h
  · omega
  · split at h
    · omega
    · rename_i h1 h2
      have h3 : r ≤ 16384 / c := by omega
      have h4 := (Int.le_ediv_iff_mul_le (by omega : 0 < c)).1 h3
      have h5 : 16384 / c ≤ 16384 := Int.ediv_le_self _ (by omega)
      rw [Int.mul_comm] at h4
      omega
set_option maxHeartbeats 1000000 in
theorem sized_any (w : World) (c r : Int) : Calls Try.prog 127 #[.int .i64 c, .int .i64 r] w (fun e w' => e = .returned (.int .i64 (sizedErr c r)) ∧ w' = w) := by
  have HE := Lib.hid (show sizedErr c r = if c < 1 ∨ r < 1 then 1 else if 16384 < c ∨ 16384 / c < r then 11 else 0 from rfl)
  by_cases h1 : c < 1
  · have HV := Lib.hid (show sizedErr c r = 1 from by rw [HE.out, if_pos (.inl h1)])
    clear HE
    go_enter Try.func127, Try.ntmps127
    go_wp2_with fail
    go_ret
    exact ⟨ret_int HV.out.symm, rfl⟩
  · by_cases h2 : r < 1
    · have HV := Lib.hid (show sizedErr c r = 1 from by rw [HE.out, if_pos (.inr h2)])
      clear HE
      go_enter Try.func127, Try.ntmps127
      go_wp2_with fail
      go_ret
      exact ⟨ret_int HV.out.symm, rfl⟩
    · by_cases h3 : 16384 < c
      · have HV := Lib.hid (show sizedErr c r = 11 from by rw [HE.out, if_neg (by omega), if_pos (.inl h3)])
        clear HE
        go_enter Try.func127, Try.ntmps127
        go_wp2_with fail
        go_ret
        exact ⟨ret_int HV.out.symm, rfl⟩
      · have hd : (16384 : Int).tdiv c = 16384 / c := Int.tdiv_eq_ediv_of_nonneg (by omega)
        have hd2 : 0 ≤ 16384 / c := Int.ediv_nonneg (by omega) (by omega)
        have hd3 : 16384 / c ≤ 16384 := Int.ediv_le_self _ (by omega)
        have hw : IntKind.i64.wrap (16384 / c) = 16384 / c := IntWalk.i64_in _ (by omega)
        have hc0 : c ≠ 0 := by omega
        by_cases h4 : 16384 / c < r
        · have HV := Lib.hid (show sizedErr c r = 11 from by rw [HE.out, if_neg (by omega), if_pos (.inr h4)])
          clear HE
          go_enter Try.func127, Try.ntmps127
          go_wp2_with fail
          go_ret
          exact ⟨ret_int HV.out.symm, rfl⟩
        · have HV := Lib.hid (show sizedErr c r = 0 from by rw [HE.out, if_neg (by omega), if_neg (by omega)])
          clear HE
          go_enter Try.func127, Try.ntmps127
          go_wp2_with fail
          go_ret
          exact ⟨ret_int HV.out.symm, rfl⟩
/-- Whether a plane of c times r with n blocks is right. -/
def planeB (c r : Int) (n : Nat) : Bool := decide (sizedErr c r = 0) && decide ((n : Int) = c * r)
set_option maxHeartbeats 1000000 in
theorem planeRight_any (w : World) (c r : Int) (p : Option Addr) (n cap : Nat) : Calls Try.prog 118 #[.agg #[.int .i64 c, .int .i64 r, .slice p n cap]] w (Ret (.bool (planeB c r n)) w) := by
  by_cases h : sizedErr c r = 0
  · obtain ⟨h1, h2, h3, h4, h5⟩ := sized_zero h
    have m1 : 0 ≤ c * r := Int.mul_nonneg (by omega) (by omega)
    have HV := Lib.hid (show planeB c r n = decide ((n : Int) = c * r) from by unfold planeB; simp [h])
    have hb : (sizedErr c r == 0) = true := by simp [h]
    have HS := Lib.hid (fun w => sized_any w c r)
    have hw : IntKind.i64.wrap (c * r) = c * r := IntWalk.i64_in _ (by omega)
    clear h
    go_enter Try.func118, Try.ntmps118
    go_wp2_with (go_at_call 127; refine (HS.out _).mono ?_; rintro e w3 ⟨rfl, rfl⟩)
    all_goals
      go_ret
      exact ⟨by rw [HV.out]; first | rfl | simp_all, (Below.refl _ _).alloc (Nat.le_refl _) _⟩
  · have HV := Lib.hid (show planeB c r n = false from by unfold planeB; simp [h])
    have hb : (sizedErr c r == 0) = false := by simp [h]
    have HS := Lib.hid (fun w => sized_any w c r)
    clear h
    go_enter Try.func118, Try.ntmps118
    go_wp2_with (go_at_call 127; refine (HS.out _).mono ?_; rintro e w3 ⟨rfl, rfl⟩)
    go_ret
    exact ⟨by rw [HV.out]; rfl, (Below.refl _ _).alloc (Nat.le_refl _) _⟩
/-- A value that is a frame, or none: its grids and its four sides. -/
inductive RdFV (w : World) : Value → List Grid → Prop where
  | none : RdFV w (.pointer none) []
  | some (F : Nat) (W H : Int) (ps : List Part) (h : RdFrame w F W H ps) : RdFV w (.pointer (some ⟨F, 0, none⟩)) (gridsOf W H ps)
theorem RdFrame.below {w w' : World} {F : Nat} {W H : Int} {ps : List Part} (h : RdFrame w F W H ps) (hB : Below w.heap.size w w') : RdFrame w' F W H ps := by
  obtain ⟨pv, gv, h1, h2, h3⟩ := h.cells
  exact ⟨pv, gv, (hB.block F (Array.getElem?_eq_some_iff.1 h1).1).trans h1, h2.below hB, h3.below hB⟩
theorem RdFV.below {w w' : World} {v : Value} {gs : List Grid} (h : RdFV w v gs) (hB : Below w.heap.size w w') : RdFV w' v gs := by
  cases h with
  | none => exact .none
  | some F W H ps h => exact .some F W H ps (h.below hB)
def noGrid : Grid := ⟨0, 0, 0, 0⟩
theorem size_Grid : (Try.prog.info? 116).map (·.size) = some 4 := by kernel_rfl
theorem rangeAt_new (w : World) (t : TypeId) (cs : List Value) : (w.alloc (.cells cs.toArray t)).rangeAt w.heap.size 0 cs := by
  intro j v hv
  rw [Nat.zero_add]
  exact new_cell (Below.refl _ _) j (by simpa using hv)
set_option maxHeartbeats 1000000 in
theorem grid_any {w : World} {v : Value} {gs : List Grid} (hR : RdFV w v gs) (i : Nat) (hi : i ≤ 140737488355328) :
    Calls Try.prog 73 #[v, .int .i64 i] w (Ret (.tuple #[.agg (gridRow (gs.getD i noGrid)).toArray, .bool (decide (i < gs.length))]) w) := by
  cases hR with
  | none =>
    go_enter Try.func73, Try.ntmps73
    go_wp2_with fail
    refine bodyPost_ret (ret_cell_tmp rfl _ _ w.heap.size 0 (gridRow noGrid) _ rfl (rangeAt_new w 116 (gridRow noGrid)) Try.underlying116 rfl size_Grid) rfl ?_
    exact ⟨rfl, below_new _⟩
  | some F W H ps h =>
    obtain ⟨pv, gv, h1, h2, h3⟩ := h.cells
    obtain ⟨⟨p, cap, rfl, hcap, hcm, hx⟩, hk, ho⟩ := h3
    obtain ⟨gs, hgs⟩ : ∃ gs, gs = gridsOf W H ps := ⟨_, rfl⟩
    rw [← hgs] at hx hk ho hcap hcm h1 ⊢
    rw [List.length_map] at hcap hcm h1
    have hF := Lib.hid h1
    have hc1 : w.cell? ⟨F, 1, none⟩ = some (.slice p gs.length cap) := by rw [cell_of_row w F 1 _ _ (0, 0) h1]; rfl
    clear h1 h2 hk ho hgs
    by_cases hlt : i < gs.length
    · obtain ⟨g, hg⟩ : ∃ g, gs[i]? = some g := ⟨_, List.getElem?_eq_getElem hlt⟩
      obtain ⟨b, o, rfl, hr⟩ := hx (fun e => by rw [List.map_eq_nil_iff] at e; rw [e] at hlt; simp at hlt)
      have hr' : w.rangeAt b (o + i * 4) (gridRow g) := hr i (gridRow g) (by simp [hg])
      have hl1 : (i : Int) < (gs.length : Int) := by omega
      have HV := Lib.hid (show gs.getD i noGrid = g from by simp [List.getD_eq_getElem?_getD, hg])
      have HD := Lib.hid (show decide (i < gs.length) = true from decide_eq_true hlt)
      have r0 : w.cell? ⟨b, o + i * 4, none⟩ = some (.int .i64 g.cols) := hr' 0 _ rfl
      have r1 : w.cell? ⟨b, o + i * 4 + 1, none⟩ = some (.int .i64 g.rows) := hr' 1 _ rfl
      have r2 : w.cell? ⟨b, o + i * 4 + 2, none⟩ = some (.int .i64 g.ownCols) := hr' 2 _ rfl
      have r3 : w.cell? ⟨b, o + i * 4 + 3, none⟩ = some (.int .i64 g.ownRows) := hr' 3 _ rfl
      have hb : b < w.heap.size := lt_of_cell r0
      have hFs : F < w.heap.size := lt_of_cell hc1
      clear hx hr hr' hcap hlt hg
      go_enter Try.func73, Try.ntmps73
      go_wp2_with fail
      refine bodyPost_ret (ret_cell_tmp rfl _ _ w.heap.size 0 (gridRow g) _ rfl (rangeAt_new w 116 (gridRow g)) Try.underlying116 rfl size_Grid) rfl ?_
      exact ⟨by rw [HV.out, HD.out]; rfl, below_new _⟩
    · have HV := Lib.hid (show gs.getD i noGrid = noGrid from by simp [List.getD_eq_getElem?_getD, List.getElem?_eq_none (show gs.length ≤ i by omega)])
      have HD := Lib.hid (show decide (i < gs.length) = false from decide_eq_false hlt)
      have hl1 : (gs.length : Int) ≤ (i : Int) := by omega
      have hFs : F < w.heap.size := lt_of_cell hc1
      clear hx hcap hlt
      go_enter Try.func73, Try.ntmps73
      go_wp2_with fail
      refine bodyPost_ret (ret_cell_tmp rfl _ _ w.heap.size 0 (gridRow noGrid) _ rfl (rangeAt_new w 116 (gridRow noGrid)) Try.underlying116 rfl size_Grid) rfl ?_
      exact ⟨by rw [HV.out, HD.out]; rfl, below_new _⟩
end Aq
end Go.Proofs.Ytaacpoadfdmfnaa
