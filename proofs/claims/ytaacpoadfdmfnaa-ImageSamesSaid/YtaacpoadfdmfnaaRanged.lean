/-
  What image.blocks and image.tags answer: the first error of the blocks' coefficients, and of the tags.
-/
import Derived.Test.YtaacpoadfdmfnaaComps
namespace Go.Proofs.Ytaacpoadfdmfnaa
open Go Go.RowKit Go.Shelf
namespace Aq
/-- Is a coefficient, but the first, without its range? -/
def outside (n : Int) : Bool := decide (n < -1023) || decide (1023 < n)
/-- Are a block's coefficients in their ranges? -/
def rangedB (b : List Int) : Bool := decide (-1024 ≤ b.getD 0 0) && decide (b.getD 0 0 < 1024) && !((b.drop 1).any outside)
set_option maxHeartbeats 400000 in
theorem ranged1_any (w : World) (n : Int) : Calls Try.prog 143 #[.int .i16 n] w (Ret (.bool (outside n)) w) := by
  by_cases h1 : n < -1023
  · have HO := Lib.hid (show outside n = true from by simp [outside, h1])
    go_enter Try.func143, Try.ntmps143
    go_wp2
    go_ret
    exact ⟨by rw [HO.out]; rfl, Below.refl _ _⟩
  · by_cases h2 : 1023 < n
    · have HO := Lib.hid (show outside n = true from by simp [outside, h2])
      go_enter Try.func143, Try.ntmps143
      go_wp2
      go_ret
      exact ⟨by rw [HO.out]; rfl, Below.refl _ _⟩
    · have HO := Lib.hid (show outside n = false from by simp [outside, h1, h2])
      go_enter Try.func143, Try.ntmps143
      go_wp2
      go_ret
      exact ⟨by rw [HO.out]; rfl, Below.refl _ _⟩
/-- A row of numbers within a block, as a slice of rows of one cell. -/
theorem RdL_ints {w : World} {k : IntKind} {b o : Nat} {l : List Int} (h : w.rangeAt b o (ints k l)) (hl : l.length ≤ 140737488355328) (cap : Nat) (hc : l.length ≤ cap) (hm : cap ≤ maxLen) :
    RdL w 1 (.slice (some ⟨b, o, none⟩) l.length cap) (l.map fun n => [.int k n]) := by
  refine ⟨⟨some ⟨b, o, none⟩, cap, by rw [List.length_map], by rw [List.length_map]; exact hc, ⟨hm, by rw [List.length_map]; exact hl⟩, fun _ => ⟨b, o, rfl, ?_⟩⟩, ?_, ?_⟩
  · intro j x hj i u hu
    rw [List.getElem?_map] at hj
    obtain ⟨n, hn, rfl⟩ := Option.map_eq_some_iff.1 hj
    have : i = 0 := by
      cases i with
      | zero => rfl
      | succ i => simp at hu
    subst this
    have hu : u = .int k n := by simpa using hu.symm
    subst hu
    rw [Nat.mul_one, Nat.add_zero]
    exact h j _ (by simp [ints, hn])
  · intro x hx
    obtain ⟨n, _, rfl⟩ := List.mem_map.1 hx
    rfl
  · intro x hx v hv
    obtain ⟨n, _, rfl⟩ := List.mem_map.1 hx
    have : v = .int k n := by simpa using hv
    subst this
    rfl
set_option maxHeartbeats 1000000 in
theorem ranged_any (w : World) (b : List Int) (hb : b.length = 64) : Calls Try.prog 122 #[.agg (blockRow b).toArray] w (Ret (.bool (rangedB b)) w) := by
  obtain ⟨b0, r, rfl⟩ : ∃ b0 r, b = b0 :: r := by
    cases b with
    | nil => simp at hb
    | cons b0 r => exact ⟨b0, r, rfl⟩
  have hr : r.length = 63 := by simpa using hb
  obtain ⟨w1, hw1⟩ : ∃ w1, w1 = w.alloc (.cells (blockRow (b0 :: r)).toArray 57) := ⟨_, rfl⟩
  have hB1 : Below w.heap.size w w1 := by rw [hw1]; exact below_new _
  have hrow : w1.rangeAt w.heap.size 0 (blockRow (b0 :: r)) := fun j v hv => by
    rw [hw1, Nat.zero_add]; exact new_cell (Below.refl _ _) j (by simpa using hv)
  have h0 : w1.cell? ⟨w.heap.size, 0, none⟩ = some (.int .i16 b0) := hrow 0 _ rfl
  have hR := RdL_ints (k := .i16) (rangeAt_tail hrow : w1.rangeAt w.heap.size 1 (ints .i16 r)) (by omega) 63 (by omega) (by unfold maxLen; omega)
  rw [hr] at hR
  have hc := containsFunc_int16 hR 143 #[] (enters_of Try.func143 (by kernel_rfl) rfl) (fun i => outside (r.getD i 0)) (fun i x hx w2 hw2 => by
    rw [List.getElem?_map] at hx
    obtain ⟨n, hn, rfl⟩ := Option.map_eq_some_iff.1 hx
    have e : r.getD i 0 = n := by simp [List.getD_eq_getElem?_getD, hn]
    rw [e]
    exact ranged1_any w2 n)
  have hany : ((List.range r.length).any fun i => outside (r.getD i 0)) = r.any outside := by
    rw [Bool.eq_iff_iff, List.any_eq_true, List.any_eq_true]
    constructor
    · rintro ⟨i, hi, h⟩
      have hi := List.mem_range.1 hi
      exact ⟨r[i], List.getElem_mem hi, by simpa [List.getD_eq_getElem?_getD, List.getElem?_eq_getElem hi] using h⟩
    · rintro ⟨x, hx, h⟩
      obtain ⟨i, hi, rfl⟩ := List.mem_iff_getElem.1 hx
      exact ⟨i, List.mem_range.2 hi, by simpa [List.getD_eq_getElem?_getD, List.getElem?_eq_getElem hi] using h⟩
  rw [List.length_map, hany] at hc
  have HC := Lib.hid hc
  have hws : w.heap.size < w1.heap.size := by rw [hw1]; simp
  clear hc hR hrow hany hb hr
  have HS := Lib.hid (show rangedB (b0 :: r) = (decide (-1024 ≤ b0) && decide (b0 < 1024) && !(r.any outside)) from rfl)
  show Calls Try.prog 122 #[.agg (Value.int .i16 b0 :: ints .i16 r).toArray] w _
  by_cases h1 : b0 < -1024
  · have HF := Lib.hid (show rangedB (b0 :: r) = false from by rw [HS.out]; simp; omega)
    clear HS HC
    go_enter Try.func122, Try.ntmps122
    go_wp2_with fail
    go_ret
    exact ⟨by rw [HF.out]; rfl, below_new _⟩
  · by_cases h2 : 1024 ≤ b0
    · have HF := Lib.hid (show rangedB (b0 :: r) = false from by rw [HS.out]; simp; omega)
      clear HS HC
      go_enter Try.func122, Try.ntmps122
      go_wp2_with fail
      go_ret
      exact ⟨by rw [HF.out]; rfl, below_new _⟩
    · have HF := Lib.hid (show rangedB (b0 :: r) = !(r.any outside) from by rw [HS.out]; simp; omega)
      clear HS
      go_enter Try.func122, Try.ntmps122
      go_wp2_with fail
      refine calls_at (w := w1) (by rw [hw1]; rfl) ?_
      refine HC.out.mono ?_
      rintro e w2 ⟨rfl, hB2⟩
      have hB3 : Below w.heap.size w w2 := hB1.trans (hB2.mono hB1.size)
      clear hw1 hB2 hB1 h0 HC
      go_wp2_with fail
      go_ret
      exact ⟨by rw [HF.out]; rfl, hB3⟩
/-- The error of a component's blocks. -/
def blocksErr (c : Comp) : Int := testE (c.bs.all rangedB) 10
theorem firstE_all {n : Nat} {E : Nat → Int} {f : Nat → Bool} {e : Int} (he : e ≠ 0) (h : ∀ i, i < n → E i = testE (f i) e) : firstE n E = testE ((List.range n).all f) e := by
  unfold testE at *
  by_cases ha : (List.range n).all f = true
  · rw [if_pos ha]
    exact firstE_none (fun i hi => by rw [h i hi, if_pos (List.all_eq_true.1 ha i (List.mem_range.2 hi))])
  · rw [if_neg ha]
    rcases firstI_spec n (fun i => !(f i)) with ⟨_, hall⟩ | ⟨k, hk, _, hE, hmin⟩
    · exact absurd (List.all_eq_true.2 (fun i hi => by have := hall i (List.mem_range.1 hi); simpa using this)) ha
    · rw [firstE_some hk (by rw [h k hk]; simp at hE; simp [hE]; exact he) (fun i hi => by rw [h i (by omega)]; have := hmin i hi; simp at this; simp [this]), h k hk]
      simp at hE
      simp [hE]
set_option maxRecDepth 100000 in
set_option maxHeartbeats 400000 in
theorem blocks11_any (w : World) (n : Int) (b : List Int) (hb : b.length = 64) : Calls Try.prog 121 #[.int .i64 n, .agg (blockRow b).toArray] w (Ret (.int .i64 (testE (rangedB b) 10)) w) := by
  have H1 := Lib.hid (show (Try.prog.info? 57).map (·.size) = some (blockRow b).toArray.size from by simp only [blockRow, List.size_toArray, ints_length, hb]; exact size_Block)
  have HR := Lib.hid (fun w' => ranged_any w' b hb)
  clear hb
  go_enter Try.func121, Try.ntmps121
  go_wp2_with (refine wpList_load_new rfl 57 _ rfl w _ _ rfl rfl Try.underlying57 rfl H1.out ?_)
  refine (HR.out _).mono ?_
  rintro e w2 ⟨rfl, hB2⟩
  have hB3 : Below w.heap.size w w2 := below_of_new hB2
  clear hB2
  go_wp2_with fail
  refine (test_any _ _ _).mono ?_
  rintro e w3 ⟨rfl, hB4⟩
  go_wp2_with fail
  go_ret
  exact ⟨rfl, hB3.trans (hB4.mono hB3.size)⟩
set_option maxHeartbeats 400000 in
theorem blocks1_any (w : World) (n : Int) (c : Comp) (hR : RdL w 64 c.bv (c.bs.map blockRow)) : Calls Try.prog 119 #[.int .i64 n, .agg (compRow c).toArray] w (Ret (.int .i64 (blocksErr c)) w) := by
  have hl : ∀ b, b ∈ c.bs → b.length = 64 := fun b hb => by
    have := hR.len (blockRow b) (List.mem_map.2 ⟨b, hb, rfl⟩)
    simpa [blockRow] using this
  have he := each_Block (hR.below (below_new (.cells (compRow c).toArray 63))) 121 #[] (enters_of Try.func121 (by kernel_rfl) rfl) (fun i => testE (rangedB (c.bs.getD i [])) 10) (fun i x hx w2 hw2 => by
    rw [List.getElem?_map] at hx
    obtain ⟨b, hb, rfl⟩ := Option.map_eq_some_iff.1 hx
    have e : c.bs.getD i [] = b := by simp [List.getD_eq_getElem?_getD, hb]
    rw [e]
    exact blocks11_any w2 _ b (hl b (List.mem_of_getElem? hb)))
  rw [firstE_all (f := fun i => rangedB (c.bs.getD i [])) (by decide) (fun i _ => rfl), List.length_map] at he
  have ha : ((List.range c.bs.length).all fun i => rangedB (c.bs.getD i [])) = c.bs.all rangedB := by
    rw [Bool.eq_iff_iff, List.all_eq_true, List.all_eq_true]
    constructor
    · intro h x hx
      obtain ⟨i, hi, rfl⟩ := List.mem_iff_getElem.1 hx
      have := h i (List.mem_range.2 hi)
      simpa [List.getD_eq_getElem?_getD, List.getElem?_eq_getElem hi] using this
    · intro h i hi
      have hi := List.mem_range.1 hi
      simpa [List.getD_eq_getElem?_getD, List.getElem?_eq_getElem hi] using h _ (List.getElem_mem hi)
  rw [ha] at he
  have HE := Lib.hid he
  clear he ha hl hR
  simp only [compRow] at HE ⊢
  go_enter Try.func119, Try.ntmps119
  go_wp2_with fail
  refine HE.out.mono ?_
  rintro e w2 ⟨rfl, hB2⟩
  go_wp2_with fail
  go_ret
  exact ⟨rfl, below_of_new hB2⟩
set_option maxHeartbeats 400000 in
theorem blocks_any {w : World} {W H : Int} {cv qv tv : Value} {cs : List Comp} {qs : List Quant} {ts : List Tag} (hR : RdImg w cv qv tv cs qs ts) :
    Calls Try.prog 62 #[.agg #[.int .i64 W, .int .i64 H, cv, qv, tv]] w (Ret (.int .i64 (testE (cs.all (fun c => c.bs.all rangedB)) 10)) w) := by
  have hB : Below w.heap.size w (w.alloc (.cells #[.int .i64 W, .int .i64 H, cv, qv, tv] 26)) := below_new _
  have he := each_Comp (hR.comps.below hB) 119 #[] (enters_of Try.func119 (by kernel_rfl) rfl) (fun i => testE (((cs[i]?).map fun c => c.bs.all rangedB).getD true) 10) (fun i x hx w2 hw2 => by
    rw [List.getElem?_map] at hx
    obtain ⟨c, hd, rfl⟩ := Option.map_eq_some_iff.1 hx
    have := blocks1_any w2 i c ((hR.blocks c (List.mem_of_getElem? hd)).below (hB.trans (hw2.mono (by simp))))
    simpa [hd, blocksErr] using this)
  rw [firstE_all (f := fun i => ((cs[i]?).map fun c => c.bs.all rangedB).getD true) (by decide) (fun i _ => rfl), List.length_map] at he
  have ha : ((List.range cs.length).all fun i => ((cs[i]?).map fun c => c.bs.all rangedB).getD true) = cs.all (fun c => c.bs.all rangedB) := by
    rw [Bool.eq_iff_iff, List.all_eq_true, List.all_eq_true]
    constructor
    · intro h x hx
      obtain ⟨i, hi, rfl⟩ := List.mem_iff_getElem.1 hx
      have := h i (List.mem_range.2 hi)
      simpa [List.getElem?_eq_getElem hi] using this
    · intro h i hi
      have hi := List.mem_range.1 hi
      simpa [List.getElem?_eq_getElem hi] using h _ (List.getElem_mem hi)
  rw [ha] at he
  have HE := Lib.hid he
  clear he ha hR
  go_enter Try.func62, Try.ntmps62
  go_wp2_with fail
  refine HE.out.mono ?_
  rintro e w2 ⟨rfl, hB2⟩
  go_wp2_with fail
  go_ret
  exact ⟨rfl, below_of_new hB2⟩
/-- The error of a tag. -/
def tagErr (t : Tag) : Int := if t.kind ≠ 254 ∧ (t.kind < 224 ∨ 239 < t.kind) then 6 else if t.body.size ≤ 65533 then 0 else 4
theorem testE_le (n : Nat) : testE (decide ((n : Int) ≤ 65533)) 4 = if n ≤ 65533 then 0 else 4 := by
  unfold testE
  by_cases h : n ≤ 65533
  · rw [if_pos (by simp; omega), if_pos h]
  · rw [if_neg (by simp; omega), if_neg h]
set_option maxHeartbeats 400000 in
theorem tags1_any (w : World) (n : Int) (t : Tag) (_hs : t.body.size ≤ 140737488355328) : Calls Try.prog 124 #[.int .i64 n, .agg (tagRow t).toArray] w (Ret (.int .i64 (tagErr t)) w) := by
  simp only [tagRow]
  by_cases h1 : t.kind = 254
  · have hb : (t.kind != 254) = false := by simp [h1]
    have HE := Lib.hid (show tagErr t = if t.body.size ≤ 65533 then 0 else 4 from by simp [tagErr, h1])
    clear h1
    go_enter Try.func124, Try.ntmps124
    go_wp2_with (go_at_call 110; refine (test_any _ _ _).mono ?_; rintro e w3 ⟨rfl, hB4⟩)
    all_goals go_ret
    all_goals exact ⟨ret_int (by rw [HE.out]; exact testE_le t.body.size), below_of_new hB4⟩
  · have hb : (t.kind != 254) = true := by simpa using h1
    by_cases h2 : t.kind < 224
    · have HE := Lib.hid (show tagErr t = 6 from by simp [tagErr, h1, h2])
      clear h1
      go_enter Try.func124, Try.ntmps124
      go_wp2_with (go_at_call 110; refine (test_any _ _ _).mono ?_; rintro e w3 ⟨rfl, hB4⟩)
      go_ret
      exact ⟨ret_int HE.out.symm, below_new _⟩
    · by_cases h3 : 239 < t.kind
      · have HE := Lib.hid (show tagErr t = 6 from by simp [tagErr, h1, h3])
        clear h1
        go_enter Try.func124, Try.ntmps124
        go_wp2_with (go_at_call 110; refine (test_any _ _ _).mono ?_; rintro e w3 ⟨rfl, hB4⟩)
        go_ret
        exact ⟨ret_int HE.out.symm, below_new _⟩
      · have HE := Lib.hid (show tagErr t = if t.body.size ≤ 65533 then 0 else 4 from by simp [tagErr, h2, h3])
        clear h1
        go_enter Try.func124, Try.ntmps124
        go_wp2_with (go_at_call 110; refine (test_any _ _ _).mono ?_; rintro e w3 ⟨rfl, hB4⟩)
        all_goals go_ret
        all_goals exact ⟨ret_int (by rw [HE.out]; exact testE_le t.body.size), below_of_new hB4⟩
/-- The error of all tags. -/
def tagsErr (ts : List Tag) : Int := if 64 < ts.length then 12 else firstE ts.length (fun i => ((ts[i]?).map tagErr).getD 0)
set_option maxHeartbeats 400000 in
theorem tags_any {w : World} {W H : Int} {cv qv tv : Value} {cs : List Comp} {qs : List Quant} {ts : List Tag} (hR : RdImg w cv qv tv cs qs ts) :
    Calls Try.prog 63 #[.agg #[.int .i64 W, .int .i64 H, cv, qv, tv]] w (Ret (.int .i64 (tagsErr ts)) w) := by
  have hT := hR.tags
  have hwf := hR.wft
  clear hR
  have hB : Below w.heap.size w (w.alloc (.cells #[.int .i64 W, .int .i64 H, cv, qv, tv] 26)) := below_new _
  have he := each_Tag (hT.below hB) 124 #[] (enters_of Try.func124 (by kernel_rfl) rfl) (fun i => ((ts[i]?).map tagErr).getD 0) (fun i x hx w2 hw2 => by
    rw [List.getElem?_map] at hx
    obtain ⟨t, hd, rfl⟩ := Option.map_eq_some_iff.1 hx
    have := tags1_any w2 i t (hwf t (List.mem_of_getElem? hd)).2
    simpa [hd] using this)
  rw [List.length_map] at he
  have HE := Lib.hid he
  clear he
  obtain ⟨⟨p, cap, rfl, hcap, hcm, hx⟩, hk, ho⟩ := hT
  rw [List.length_map] at hcap hcm HE ⊢
  have hm : ts.length ≤ 140737488355328 := hcm.2
  clear hx hk ho hcm hcap hwf
  by_cases h64 : 64 < ts.length
  · have HS := Lib.hid (show tagsErr ts = 12 from by simp [tagsErr, h64])
    have hi : (64 : Int) < (ts.length : Int) := by omega
    go_enter Try.func63, Try.ntmps63
    go_wp2_with fail
    go_ret
    exact ⟨ret_int HS.out.symm, below_new _⟩
  · have HS := Lib.hid (show tagsErr ts = firstE ts.length (fun i => ((ts[i]?).map tagErr).getD 0) from by simp [tagsErr, h64])
    have hi : (ts.length : Int) ≤ (64 : Int) := by omega
    go_enter Try.func63, Try.ntmps63
    go_wp2_with fail
    refine HE.out.mono ?_
    rintro e w2 ⟨rfl, hB2⟩
    go_wp2_with fail
    go_ret
    exact ⟨ret_int HS.out.symm, below_of_new hB2⟩
end Aq
end Go.Proofs.Ytaacpoadfdmfnaa
