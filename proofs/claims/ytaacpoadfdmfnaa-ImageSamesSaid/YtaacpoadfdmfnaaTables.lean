/-
  What image.tables and image.Table answer.
-/
import Derived.Test.YtaacpoadfdmfnaaComps
import Derived.Test.YtaacpoadfdmfnaaU16
import Derived.Test.YtaacpoadfdmfnaaCalm
import Derived.BigQuiet
namespace Go.Proofs.Ytaacpoadfdmfnaa
open Go Go.RowKit Go.Shelf
namespace Aq
set_option maxHeartbeats 400000 in
theorem tables11_any (w : World) (b o : Nat) (x y : Int) (c0 c1 c2 c4 c5 c6 : Value) (h : w.cell? ⟨b, o, none⟩ = some (.int .i64 y)) :
    Calls Try.prog 112 #[.agg #[c0, c1, c2, .int .i64 x, c4, c5, c6], .pointer (some ⟨b, o, none⟩)] w (Ret (.bool (x == y)) w) := by
  have hb : b < w.heap.size := lt_of_cell h
  go_enter Try.func112, Try.ntmps112
  go_wp2
  go_ret
  exact ⟨rfl, below_new _⟩
/-- Is a place used by a component? -/
def usedAt (cs : List Comp) (n : Int) : Bool := cs.any fun c => c.q == n
theorem any_range_map {α : Type} (l : List α) (f : α → Bool) (g : Nat → Bool) (h : ∀ i x, l[i]? = some x → g i = f x) : ((List.range l.length).any g) = l.any f := by
  rw [Bool.eq_iff_iff, List.any_eq_true, List.any_eq_true]
  constructor
  · rintro ⟨i, hi, hg⟩
    have hi := List.mem_range.1 hi
    exact ⟨l[i], List.getElem_mem hi, by rw [← h i _ (List.getElem?_eq_getElem hi)]; exact hg⟩
  · rintro ⟨x, hx, hf⟩
    obtain ⟨i, hi, rfl⟩ := List.mem_iff_getElem.1 hx
    exact ⟨i, List.mem_range.2 hi, by rw [h i _ (List.getElem?_eq_getElem hi)]; exact hf⟩
theorem all_range_map {α : Type} (l : List α) (f : α → Bool) (g : Nat → Bool) (h : ∀ i x, l[i]? = some x → g i = f x) : ((List.range l.length).all g) = l.all f := by
  rw [Bool.eq_iff_iff, List.all_eq_true, List.all_eq_true]
  constructor
  · intro hg x hx
    obtain ⟨i, hi, rfl⟩ := List.mem_iff_getElem.1 hx
    rw [← h i _ (List.getElem?_eq_getElem hi)]; exact hg i (List.mem_range.2 hi)
  · intro hf i hi
    have hi := List.mem_range.1 hi
    rw [h i _ (List.getElem?_eq_getElem hi)]; exact hf _ (List.getElem_mem hi)
set_option maxHeartbeats 400000 in
theorem tables1_any (w : World) (B : Nat) (cv : Value) (cs : List Comp) (n : Int) (hR : RdL w 7 cv (cs.map compRow)) (hcv : w.cell? ⟨B, 2, none⟩ = some cv) :
    Calls Try.prog 111 #[.int .i64 n, .pointer (some ⟨B, 0, none⟩)] w (Ret (.bool (usedAt cs n)) w) := by
  have hb : B < w.heap.size := lt_of_cell hcv
  have hB : Below w.heap.size w (w.alloc (.cells #[.int .i64 n] 3)) := below_new _
  have he := containsFunc_Comp (hR.below hB) 112 #[.pointer (some ⟨w.heap.size, 0, none⟩)] (enters_of Try.func112 (by kernel_rfl) rfl) (fun i => ((cs.map (·.q)).getD i 0 == n)) (fun i x hx w2 hw2 => by
    rw [List.getElem?_map] at hx
    obtain ⟨c, hd, rfl⟩ := Option.map_eq_some_iff.1 hx
    have e : (cs.map (·.q)).getD i 0 = c.q := by simp [List.getD_eq_getElem?_getD, hd]
    rw [e]
    exact tables11_any w2 _ _ c.q n _ _ _ _ _ _ (new_cell hw2 0 rfl))
  have hu : ((List.range cs.length).any fun i => ((cs.map (·.q)).getD i 0 == n)) = usedAt cs n := any_range_map cs _ _ (fun i x hx => by simp [List.getD_eq_getElem?_getD, hx])
  rw [List.length_map, hu] at he
  have HE := Lib.hid he
  clear he hu hR
  go_enter Try.func111, Try.ntmps111
  go_wp2_with fail
  refine HE.out.mono ?_
  rintro e w2 ⟨rfl, hB2⟩
  go_wp2_with fail
  go_ret
  exact ⟨rfl, hB.trans (hB2.mono (by simp))⟩
/-- The error of the i-th table. -/
def tableErr (cs : List Comp) (qs : List Quant) (i : Nat) : Int :=
  match qs[i]? with
  | some q => if 0 ≤ q.pl ∧ q.pl < 4 ∧ (i = 0 ∨ (qs.map (·.pl)).getD (i - 1) 0 < q.pl) ∧ (q.q.any fun n => (0 : Int) == n) = false ∧ usedAt cs q.pl = true then 0 else 5
  | none => 0
set_option maxHeartbeats 1000000 in
theorem tables2_any (w : World) (B U : Nat) (cv qv : Value) (cs : List Comp) (qs : List Quant) (i : Nat) (q : Quant) (hq : qs[i]? = some q) (hR : RdL w 7 cv (cs.map compRow)) (hQ : RdL w 65 qv (qs.map quantRow))
    (hcv : w.cell? ⟨B, 2, none⟩ = some cv) (hqv : w.cell? ⟨B, 3, none⟩ = some qv) (hU : w.cell? ⟨U, 0, none⟩ = some (.func (.func 111) #[] #[.pointer (some ⟨B, 0, none⟩)])) :
    Calls Try.prog 114 #[.int .i64 i, .agg (quantRow q).toArray, .pointer (some ⟨B, 0, none⟩), .pointer (some ⟨U, 0, none⟩)] w (Ret (.int .i64 (tableErr cs qs i)) w) := by
  have hi : i < qs.length := (List.getElem?_eq_some_iff.1 hq).1
  have hBs : B < w.heap.size := lt_of_cell hcv
  have hUs : U < w.heap.size := lt_of_cell hU
  have hql : q.q.length = 64 := by
    have := hQ.len (quantRow q) (List.mem_map.2 ⟨q, List.mem_of_getElem? hq, rfl⟩)
    simpa [quantRow] using this
  have hil : i ≤ 140737488355328 := by
    have := hQ.form
    obtain ⟨_, _, _, _, ⟨_, h⟩, _⟩ := this
    rw [List.length_map] at h
    omega
  have HE := Lib.hid (show tableErr cs qs i = if 0 ≤ q.pl ∧ q.pl < 4 ∧ (i = 0 ∨ (qs.map (·.pl)).getD (i - 1) 0 < q.pl) ∧ (q.q.any fun n => (0 : Int) == n) = false ∧ usedAt cs q.pl = true then 0 else 5 from by simp only [tableErr, hq])
  go_enter Try.func114, Try.ntmps114
  go_wp2_with fail
  obtain ⟨w1, hw1⟩ : ∃ w1, w1 = w.alloc (.cells (quantRow q).toArray 39) := ⟨_, rfl⟩
  have hB1 : Below w.heap.size w w1 := by rw [hw1]; exact below_new _
  have hrow : ∀ j v, (quantRow q)[j]? = some v → w1.cell? ⟨w.heap.size, j, none⟩ = some v := fun j v hv => by
    rw [hw1]; exact new_cell (Below.refl _ _) j (by simpa using hv)
  rw [← hw1]
  have hA0 : w1.cell? ⟨w.heap.size, 0, none⟩ = some (.int .i64 q.pl) := hrow 0 _ rfl
  have hqv1 : w1.cell? ⟨B, 3, none⟩ = some qv := old_cell hB1 hqv
  have hU1 := Lib.hid (show ∀ w', Below w1.heap.size w1 w' → w'.cell? ⟨U, 0, none⟩ = some (.func (.func 111) #[] #[.pointer (some ⟨B, 0, none⟩)]) from fun w' h => old_cell h (old_cell hB1 hU))
  have hA1 := Lib.hid (show ∀ w', Below w1.heap.size w1 w' → w'.cell? ⟨w.heap.size, 0, none⟩ = some (.int .i64 q.pl) from fun w' h => old_cell h hA0)
  have hcv1 := Lib.hid (show ∀ w', Below w1.heap.size w1 w' → w'.cell? ⟨B, 2, none⟩ = some cv from fun w' h => old_cell h (old_cell hB1 hcv))
  have hRq := Lib.hid (show ∀ w', Below w1.heap.size w1 w' → RdL w' 1 (.slice (some ⟨w.heap.size, 1, none⟩) 64 64) (q.q.map fun n => [.int .u16 n]) from fun w' h => by
    refine ⟨⟨some ⟨w.heap.size, 1, none⟩, 64, by rw [List.length_map, hql], by rw [List.length_map, hql]; omega, ⟨by unfold maxLen; omega, by rw [List.length_map, hql]; omega⟩, fun _ => ⟨w.heap.size, 1, rfl, ?_⟩⟩, ?_, ?_⟩
    · intro j x hj l u hu
      rw [List.getElem?_map] at hj
      obtain ⟨n, hn, rfl⟩ := Option.map_eq_some_iff.1 hj
      have : l = 0 := by
        cases l with
        | zero => rfl
        | succ l => simp at hu
      subst this
      have hu : u = .int .u16 n := by simpa using hu.symm
      subst hu
      have := old_cell h (hrow (j + 1) (.int .u16 n) (by simp [quantRow, ints, hn]))
      rw [show 1 + j * 1 + 0 = j + 1 from by omega]
      exact this
    · intro x hx
      obtain ⟨n, _, rfl⟩ := List.mem_map.1 hx
      rfl
    · intro x hx v hv
      obtain ⟨n, _, rfl⟩ := List.mem_map.1 hx
      have : v = .int .u16 n := by simpa using hv
      subst this
      rfl)
  have hR1 := Lib.hid (show ∀ w', Below w1.heap.size w1 w' → RdL w' 7 cv (cs.map compRow) from fun w' h => (hR.below hB1).below h)
  have hB1s : w.heap.size < w1.heap.size := by rw [hw1]; simp
  clear hrow hw1 hcv hqv hU hR hql
  have hU0 : ∀ (args : Array Value) (w : World), (callFunc 111 args).run Try.prog w = .ok (.enter 111 args) w := enters_of Try.func111 (by kernel_rfl) rfl
  have HB1 := Lib.hid hB1
  clear hil hB1
  by_cases h0 : 0 ≤ q.pl
  · by_cases h4 : q.pl < 4
    · cases i with
      | zero =>
        clear hQ
        have HE2 := Lib.hid (show tableErr cs qs 0 = if (q.q.any fun n => (0 : Int) == n) = false ∧ usedAt cs q.pl = true then 0 else 5 from by rw [HE.out]; simp [h0, h4])
        clear HE hq hi
        go_quiet (fail)
        have hB2 : Below w1.heap.size w1 (w1.drewN nq) := below_drewN (Below.refl _ _) nq
        clear hA0 hqv1
        generalize w1.drewN nq = w2 at *
        have HB2 := Lib.hid hB2; clear hB2
        go_wp2_with fail
        refine (contains_u16 0 (hRq.out w2 HB2.out)).mono ?_
        rintro e w3 ⟨rfl, hB3⟩
        have hB3' : Below w1.heap.size w1 w3 := HB2.out.trans (hB3.mono HB2.out.size)
        cases hz : (q.q.any fun n => (0 : Int) == n) with
        | true =>
          have HZ := Lib.hid hz; clear hz
          clear hB3
          have HB3 := Lib.hid hB3'; clear hB3'
          go_wp2_with (go_at_call 110; refine (test_any _ _ _).mono ?_; rintro e w4 ⟨rfl, hB4⟩)
          go_ret
          exact ⟨ret_int (by rw [HE2.out, HZ.out]; simp [testE]), HB1.out.trans ((HB3.out.trans (hB4.mono HB3.out.size)).mono HB1.out.size)⟩
        | false =>
          have HZ := Lib.hid hz; clear hz
          clear hB3
          have hU3 := hU1.out w3 hB3'
          have hA3 := hA1.out w3 hB3'
          have HB3 := Lib.hid hB3'; clear hB3'
          go_wp2_with fail
          refine (tables1_any _ B cv cs q.pl (hR1.out w3 HB3.out) (hcv1.out w3 HB3.out)).mono ?_
          rintro e w4 ⟨rfl, hB4⟩
          have hB4' : Below w1.heap.size w1 w4 := HB3.out.trans (hB4.mono HB3.out.size)
          clear hB4 hU3 hA3
          have HB4 := Lib.hid hB4'; clear hB4'
          go_wp2_with (go_at_call 110; refine (test_any _ _ _).mono ?_; rintro e w5 ⟨rfl, hB5⟩)
          go_ret
          exact ⟨ret_int (by rw [HE2.out, HZ.out]; simp [testE]), HB1.out.trans ((HB4.out.trans (hB5.mono HB4.out.size)).mono HB1.out.size)⟩
      | succ i =>
        obtain ⟨q0, hq0⟩ : ∃ q0, qs[i]? = some q0 := ⟨_, List.getElem?_eq_getElem (by omega)⟩
        have hg : (qs.map (·.pl)).getD i 0 = q0.pl := by simp [List.getD_eq_getElem?_getD, hq0]
        obtain ⟨⟨p, cap, rfl, hcap, hcm, hx⟩, hk, ho⟩ := hQ
        obtain ⟨b, o, rfl, hx1⟩ := hx (fun e => by rw [List.map_eq_nil_iff] at e; rw [e] at hi; simp at hi)
        rw [List.length_map] at hcap hcm hqv1
        have hp := old_cell HB1.out (hx1 i (quantRow q0) (by simp [hq0]) 0 _ rfl)
        rw [Nat.add_zero] at hp
        have hk1 : (i : Int) < (qs.length : Int) := by omega
        have hm : qs.length ≤ 140737488355328 := hcm.2
        have hne : (((i : Int) + 1) == 0) = false := by rw [beq_eq_false_iff_ne]; omega
        have hne' : (((i + 1 : Nat) : Int) == 0) = false := by rw [beq_eq_false_iff_ne]; omega
        by_cases hlt : q0.pl < q.pl
        · have HE2 := Lib.hid (show tableErr cs qs (i + 1) = if (q.q.any fun n => (0 : Int) == n) = false ∧ usedAt cs q.pl = true then 0 else 5 from by rw [HE.out]; simp only [Nat.add_sub_cancel, hg]; simp [h0, h4, hlt])
          clear HE hq hi hcap hcm hx hx1 hk ho hg hq0
          go_quiet (fail)
          have hB2 : Below w1.heap.size w1 (w1.drewN nq) := below_drewN (Below.refl _ _) nq
          clear hA0 hqv1
          generalize w1.drewN nq = w2 at *
          have HB2 := Lib.hid hB2; clear hB2
          go_wp2_with fail
          refine (contains_u16 0 (hRq.out w2 HB2.out)).mono ?_
          rintro e w3 ⟨rfl, hB3⟩
          have hB3' : Below w1.heap.size w1 w3 := HB2.out.trans (hB3.mono HB2.out.size)
          cases hz : (q.q.any fun n => (0 : Int) == n) with
          | true =>
            have HZ := Lib.hid hz; clear hz
            clear hB3
            have HB3 := Lib.hid hB3'; clear hB3'
            go_wp2_with (go_at_call 110; refine (test_any _ _ _).mono ?_; rintro e w4 ⟨rfl, hB4⟩)
            go_ret
            exact ⟨ret_int (by rw [HE2.out, HZ.out]; simp [testE]), HB1.out.trans ((HB3.out.trans (hB4.mono HB3.out.size)).mono HB1.out.size)⟩
          | false =>
            have HZ := Lib.hid hz; clear hz
            clear hB3
            have hU3 := hU1.out w3 hB3'
            have hA3 := hA1.out w3 hB3'
            have HB3 := Lib.hid hB3'; clear hB3'
            go_wp2_with fail
            refine (tables1_any _ B cv cs q.pl (hR1.out w3 HB3.out) (hcv1.out w3 HB3.out)).mono ?_
            rintro e w4 ⟨rfl, hB4⟩
            have hB4' : Below w1.heap.size w1 w4 := HB3.out.trans (hB4.mono HB3.out.size)
            clear hB4 hU3 hA3
            have HB4 := Lib.hid hB4'; clear hB4'
            go_wp2_with (go_at_call 110; refine (test_any _ _ _).mono ?_; rintro e w5 ⟨rfl, hB5⟩)
            go_ret
            exact ⟨ret_int (by rw [HE2.out, HZ.out]; simp [testE]), HB1.out.trans ((HB4.out.trans (hB5.mono HB4.out.size)).mono HB1.out.size)⟩
        · have HE2 := Lib.hid (show tableErr cs qs (i + 1) = 5 from by rw [HE.out]; simp only [Nat.add_sub_cancel, hg]; simp [hlt])
          clear HE hq hi hcap hcm hx hx1 hk ho hg hq0
          go_quiet (fail)
          have hB2 : Below w1.heap.size w1 (w1.drewN nq) := below_drewN (Below.refl _ _) nq
          clear hA0 hqv1
          generalize w1.drewN nq = w2 at *
          go_wp2_with (go_at_call 110; refine (test_any _ _ _).mono ?_; rintro e w3 ⟨rfl, hB3⟩)
          go_ret
          exact ⟨ret_int (by rw [HE2.out]; rfl), HB1.out.trans ((hB2.trans (hB3.mono hB2.size)).mono HB1.out.size)⟩
    · have HE2 := Lib.hid (show tableErr cs qs i = 5 from by rw [HE.out]; simp [h4])
      clear HE hq hi hQ
      go_quiet (fail)
      have hB2 : Below w1.heap.size w1 (w1.drewN nq) := below_drewN (Below.refl _ _) nq
      clear hA0 hqv1
      generalize w1.drewN nq = w2 at *
      go_wp2_with (go_at_call 110; refine (test_any _ _ _).mono ?_; rintro e w3 ⟨rfl, hB3⟩)
      go_ret
      exact ⟨ret_int (by rw [HE2.out]; rfl), HB1.out.trans ((hB2.trans (hB3.mono hB2.size)).mono HB1.out.size)⟩
  · have HE2 := Lib.hid (show tableErr cs qs i = 5 from by rw [HE.out]; simp [h0])
    clear HE hq hi hQ
    go_quiet (fail)
    have hB2 : Below w1.heap.size w1 (w1.drewN nq) := below_drewN (Below.refl _ _) nq
    clear hA0 hqv1
    generalize w1.drewN nq = w2 at *
    go_wp2_with (go_at_call 110; refine (test_any _ _ _).mono ?_; rintro e w3 ⟨rfl, hB3⟩)
    go_ret
    exact ⟨ret_int (by rw [HE2.out]; rfl), HB1.out.trans ((hB2.trans (hB3.mono hB2.size)).mono HB1.out.size)⟩
end Aq
end Go.Proofs.Ytaacpoadfdmfnaa
