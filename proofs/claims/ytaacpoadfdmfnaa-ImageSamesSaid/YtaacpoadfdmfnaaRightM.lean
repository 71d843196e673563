/-
  What image.Right answers: the first error of all.
-/
import Derived.Test.YtaacpoadfdmfnaaRight
namespace Go.Proofs.Ytaacpoadfdmfnaa
open Go Go.RowKit Go.Shelf
namespace Aq
def imgErrs (W H : Int) (cs : List Comp) (qs : List Quant) (ts : List Tag) : List Int :=
  [newErr W H (partsOf cs), firstE cs.length (compErr cs), tablesErr cs qs, planesErr W H cs, testE (cs.all (fun c => c.bs.all rangedB)) 10, tagsErr ts]
def imgErr (W H : Int) (cs : List Comp) (qs : List Quant) (ts : List Tag) : Int := firstE 6 (fun i => (imgErrs W H cs qs ts).getD i 0)
/-- The six tests, in order. -/
def six : List FuncId := [57, 59, 60, 61, 62, 63]
theorem enters_six : ∀ f, f ∈ six → ∀ args w, (callFunc f args).run Try.prog w = .ok (.enter f args) w := by
  intro f hf
  simp only [six, List.mem_cons, List.not_mem_nil, or_false] at hf
  rcases hf with rfl | rfl | rfl | rfl | rfl | rfl
  · exact enters_of Try.func57 (by kernel_rfl) rfl
  · exact enters_of Try.func59 (by kernel_rfl) rfl
  · exact enters_of Try.func60 (by kernel_rfl) rfl
  · exact enters_of Try.func61 (by kernel_rfl) rfl
  · exact enters_of Try.func62 (by kernel_rfl) rfl
  · exact enters_of Try.func63 (by kernel_rfl) rfl
theorem six_any {w : World} {W H : Int} {cp qp tp : Option Addr} {cl cc ql qc tl tc : Nat} {cs : List Comp} {qs : List Quant} {ts : List Tag} (hR : RdImg w (.slice cp cl cc) (.slice qp ql qc) (.slice tp tl tc) cs qs ts) (hlen : cs.length ≤ 1000)
    (i : Nat) (f : FuncId) (hf : six[i]? = some f) :
    Calls Try.prog f #[.agg #[.int .i64 W, .int .i64 H, .slice cp cl cc, .slice qp ql qc, .slice tp tl tc]] w (Ret (.int .i64 ((imgErrs W H cs qs ts).getD i 0)) w) := by
  match i, hf with
  | 0, hf => cases hf; exact right2F_any fun w' hB => frame_any (hR.below hB).comps hlen (fun c hc => by obtain ⟨p, cap, e⟩ := hR.bvs c hc; exact ⟨_, _, _, e⟩)
  | 1, hf => cases hf; exact comps_any hR
  | 2, hf => cases hf; exact tables_any hR
  | 3, hf => cases hf; exact planes_any hR hlen
  | 4, hf => cases hf; exact blocks_any hR
  | 5, hf => cases hf; exact tags_any hR
  | n + 6, hf => simp [six] at hf
set_option maxHeartbeats 1000000 in
theorem all_any {w : World} (b cap : Nat) (vs : List Value) (hN : vs.length = 6) (hx : ∀ i v, vs[i]? = some v → w.cell? ⟨b, i, none⟩ = some v) (E : Nat → Int)
    (hc : ∀ i x, vs[i]? = some x → ∃ a m, x = .func (.func 56) #[] #[.pointer a, .pointer m] ∧ ∀ w', Below w.heap.size w w' → Calls Try.prog 56 #[.pointer a, .pointer m] w' (Ret (.int .i64 (E i)) w')) :
    Calls Try.prog 58 #[.slice (some ⟨b, 0, none⟩) 6 cap] w (Ret (.int .i64 (firstE 6 E)) w) := by
  have HE := Lib.hid (each_func b 6 cap vs hN (by omega) hx (fun v hv => by
    obtain ⟨i, hi⟩ := List.getElem?_of_mem hv
    obtain ⟨a, m, e, _⟩ := hc i v hi
    exact ⟨_, _, e⟩) 105 #[] (enters_of Try.func105 (by kernel_rfl) rfl) E (fun i x hxi w' hw' => by
    obtain ⟨a, m, rfl, h⟩ := hc i x hxi
    exact all1_any i a m (E i) (h w' hw')))
  clear hx hc
  go_enter Try.func58, Try.ntmps58
  go_wp2_with fail
  refine HE.out.mono ?_
  rintro e w2 ⟨rfl, hB2⟩
  go_wp2_with fail
  go_ret
  exact ⟨rfl, hB2⟩
set_option maxHeartbeats 1000000 in
theorem right_main {w : World} {W H : Int} {cv qv tv : Value} {cs : List Comp} {qs : List Quant} {ts : List Tag} (hR : RdImg w cv qv tv cs qs ts) (hlen : cs.length ≤ 1000) :
    Calls Try.prog 20 #[.agg #[.int .i64 W, .int .i64 H, cv, qv, tv]] w (Ret (.int .i64 (imgErr W H cs qs ts)) w) := by
  obtain ⟨cp, cl, cc, ecv⟩ : ∃ p n cap, cv = .slice p n cap := by obtain ⟨p, cap, e, _⟩ := hR.comps.form; exact ⟨_, _, _, e⟩
  obtain ⟨qp, ql, qc, eqv⟩ : ∃ p n cap, qv = .slice p n cap := by obtain ⟨p, cap, e, _⟩ := hR.quants.form; exact ⟨_, _, _, e⟩
  obtain ⟨tp, tl, tc, etv⟩ : ∃ p n cap, tv = .slice p n cap := by obtain ⟨p, cap, e, _⟩ := hR.tags.form; exact ⟨_, _, _, e⟩
  subst ecv eqv etv
  obtain ⟨w1, e1⟩ : ∃ w1, w1 = w.alloc (.cells #[.int .i64 W, .int .i64 H, .slice cp cl cc, .slice qp ql qc, .slice tp tl tc] 26) := ⟨_, rfl⟩
  have s1 : w1.heap.size = w.heap.size + 1 := by rw [e1]; simp
  have b1 : Below w.heap.size w w1 := by rw [e1]; exact below_new _
  have i1_0 := new_cell (w := w) (w2 := w1) (cs := #[.int .i64 W, .int .i64 H, .slice cp cl cc, .slice qp ql qc, .slice tp tl tc]) (t := 26) (by rw [e1]; exact Below.refl _ _) 0 rfl
  have i1_1 := new_cell (w := w) (w2 := w1) (cs := #[.int .i64 W, .int .i64 H, .slice cp cl cc, .slice qp ql qc, .slice tp tl tc]) (t := 26) (by rw [e1]; exact Below.refl _ _) 1 rfl
  have i1_2 := new_cell (w := w) (w2 := w1) (cs := #[.int .i64 W, .int .i64 H, .slice cp cl cc, .slice qp ql qc, .slice tp tl tc]) (t := 26) (by rw [e1]; exact Below.refl _ _) 2 rfl
  have i1_3 := new_cell (w := w) (w2 := w1) (cs := #[.int .i64 W, .int .i64 H, .slice cp cl cc, .slice qp ql qc, .slice tp tl tc]) (t := 26) (by rw [e1]; exact Below.refl _ _) 3 rfl
  have i1_4 := new_cell (w := w) (w2 := w1) (cs := #[.int .i64 W, .int .i64 H, .slice cp cl cc, .slice qp ql qc, .slice tp tl tc]) (t := 26) (by rw [e1]; exact Below.refl _ _) 4 rfl
  obtain ⟨w2, e2⟩ : ∃ w2, w2 = w1.alloc (.cells #[.func (.func 57) #[] #[]] 30) := ⟨_, rfl⟩
  have s2 : w2.heap.size = w.heap.size + 1 + 1 := by rw [e2]; simp [s1]
  have d2 : Below w1.heap.size w1 w2 := by rw [e2]; exact below_new _
  have b2 : Below w.heap.size w w2 := b1.trans (d2.mono b1.size)
  have i2_0 := old_cell d2 i1_0
  have i2_1 := old_cell d2 i1_1
  have i2_2 := old_cell d2 i1_2
  have i2_3 := old_cell d2 i1_3
  have i2_4 := old_cell d2 i1_4
  have f2_0 : w2.cell? ⟨w.heap.size + 1, 0, none⟩ = some (.func (.func 57) #[] #[]) := new_cell_at (w := w1) (w2 := w2) s1.symm (by rw [e2]; exact Below.refl _ _) 0 rfl
  obtain ⟨w3, e3⟩ : ∃ w3, w3 = w2.alloc (.cells #[.func (.func 59) #[] #[]] 30) := ⟨_, rfl⟩
  have s3 : w3.heap.size = w.heap.size + 1 + 1 + 1 := by rw [e3]; simp [s2]
  have d3 : Below w2.heap.size w2 w3 := by rw [e3]; exact below_new _
  have b3 : Below w.heap.size w w3 := b2.trans (d3.mono b2.size)
  have i3_0 := old_cell d3 i2_0
  have i3_1 := old_cell d3 i2_1
  have i3_2 := old_cell d3 i2_2
  have i3_3 := old_cell d3 i2_3
  have i3_4 := old_cell d3 i2_4
  have f3_0 := old_cell d3 f2_0
  have f3_1 : w3.cell? ⟨w.heap.size + 1 + 1, 0, none⟩ = some (.func (.func 59) #[] #[]) := new_cell_at (w := w2) (w2 := w3) s2.symm (by rw [e3]; exact Below.refl _ _) 0 rfl
  obtain ⟨w4, e4⟩ : ∃ w4, w4 = w3.alloc (.cells #[.func (.func 60) #[] #[]] 30) := ⟨_, rfl⟩
  have s4 : w4.heap.size = w.heap.size + 1 + 1 + 1 + 1 := by rw [e4]; simp [s3]
  have d4 : Below w3.heap.size w3 w4 := by rw [e4]; exact below_new _
  have b4 : Below w.heap.size w w4 := b3.trans (d4.mono b3.size)
  have i4_0 := old_cell d4 i3_0
  have i4_1 := old_cell d4 i3_1
  have i4_2 := old_cell d4 i3_2
  have i4_3 := old_cell d4 i3_3
  have i4_4 := old_cell d4 i3_4
  have f4_0 := old_cell d4 f3_0
  have f4_1 := old_cell d4 f3_1
  have f4_2 : w4.cell? ⟨w.heap.size + 1 + 1 + 1, 0, none⟩ = some (.func (.func 60) #[] #[]) := new_cell_at (w := w3) (w2 := w4) s3.symm (by rw [e4]; exact Below.refl _ _) 0 rfl
  obtain ⟨w5, e5⟩ : ∃ w5, w5 = w4.alloc (.cells #[.func (.func 61) #[] #[]] 30) := ⟨_, rfl⟩
  have s5 : w5.heap.size = w.heap.size + 1 + 1 + 1 + 1 + 1 := by rw [e5]; simp [s4]
  have d5 : Below w4.heap.size w4 w5 := by rw [e5]; exact below_new _
  have b5 : Below w.heap.size w w5 := b4.trans (d5.mono b4.size)
  have i5_0 := old_cell d5 i4_0
  have i5_1 := old_cell d5 i4_1
  have i5_2 := old_cell d5 i4_2
  have i5_3 := old_cell d5 i4_3
  have i5_4 := old_cell d5 i4_4
  have f5_0 := old_cell d5 f4_0
  have f5_1 := old_cell d5 f4_1
  have f5_2 := old_cell d5 f4_2
  have f5_3 : w5.cell? ⟨w.heap.size + 1 + 1 + 1 + 1, 0, none⟩ = some (.func (.func 61) #[] #[]) := new_cell_at (w := w4) (w2 := w5) s4.symm (by rw [e5]; exact Below.refl _ _) 0 rfl
  obtain ⟨w6, e6⟩ : ∃ w6, w6 = w5.alloc (.cells #[.func (.func 62) #[] #[]] 30) := ⟨_, rfl⟩
  have s6 : w6.heap.size = w.heap.size + 1 + 1 + 1 + 1 + 1 + 1 := by rw [e6]; simp [s5]
  have d6 : Below w5.heap.size w5 w6 := by rw [e6]; exact below_new _
  have b6 : Below w.heap.size w w6 := b5.trans (d6.mono b5.size)
  have i6_0 := old_cell d6 i5_0
  have i6_1 := old_cell d6 i5_1
  have i6_2 := old_cell d6 i5_2
  have i6_3 := old_cell d6 i5_3
  have i6_4 := old_cell d6 i5_4
  have f6_0 := old_cell d6 f5_0
  have f6_1 := old_cell d6 f5_1
  have f6_2 := old_cell d6 f5_2
  have f6_3 := old_cell d6 f5_3
  have f6_4 : w6.cell? ⟨w.heap.size + 1 + 1 + 1 + 1 + 1, 0, none⟩ = some (.func (.func 62) #[] #[]) := new_cell_at (w := w5) (w2 := w6) s5.symm (by rw [e6]; exact Below.refl _ _) 0 rfl
  obtain ⟨w7, e7⟩ : ∃ w7, w7 = w6.alloc (.cells #[.func (.func 63) #[] #[]] 30) := ⟨_, rfl⟩
  have s7 : w7.heap.size = w.heap.size + 1 + 1 + 1 + 1 + 1 + 1 + 1 := by rw [e7]; simp [s6]
  have d7 : Below w6.heap.size w6 w7 := by rw [e7]; exact below_new _
  have b7 : Below w.heap.size w w7 := b6.trans (d7.mono b6.size)
  have i7_0 := old_cell d7 i6_0
  have i7_1 := old_cell d7 i6_1
  have i7_2 := old_cell d7 i6_2
  have i7_3 := old_cell d7 i6_3
  have i7_4 := old_cell d7 i6_4
  have f7_0 := old_cell d7 f6_0
  have f7_1 := old_cell d7 f6_1
  have f7_2 := old_cell d7 f6_2
  have f7_3 := old_cell d7 f6_3
  have f7_4 := old_cell d7 f6_4
  have f7_5 : w7.cell? ⟨w.heap.size + 1 + 1 + 1 + 1 + 1 + 1, 0, none⟩ = some (.func (.func 63) #[] #[]) := new_cell_at (w := w6) (w2 := w7) s6.symm (by rw [e7]; exact Below.refl _ _) 0 rfl
  obtain ⟨vs, hvs⟩ : ∃ vs : List Value, vs = [.func (.func 56) #[] #[.pointer (some ⟨w.heap.size + 1, 0, none⟩), .pointer (some ⟨w.heap.size, 0, none⟩)], .func (.func 56) #[] #[.pointer (some ⟨w.heap.size + 1 + 1, 0, none⟩), .pointer (some ⟨w.heap.size, 0, none⟩)], .func (.func 56) #[] #[.pointer (some ⟨w.heap.size + 1 + 1 + 1, 0, none⟩), .pointer (some ⟨w.heap.size, 0, none⟩)], .func (.func 56) #[] #[.pointer (some ⟨w.heap.size + 1 + 1 + 1 + 1, 0, none⟩), .pointer (some ⟨w.heap.size, 0, none⟩)], .func (.func 56) #[] #[.pointer (some ⟨w.heap.size + 1 + 1 + 1 + 1 + 1, 0, none⟩), .pointer (some ⟨w.heap.size, 0, none⟩)], .func (.func 56) #[] #[.pointer (some ⟨w.heap.size + 1 + 1 + 1 + 1 + 1 + 1, 0, none⟩), .pointer (some ⟨w.heap.size, 0, none⟩)]] := ⟨_, rfl⟩
  obtain ⟨w8, e8⟩ : ∃ w8, w8 = w7.alloc (.cells vs.toArray 100) := ⟨_, rfl⟩
  have d8 : Below w7.heap.size w7 w8 := by rw [e8]; exact below_new _
  have b8 : Below w.heap.size w w8 := b7.trans (d8.mono b7.size)
  have i8_0 := old_cell d8 i7_0
  have i8_1 := old_cell d8 i7_1
  have i8_2 := old_cell d8 i7_2
  have i8_3 := old_cell d8 i7_3
  have i8_4 := old_cell d8 i7_4
  have f8_0 := old_cell d8 f7_0
  have f8_1 := old_cell d8 f7_1
  have f8_2 := old_cell d8 f7_2
  have f8_3 := old_cell d8 f7_3
  have f8_4 := old_cell d8 f7_4
  have f8_5 := old_cell d8 f7_5
  have hall := all_any (w := w8) (w.heap.size + 1 + 1 + 1 + 1 + 1 + 1 + 1) 6 vs (by rw [hvs]; rfl) (fun i v hv => new_cell_at (w := w7) (w2 := w8) s7.symm (by rw [e8]; exact Below.refl _ _) i (by simpa using hv)) (fun i => (imgErrs W H cs qs ts).getD i 0) (fun i x hx => by
    rw [hvs] at hx
    match i, hx with
    | 0, hx => cases hx; exact ⟨_, _, rfl, fun w' hw' => right11_any _ _ 57 W H _ _ _ _ _ _ _ _ _ _ (enters_six _ (by simp [six])) (old_cell hw' f8_0) (old_cell hw' i8_0) (old_cell hw' i8_1) (old_cell hw' i8_2) (old_cell hw' i8_3) (old_cell hw' i8_4) (six_any (hR.below (b8.trans (hw'.mono b8.size))) hlen 0 _ rfl)⟩
    | 1, hx => cases hx; exact ⟨_, _, rfl, fun w' hw' => right11_any _ _ 59 W H _ _ _ _ _ _ _ _ _ _ (enters_six _ (by simp [six])) (old_cell hw' f8_1) (old_cell hw' i8_0) (old_cell hw' i8_1) (old_cell hw' i8_2) (old_cell hw' i8_3) (old_cell hw' i8_4) (six_any (hR.below (b8.trans (hw'.mono b8.size))) hlen 1 _ rfl)⟩
    | 2, hx => cases hx; exact ⟨_, _, rfl, fun w' hw' => right11_any _ _ 60 W H _ _ _ _ _ _ _ _ _ _ (enters_six _ (by simp [six])) (old_cell hw' f8_2) (old_cell hw' i8_0) (old_cell hw' i8_1) (old_cell hw' i8_2) (old_cell hw' i8_3) (old_cell hw' i8_4) (six_any (hR.below (b8.trans (hw'.mono b8.size))) hlen 2 _ rfl)⟩
    | 3, hx => cases hx; exact ⟨_, _, rfl, fun w' hw' => right11_any _ _ 61 W H _ _ _ _ _ _ _ _ _ _ (enters_six _ (by simp [six])) (old_cell hw' f8_3) (old_cell hw' i8_0) (old_cell hw' i8_1) (old_cell hw' i8_2) (old_cell hw' i8_3) (old_cell hw' i8_4) (six_any (hR.below (b8.trans (hw'.mono b8.size))) hlen 3 _ rfl)⟩
    | 4, hx => cases hx; exact ⟨_, _, rfl, fun w' hw' => right11_any _ _ 62 W H _ _ _ _ _ _ _ _ _ _ (enters_six _ (by simp [six])) (old_cell hw' f8_4) (old_cell hw' i8_0) (old_cell hw' i8_1) (old_cell hw' i8_2) (old_cell hw' i8_3) (old_cell hw' i8_4) (six_any (hR.below (b8.trans (hw'.mono b8.size))) hlen 4 _ rfl)⟩
    | 5, hx => cases hx; exact ⟨_, _, rfl, fun w' hw' => right11_any _ _ 63 W H _ _ _ _ _ _ _ _ _ _ (enters_six _ (by simp [six])) (old_cell hw' f8_5) (old_cell hw' i8_0) (old_cell hw' i8_1) (old_cell hw' i8_2) (old_cell hw' i8_3) (old_cell hw' i8_4) (six_any (hR.below (b8.trans (hw'.mono b8.size))) hlen 5 _ rfl)⟩
    | n + 6, hx => simp at hx)
  have HALL := Lib.hid hall; have HB8 := Lib.hid b8
  clear i1_0 i1_1 i1_2 i1_3 i1_4 i2_0 i2_1 i2_2 i2_3 i2_4 i3_0 i3_1 i3_2 i3_3 i3_4 i4_0 i4_1 i4_2 i4_3 i4_4 i5_0 i5_1 i5_2 i5_3 i5_4 i6_0 i6_1 i6_2 i6_3 i6_4 i7_0 i7_1 i7_2 i7_3 i7_4 i8_0 i8_1 i8_2 i8_3 i8_4 f2_0 f3_0 f3_1 f4_0 f4_1 f4_2 f5_0 f5_1 f5_2 f5_3 f6_0 f6_1 f6_2 f6_3 f6_4 f7_0 f7_1 f7_2 f7_3 f7_4 f7_5 f8_0 f8_1 f8_2 f8_3 f8_4 f8_5 d2 d3 d4 d5 d6 d7 d8 b1 b2 b3 b4 b5 b6 b7 b8 s1 s2 s3 s4 s5 s6 s7 hall hR
  go_enter Try.func20, Try.ntmps20
  go_wp2_with (go_at_call 55; refine (right1F_any _ _ _).mono ?_; rintro e w' ⟨rfl, rfl⟩)
  refine calls_at (w := w8) (by rw [e8, hvs, e7, e6, e5, e4, e3, e2, e1]) ?_
  clear e8 hvs e7 e6 e5 e4 e3 e2 e1
  refine HALL.out.mono ?_
  rintro e w9 ⟨rfl, hB9⟩
  go_wp2_with fail
  go_ret
  exact ⟨rfl, HB8.out.trans (hB9.mono HB8.out.size)⟩
end Aq
end Go.Proofs.Ytaacpoadfdmfnaa
