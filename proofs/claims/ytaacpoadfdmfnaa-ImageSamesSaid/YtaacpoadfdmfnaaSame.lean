/-
  What plane.Same and image.Same answer: whether all numbers, blocks, tables and tags are alike.
-/
import Derived.Test.YtaacpoadfdmfnaaEqual
import Derived.Test.YtaacpoadfdmfnaaFew
import Derived.Test.YtaacpoadfdmfnaaBlk
namespace Go.Proofs.Ytaacpoadfdmfnaa
open Go Go.RowKit Go.Shelf
namespace Aq
/-- What a component, a table, a tag is as data. -/
def dataC (c : Comp) : Int × Int × Int × Int × Int × Int × List (List Int) := (c.id, c.h, c.v, c.q, c.cols, c.rows, c.bs)
def dataQ (q : Quant) : Int × List Int := (q.pl, q.q)
def dataT (t : Tag) : Int × List UInt8 := (t.kind, t.body.toList)
theorem all_getD {α β : Type} [BEq β] [LawfulBEq β] (f : α → β) (d : α) (x y : List α) : (x.length == y.length && (List.range x.length).all fun i => f (x.getD i d) == f (y.getD i d)) = (x.map f == y.map f) := by
  rw [Bool.eq_iff_iff]
  simp only [Bool.and_eq_true, beq_iff_eq, List.all_eq_true, List.mem_range]
  constructor
  · rintro ⟨h1, h2⟩
    apply List.ext_getElem (by simp [h1])
    intro i hi hj
    simp only [List.length_map] at hi hj
    have := h2 i hi
    simpa [List.getD_eq_getElem?_getD, List.getElem?_eq_getElem hi, List.getElem?_eq_getElem hj] using this
  · intro h
    have hl : x.length = y.length := by have := congrArg List.length h; simpa using this
    refine ⟨hl, fun i hi => ?_⟩
    have := congrArg (fun l => l[i]?) h
    simp only [List.getElem?_map, List.getElem?_eq_getElem hi, List.getElem?_eq_getElem (hl ▸ hi), Option.map_some, Option.some.injEq] at this
    simpa [List.getD_eq_getElem?_getD, List.getElem?_eq_getElem hi, List.getElem?_eq_getElem (hl ▸ hi)] using this
theorem infoi16 : ∃ i, Try.prog.info? 55 = some i := by
  have : (Try.prog.info? 55).map (·.size) = some 1 := by kernel_rfl
  obtain ⟨i, hi, _⟩ := Option.map_eq_some_iff.1 this
  exact ⟨i, hi⟩
theorem cells_i16 : Try.prog.cellsOf 55 = 1 := by kernel_rfl
theorem neq_block (w : World) (x y : List Int) (ha : x.length = 64) (hb : y.length = 64) : (binOp .neq 57 (.agg (blockRow x).toArray) (.agg (blockRow y).toArray)).run Try.prog w = .ok (.bool (!(x == y))) w := by
  obtain ⟨i, hi⟩ := infoi16
  exact run_neq_ints w Try.underlying57 Try.underlying55 hi cells_i16 x y ha hb
theorem eql_block (w : World) (x y : List Int) (ha : x.length = 64) (hb : y.length = 64) : (binOp .eql 57 (.agg (blockRow x).toArray) (.agg (blockRow y).toArray)).run Try.prog w = .ok (.bool (x == y)) w := by
  obtain ⟨i, hi⟩ := infoi16
  exact run_eql_ints w Try.underlying57 Try.underlying55 hi cells_i16 x y ha hb
theorem rd_len64 {w : World} {v : Value} {bs : List (List Int)} (h : RdL w 64 v (bs.map blockRow)) {b : List Int} (hb : b ∈ bs) : b.length = 64 := by
  have := h.len (blockRow b) (List.mem_map.2 ⟨b, hb, rfl⟩)
  simpa [blockRow] using this
/-- Whether two rows of blocks are alike. -/
theorem equalBs_any {w : World} {v1 v2 : Value} {x y : List (List Int)} (h1 : RdL w 64 v1 (x.map blockRow)) (h2 : RdL w 64 v2 (y.map blockRow)) : Calls Try.prog 144 #[v1, v2] w (Ret (.bool (x == y)) w) := by
  have := equal_Block h1 h2 (fun i => x.getD i [] == y.getD i []) (fun i r s hr hs w' => by
    rw [List.getElem?_map] at hr hs
    obtain ⟨b, hb, rfl⟩ := Option.map_eq_some_iff.1 hr
    obtain ⟨c, hc, rfl⟩ := Option.map_eq_some_iff.1 hs
    rw [neq_block w' b c (rd_len64 h1 (List.mem_of_getElem? hb)) (rd_len64 h2 (List.mem_of_getElem? hc))]
    simp [List.getD_eq_getElem?_getD, hb, hc])
  rw [List.length_map, List.length_map, all_getD (fun b => b) [] x y] at this
  simpa using this
set_option maxHeartbeats 1000000 in
theorem planeSame_any {w : World} {c1 r1 c2 r2 : Int} {v1 v2 : Value} {x y : List (List Int)} (h1 : RdL w 64 v1 (x.map blockRow)) (h2 : RdL w 64 v2 (y.map blockRow)) :
    Calls Try.prog 129 #[.agg #[.int .i64 c1, .int .i64 r1, v1], .agg #[.int .i64 c2, .int .i64 r2, v2]] w (Ret (.bool (c1 == c2 && (r1 == r2 && x == y))) w) := by
  obtain ⟨p1, a1, rfl, _⟩ := h1.form
  obtain ⟨p2, a2, rfl, _⟩ := h2.form
  have HE := Lib.hid (show ∀ w', Below w.heap.size w w' → Calls Try.prog 144 #[.slice p1 (x.map blockRow).length a1, .slice p2 (y.map blockRow).length a2] w' (Ret (.bool (x == y)) w') from fun w' hB => equalBs_any (h1.below hB) (h2.below hB))
  clear h1 h2
  generalize (x == y) = b3 at *
  rw [List.length_map, List.length_map] at HE ⊢
  cases hb1 : (c1 == c2)
  · go_enter Try.func129, Try.ntmps129
    go_wp2_with fail
    go_ret
    exact ⟨rfl, (below_new _).trans ((below_new _).mono (by simp))⟩
  · cases hb2 : (r1 == r2)
    · go_enter Try.func129, Try.ntmps129
      go_wp2_with fail
      go_ret
      exact ⟨rfl, (below_new _).trans ((below_new _).mono (by simp))⟩
    · go_enter Try.func129, Try.ntmps129
      go_wp2_with fail
      refine (HE.out _ ((below_new _).trans ((below_new _).mono (by simp)))).mono ?_
      rintro e w2 ⟨rfl, hB2⟩
      go_wp2_with fail
      go_ret
      exact ⟨rfl, ((below_new _).trans ((below_new _).mono (by simp))).trans (hB2.mono (by simp; omega))⟩
def sameC (a b : Comp) : Bool := a.id == b.id && (a.h == b.h && (a.v == b.v && (a.q == b.q && (a.cols == b.cols && (a.rows == b.rows && a.bs == b.bs)))))
theorem sameC_data (a b : Comp) : sameC a b = (dataC a == dataC b) := rfl
set_option maxHeartbeats 2000000 in
theorem sameComp_any {w : World} {a b : Comp} (h1 : RdL w 64 a.bv (a.bs.map blockRow)) (h2 : RdL w 64 b.bv (b.bs.map blockRow)) :
    Calls Try.prog 79 #[.agg (compRow a).toArray, .agg (compRow b).toArray] w (Ret (.bool (sameC a b)) w) := by
  obtain ⟨p1, a1, e1, _⟩ := h1.form
  obtain ⟨p2, a2, e2, _⟩ := h2.form
  have HP := Lib.hid (show ∀ w', Below w.heap.size w w' → Calls Try.prog 129 #[.agg #[.int .i64 a.cols, .int .i64 a.rows, a.bv], .agg #[.int .i64 b.cols, .int .i64 b.rows, b.bv]] w' (Ret (.bool (a.cols == b.cols && (a.rows == b.rows && a.bs == b.bs))) w') from fun w' hB => planeSame_any (h1.below hB) (h2.below hB))
  have HS := Lib.hid (show sameC a b = (a.id == b.id && (a.h == b.h && (a.v == b.v && (a.q == b.q && (a.cols == b.cols && (a.rows == b.rows && a.bs == b.bs)))))) from rfl)
  rw [e1, e2] at HP
  simp only [compRow]
  rw [e1, e2]
  clear h1 h2 e1 e2
  generalize sameC a b = sc at *
  generalize (a.cols == b.cols && (a.rows == b.rows && a.bs == b.bs)) = b5 at *
  rw [List.length_map, List.length_map] at HP ⊢
  have hBB : ∀ (o1 o2 : Obj), Below w.heap.size w ((w.alloc o1).alloc o2) := fun o1 o2 => (below_new _).trans ((below_new _).mono (by simp))
  have HBB := Lib.hid hBB
  clear hBB
  cases hb1 : (a.id == b.id)
  · rw [hb1] at HS
    go_enter Try.func79, Try.ntmps79
    go_wp2_with fail
    go_ret
    exact ⟨by rw [HS.out]; rfl, HBB.out _ _⟩
  · rw [hb1] at HS
    cases hb2 : (a.h == b.h)
    · rw [hb2] at HS
      go_enter Try.func79, Try.ntmps79
      go_wp2_with fail
      go_ret
      exact ⟨by rw [HS.out]; rfl, HBB.out _ _⟩
    · rw [hb2] at HS
      cases hb3 : (a.v == b.v)
      · rw [hb3] at HS
        go_enter Try.func79, Try.ntmps79
        go_wp2_with fail
        go_ret
        exact ⟨by rw [HS.out]; rfl, HBB.out _ _⟩
      · rw [hb3] at HS
        cases hb4 : (a.q == b.q)
        · rw [hb4] at HS
          go_enter Try.func79, Try.ntmps79
          go_wp2_with fail
          go_ret
          exact ⟨by rw [HS.out]; rfl, HBB.out _ _⟩
        · rw [hb4] at HS
          go_enter Try.func79, Try.ntmps79
          go_wp2_with fail
          refine (HP.out _ (HBB.out _ _)).mono ?_
          rintro e w2 ⟨rfl, hB2⟩
          go_wp2_with fail
          go_ret
          exact ⟨by rw [HS.out]; rfl, (HBB.out _ _).trans (hB2.mono (by simp; omega))⟩
set_option maxHeartbeats 2000000 in
theorem equalFunc_any {w : World} {v1 v2 : Value} {x y : List Comp} (h1 : RdL w 7 v1 (x.map compRow)) (h2 : RdL w 7 v2 (y.map compRow)) (hb1 : ∀ c, c ∈ x → RdL w 64 c.bv (c.bs.map blockRow)) (hb2 : ∀ c, c ∈ y → RdL w 64 c.bv (c.bs.map blockRow)) :
    Calls Try.prog 78 #[v1, v2, .func (.func 79) #[] #[]] w (Ret (.bool (x.map dataC == y.map dataC)) w) := by
  have HSC := Lib.hid (show ∀ i c d, x[i]? = some c → y[i]? = some d → ∀ w', Below w.heap.size w w' → Calls Try.prog 79 #[.agg (compRow c).toArray, .agg (compRow d).toArray] w' (Ret (.bool (dataC c == dataC d)) w') from fun i c d hc hd w' hB => sameComp_any ((hb1 c (List.mem_of_getElem? hc)).below hB) ((hb2 d (List.mem_of_getElem? hd)).below hB))
  have HBV1 := Lib.hid (show ∀ c, c ∈ x → ∃ p n cap, c.bv = .slice p n cap from fun c hc => by obtain ⟨p, cap, e, _⟩ := (hb1 c hc).form; exact ⟨_, _, _, e⟩)
  have HBV2 := Lib.hid (show ∀ c, c ∈ y → ∃ p n cap, c.bv = .slice p n cap from fun c hc => by obtain ⟨p, cap, e, _⟩ := (hb2 c hc).form; exact ⟨_, _, _, e⟩)
  clear hb1 hb2
  obtain ⟨⟨p1, cap1, rfl, hcap1, hcm1, hx1⟩, hk1, ho1⟩ := h1
  obtain ⟨⟨p2, cap2, rfl, hcap2, hcm2, hx2⟩, hk2, ho2⟩ := h2
  rw [List.length_map] at hcm1 hcm2 ⊢
  rw [List.length_map]
  have hn1 : x.length ≤ 140737488355328 := hcm1.2
  have hn2 : y.length ≤ 140737488355328 := hcm2.2
  have HX1 := Lib.hid hx1; have HX2 := Lib.hid hx2
  clear hcap1 hcm1 hcap2 hcm2 ho1 ho2 hk1 hk2 hx1 hx2
  by_cases hne : x.length = y.length
  · have hb0 : ((x.length : Int) != (y.length : Int)) = false := by rw [hne]; simp
    have HNE := Lib.hid hne
    clear hne
    go_enter Try.func78, Try.ntmps78
    go_wp2_with fail
    go_loopw [7, 8, 9, 17] (fun _ _ _ i wr => ∃ k : Nat, k ≤ x.length ∧ i = .int .i64 k ∧ Hid (Below w.heap.size w wr) ∧ Hid (∀ j c d, j < k → x[j]? = some c → y[j]? = some d → dataC c = dataC d)) (fun _ _ _ i wr => x.length - (intOf i).toNat)
    case atStart => exact ⟨0, by omega, rfl, Below.refl _ _, fun j c d hj => absurd hj (Nat.not_lt_zero _)⟩
    case round =>
      obtain ⟨k, hkn, rfl, HB, HE⟩ := hrel
      by_cases hlt : k < x.length
      · obtain ⟨c, hc⟩ : ∃ c, x[k]? = some c := ⟨_, List.getElem?_eq_getElem hlt⟩
        obtain ⟨d, hd⟩ : ∃ d, y[k]? = some d := ⟨_, List.getElem?_eq_getElem (by rw [← HNE.out]; exact hlt)⟩
        obtain ⟨b, o, rfl, hx⟩ := HX1.out (fun e => by rw [List.map_eq_nil_iff] at e; rw [e] at hc; simp at hc)
        obtain ⟨b', o', rfl, hx'⟩ := HX2.out (fun e => by rw [List.map_eq_nil_iff] at e; rw [e] at hd; simp at hd)
        have hr := rangeAt_below HB.out (hx k (compRow c) (by simp [hc]))
        have hr' := rangeAt_below HB.out (hx' k (compRow d) (by simp [hd]))
        obtain ⟨p6, n6, c6, e6⟩ := HBV1.out c (List.mem_of_getElem? hc)
        obtain ⟨p7, n7, c7, e7⟩ := HBV2.out d (List.mem_of_getElem? hd)
        have HSK := Lib.hid (HSC.out k c d hc hd)
        have r0 : wr.cell? ⟨b, o + k * 7, none⟩ = some (.int .i64 c.id) := hr 0 _ rfl
        have r1 : wr.cell? ⟨b, o + k * 7 + 1, none⟩ = some (.int .i64 c.h) := hr 1 _ rfl
        have r2 : wr.cell? ⟨b, o + k * 7 + 2, none⟩ = some (.int .i64 c.v) := hr 2 _ rfl
        have r3 : wr.cell? ⟨b, o + k * 7 + 3, none⟩ = some (.int .i64 c.q) := hr 3 _ rfl
        have r4 : wr.cell? ⟨b, o + k * 7 + 4, none⟩ = some (.int .i64 c.cols) := hr 4 _ rfl
        have r5 : wr.cell? ⟨b, o + k * 7 + 5, none⟩ = some (.int .i64 c.rows) := hr 5 _ rfl
        have r6 : wr.cell? ⟨b, o + k * 7 + 6, none⟩ = some (.slice p6 n6 c6) := by rw [← e6]; exact hr 6 _ rfl
        have s0 : wr.cell? ⟨b', o' + k * 7, none⟩ = some (.int .i64 d.id) := hr' 0 _ rfl
        have s1 : wr.cell? ⟨b', o' + k * 7 + 1, none⟩ = some (.int .i64 d.h) := hr' 1 _ rfl
        have s2 : wr.cell? ⟨b', o' + k * 7 + 2, none⟩ = some (.int .i64 d.v) := hr' 2 _ rfl
        have s3 : wr.cell? ⟨b', o' + k * 7 + 3, none⟩ = some (.int .i64 d.q) := hr' 3 _ rfl
        have s4 : wr.cell? ⟨b', o' + k * 7 + 4, none⟩ = some (.int .i64 d.cols) := hr' 4 _ rfl
        have s5 : wr.cell? ⟨b', o' + k * 7 + 5, none⟩ = some (.int .i64 d.rows) := hr' 5 _ rfl
        have s6 : wr.cell? ⟨b', o' + k * 7 + 6, none⟩ = some (.slice p7 n7 c7) := by rw [← e7]; exact hr' 6 _ rfl
        have hb : b < wr.heap.size := lt_of_cell r0
        have hb' : b' < wr.heap.size := lt_of_cell s0
        simp only [compRow] at HSK
        rw [e6, e7] at HSK
        have HCC := Lib.hid hc; have HDD := Lib.hid hd
        have hk1 : (k : Int) < (x.length : Int) := by omega
        have hk2 : (k : Int) < (y.length : Int) := by have := HNE.out; omega
        have HBB := Lib.hid (show ∀ (o1 o2 : Obj), Below w.heap.size w ((wr.alloc o1).alloc o2) from fun o1 o2 => (HB.out.alloc HB.out.size _).alloc (by have := HB.out.size; simp; omega) _)
        clear hc hd hx hx' hr hr' e6 e7
        go_wp2_with fail
        refine (HSK.out _ (HBB.out _ _)).mono ?_
        rintro e w2 ⟨rfl, hB2⟩
        have HB2 := Lib.hid ((HBB.out _ _).trans (hB2.mono (by have := HB.out.size; simp; omega)))
        cases hz : (dataC c == dataC d) with
        | true =>
          have HZ := Lib.hid (show dataC c = dataC d from by simpa using hz)
          clear hz hB2
          go_wp2_with fail
          go_roundw
          case rel => exact ⟨k + 1, by omega, by go_num, HB2.out, fun j c' d' hj h1 h2 => by
            by_cases h : j = k
            · subst h
              rw [HCC.out] at h1
              rw [HDD.out] at h2
              cases h1; cases h2
              exact HZ.out
            · exact HE.out j c' d' (by omega) h1 h2⟩
          case measure => simp [intOf]; omega
        | false =>
          have HF := Lib.hid (show (x.map dataC == y.map dataC) = false from by
            rw [beq_eq_false_iff_ne]
            intro h
            have := congrArg (fun l => l[k]?) h
            simp only [List.getElem?_map, HCC.out, HDD.out, Option.map_some, Option.some.injEq] at this
            rw [this] at hz
            simp at hz)
          clear hz hB2
          go_wp2_with fail
          go_ret
          exact ⟨by rw [HF.out]; rfl, HB2.out⟩
      · obtain rfl : k = x.length := by omega
        have HF := Lib.hid (show (x.map dataC == y.map dataC) = true from by
          rw [beq_iff_eq]
          apply List.ext_getElem (by simp [HNE.out])
          intro i hi hj
          simp only [List.length_map] at hi hj
          rw [List.getElem_map, List.getElem_map]
          exact HE.out i _ _ hi (List.getElem?_eq_getElem hi) (List.getElem?_eq_getElem hj))
        go_wp2_with fail
        go_ret
        exact ⟨by rw [HF.out]; rfl, HB.out⟩
  · have hb0 : ((x.length : Int) != (y.length : Int)) = true := by simp; omega
    have HF := Lib.hid (show (x.map dataC == y.map dataC) = false from by
      rw [beq_eq_false_iff_ne]
      intro h
      have := congrArg List.length h
      simp only [List.length_map] at this
      exact hne this)
    clear hne
    go_enter Try.func78, Try.ntmps78
    go_wp2_with fail
    go_ret
    exact ⟨by rw [HF.out]; rfl, Below.refl _ _⟩
section
variable {P : Program} {w : World}
theorem run_part_str {e : TypeId} (he : P.underlying e = some .string) {xs : Array Value} {off : Nat} {v : Value} (hx : xs[off]? = some v) : (part e xs off).run P w = .ok v w := by
  simp [part, isAgg, run_underlying he, Sem.run_bind, hx]
/-- A struct of a number and a string. -/
theorem run_equalIn_numStr (d : Nat) {t : TypeId} {k1 : IntKind} {f1 f2 : Field} (hf : P.underlying t = some (.struct #[f1, f2])) (hs : P.stoodInHeld t = false)
    (hn1 : f1.name ≠ "_") (hn2 : f2.name ≠ "_") (ho1 : f1.offset = 0) (ho2 : f2.offset = 1) (h1 : P.underlying f1.type = some (.int k1)) (h2 : P.underlying f2.type = some .string) (x y : Int) (a b : ByteArray) :
    (Op.equalIn (d + 3) t (.agg #[.int k1 x, .string a]) (.agg #[.int k1 y, .string b])).run P w = .ok (x == y && a.toList == b.toList) w := by
  have hfo : P.fieldsOf t = #[f1, f2] := by simp [Program.fieldsOf, hf]
  rw [run_equalIn_struct w (d + 2) t _ _ (by rw [hfo]; exact hf) hs, hfo]
  have p1 := run_part_int (P := P) w h1 (xs := #[.int k1 x, .string a]) (off := 0) (v := .int k1 x) rfl
  have p2 := run_part_int (P := P) w h1 (xs := #[.int k1 y, .string b]) (off := 0) (v := .int k1 y) rfl
  have q1 := run_part_str (P := P) (w := w) h2 (xs := #[.int k1 x, .string a]) (off := 1) (v := .string a) rfl
  have q2 := run_part_str (P := P) (w := w) h2 (xs := #[.int k1 y, .string b]) (off := 1) (v := .string b) rfl
  have e1 := run_equalIn_int (P := P) w (d + 1) f1.type k1 k1 x y h1
  have e2 := run_equalIn_string (P := P) w (d + 1) f2.type a b h2
  cases hxy : (x == y)
  · simp [Op.eqFields, Sem.run_bind, hn1, ho1, p1, p2, e1, hxy]
  · cases hab : (a.toList == b.toList) <;> simp [Op.eqFields, Sem.run_bind, hn1, hn2, ho1, ho2, p1, p2, q1, q2, e1, e2, hxy, hab]
end
theorem stoodQ : Try.prog.stoodInHeld 39 = false := by kernel_rfl
theorem stoodT : Try.prog.stoodInHeld 104 = false := by kernel_rfl
theorem infou16' : ∃ i, Try.prog.info? 34 = some i := by
  have : (Try.prog.info? 34).map (·.size) = some 1 := by kernel_rfl
  obtain ⟨i, hi, _⟩ := Option.map_eq_some_iff.1 this
  exact ⟨i, hi⟩
theorem infou64' : ∃ i, Try.prog.info? 35 = some i ∧ i.size = 64 := by
  have : (Try.prog.info? 35).map (·.size) = some 64 := by kernel_rfl
  obtain ⟨i, hi, h⟩ := Option.map_eq_some_iff.1 this
  exact ⟨i, hi, h⟩
theorem cells_u16' : Try.prog.cellsOf 34 = 1 := by kernel_rfl
theorem neq_quant (w : World) (a b : Quant) (ha : a.q.length = 64) (hb : b.q.length = 64) : (binOp .neq 39 (.agg (quantRow a).toArray) (.agg (quantRow b).toArray)).run Try.prog w = .ok (.bool (!(dataQ a == dataQ b))) w := by
  obtain ⟨i, hi⟩ := infou16'
  obtain ⟨j, hj, hjs⟩ := infou64'
  have h := run_equalIn_numArr (P := Try.prog) w 9997 Try.underlying39 stoodQ (by decide) (by decide) rfl rfl Try.underlying3 rfl Try.underlying35 hj hjs Try.underlying34 hi cells_u16' a.pl b.pl a.q b.q ha hb
  simp only [binOp]
  simp only [quantRow]
  have hb' : (a.pl == b.pl && a.q == b.q) = (dataQ a == dataQ b) := rfl
  rw [hb'] at h
  simp [Op.equal, Op.maxDepth, h]
theorem neq_tag (w : World) (a b : Tag) : (binOp .neq 104 (.agg (tagRow a).toArray) (.agg (tagRow b).toArray)).run Try.prog w = .ok (.bool (!(dataT a == dataT b))) w := by
  have h := run_equalIn_numStr (P := Try.prog) (w := w) 9997 Try.underlying104 stoodT (by decide) (by decide) rfl rfl Try.underlying3 Try.underlying9 a.kind b.kind a.body b.body
  simp only [binOp]
  simp only [tagRow]
  have hb' : (a.kind == b.kind && a.body.toList == b.body.toList) = (dataT a == dataT b) := rfl
  rw [hb'] at h
  simp [Op.equal, Op.maxDepth, h]
theorem equalQ_any {w : World} {v1 v2 : Value} {x y : List Quant} (h1 : RdL w 65 v1 (x.map quantRow)) (h2 : RdL w 65 v2 (y.map quantRow)) : Calls Try.prog 80 #[v1, v2] w (Ret (.bool (x.map dataQ == y.map dataQ)) w) := by
  have hl : ∀ {v : Value} {l : List Quant} (_ : RdL w 65 v (l.map quantRow)) (q : Quant), q ∈ l → q.q.length = 64 := fun h q hq => by
    have := h.len (quantRow q) (List.mem_map.2 ⟨q, hq, rfl⟩)
    simpa [quantRow] using this
  have := equal_Quant h1 h2 (fun i => dataQ (x.getD i ⟨0, []⟩) == dataQ (y.getD i ⟨0, []⟩)) (fun i r s hr hs w' => by
    rw [List.getElem?_map] at hr hs
    obtain ⟨b, hb, rfl⟩ := Option.map_eq_some_iff.1 hr
    obtain ⟨c, hc, rfl⟩ := Option.map_eq_some_iff.1 hs
    rw [neq_quant w' b c (hl h1 b (List.mem_of_getElem? hb)) (hl h2 c (List.mem_of_getElem? hc))]
    simp [List.getD_eq_getElem?_getD, hb, hc])
  rw [List.length_map, List.length_map, all_getD dataQ ⟨0, []⟩ x y] at this
  exact this
theorem equalT_any {w : World} {v1 v2 : Value} {x y : List Tag} (h1 : RdL w 2 v1 (x.map tagRow)) (h2 : RdL w 2 v2 (y.map tagRow)) : Calls Try.prog 81 #[v1, v2] w (Ret (.bool (x.map dataT == y.map dataT)) w) := by
  have := equal_Tag h1 h2 (fun i => dataT (x.getD i ⟨0, ByteArray.empty⟩) == dataT (y.getD i ⟨0, ByteArray.empty⟩)) (fun i r s hr hs w' => by
    rw [List.getElem?_map] at hr hs
    obtain ⟨b, hb, rfl⟩ := Option.map_eq_some_iff.1 hr
    obtain ⟨c, hc, rfl⟩ := Option.map_eq_some_iff.1 hs
    rw [neq_tag w' b c]
    simp [List.getD_eq_getElem?_getD, hb, hc])
  rw [List.length_map, List.length_map, all_getD dataT ⟨0, ByteArray.empty⟩ x y] at this
  exact this
/-- Whether two images are alike. -/
def sameI (W H : Int) (cs : List Comp) (qs : List Quant) (ts : List Tag) (W' H' : Int) (cs' : List Comp) (qs' : List Quant) (ts' : List Tag) : Bool :=
  W == W' && (H == H' && (cs.map dataC == cs'.map dataC && (qs.map dataQ == qs'.map dataQ && ts.map dataT == ts'.map dataT)))
set_option maxHeartbeats 2000000 in
theorem imageSame_any {w : World} {W H W' H' : Int} {cv qv tv cv' qv' tv' : Value} {cs cs' : List Comp} {qs qs' : List Quant} {ts ts' : List Tag} (h1 : RdImg w cv qv tv cs qs ts) (h2 : RdImg w cv' qv' tv' cs' qs' ts') :
    Calls Try.prog 29 #[.agg #[.int .i64 W, .int .i64 H, cv, qv, tv], .agg #[.int .i64 W', .int .i64 H', cv', qv', tv']] w (Ret (.bool (sameI W H cs qs ts W' H' cs' qs' ts')) w) := by
  have HS := Lib.hid (show sameI W H cs qs ts W' H' cs' qs' ts' = (W == W' && (H == H' && (cs.map dataC == cs'.map dataC && (qs.map dataQ == qs'.map dataQ && ts.map dataT == ts'.map dataT)))) from rfl)
  have HC := Lib.hid (show ∀ w', Below w.heap.size w w' → Calls Try.prog 78 #[cv, cv', .func (.func 79) #[] #[]] w' (Ret (.bool (cs.map dataC == cs'.map dataC)) w') from fun w' hB => equalFunc_any (h1.below hB).comps (h2.below hB).comps (h1.below hB).blocks (h2.below hB).blocks)
  have HQ := Lib.hid (show ∀ w', Below w.heap.size w w' → Calls Try.prog 80 #[qv, qv'] w' (Ret (.bool (qs.map dataQ == qs'.map dataQ)) w') from fun w' hB => equalQ_any (h1.below hB).quants (h2.below hB).quants)
  have HT := Lib.hid (show ∀ w', Below w.heap.size w w' → Calls Try.prog 81 #[tv, tv'] w' (Ret (.bool (ts.map dataT == ts'.map dataT)) w') from fun w' hB => equalT_any (h1.below hB).tags (h2.below hB).tags)
  obtain ⟨cp, cc, ecv, _⟩ := h1.comps.form
  obtain ⟨qp, qc, eqv, _⟩ := h1.quants.form
  obtain ⟨tp, tc, etv, _⟩ := h1.tags.form
  obtain ⟨cp', cc', ecv', _⟩ := h2.comps.form
  obtain ⟨qp', qc', eqv', _⟩ := h2.quants.form
  obtain ⟨tp', tc', etv', _⟩ := h2.tags.form
  clear h1 h2
  subst ecv eqv etv ecv' eqv' etv'
  generalize (cs.map compRow).length = n1 at *
  generalize (cs'.map compRow).length = n2 at *
  generalize (qs.map quantRow).length = n3 at *
  generalize (qs'.map quantRow).length = n4 at *
  generalize (ts.map tagRow).length = n5 at *
  generalize (ts'.map tagRow).length = n6 at *
  generalize sameI W H cs qs ts W' H' cs' qs' ts' = sc at *
  generalize (cs.map dataC == cs'.map dataC) = b3 at *
  generalize (qs.map dataQ == qs'.map dataQ) = b4 at *
  generalize (ts.map dataT == ts'.map dataT) = b5 at *
  obtain ⟨w2, hw2⟩ : ∃ w2, w2 = (w.alloc (.cells #[.int .i64 W, .int .i64 H, .slice cp n1 cc, .slice qp n3 qc, .slice tp n5 tc] 26)).alloc (.cells #[.int .i64 W', .int .i64 H', .slice cp' n2 cc', .slice qp' n4 qc', .slice tp' n6 tc'] 26) := ⟨_, rfl⟩
  have hB2 : Below w.heap.size w w2 := by rw [hw2]; exact (below_new _).trans ((below_new _).mono (by simp))
  have B1 : w2.heap[w.heap.size]? = some (.cells #[.int .i64 W, .int .i64 H, .slice cp n1 cc, .slice qp n3 qc, .slice tp n5 tc] 26 (0, 0)) := by rw [hw2]; exact blk_old (heap_alloc_new _ _) _
  have B2 : w2.heap[w.heap.size + 1]? = some (.cells #[.int .i64 W', .int .i64 H', .slice cp' n2 cc', .slice qp' n4 qc', .slice tp' n6 tc'] 26 (0, 0)) := by rw [hw2]; exact heap_new (by simp)
  have HBL := Lib.hid (show ∀ w', Below w2.heap.size w2 w' → w'.heap[w.heap.size]? = some (.cells #[.int .i64 W, .int .i64 H, .slice cp n1 cc, .slice qp n3 qc, .slice tp n5 tc] 26 (0, 0)) ∧ w'.heap[w.heap.size + 1]? = some (.cells #[.int .i64 W', .int .i64 H', .slice cp' n2 cc', .slice qp' n4 qc', .slice tp' n6 tc'] 26 (0, 0)) ∧ Below w.heap.size w w' from fun w' hB => ⟨blk_below B1 hB, blk_below B2 hB, hB2.trans (hB.mono hB2.size)⟩)
  obtain ⟨z1, ⟨a0, a1, a2, a3, a4⟩, _⟩ := blk5 B1
  obtain ⟨z2, ⟨c0, c1, c2, c3, c4⟩, _⟩ := blk5 B2
  have HB2 := Lib.hid hB2
  clear B1 B2 hB2
  cases hb1 : (W == W')
  · rw [hb1] at HS
    go_enter Try.func29, Try.ntmps29
    go_wp2_with fail
    rw [← hw2]
    clear hw2
    go_wp2_with fail
    go_ret
    exact ⟨by rw [HS.out]; rfl, HB2.out⟩
  · rw [hb1] at HS
    cases hb2 : (H == H')
    · rw [hb2] at HS
      go_enter Try.func29, Try.ntmps29
      go_wp2_with fail
      rw [← hw2]
      clear hw2
      go_wp2_with fail
      go_ret
      exact ⟨by rw [HS.out]; rfl, HB2.out⟩
    · rw [hb2] at HS
      go_enter Try.func29, Try.ntmps29
      go_wp2_with fail
      rw [← hw2]
      clear hw2
      refine (HC.out _ HB2.out).mono ?_
      rintro e w3 ⟨rfl, hB3⟩
      obtain ⟨y1, y2, hB23⟩ := HBL.out w3 hB3
      have HB3 := Lib.hid hB3
      clear z1 a0 a1 a2 a3 a4 z2 c0 c1 c2 c3 c4
      obtain ⟨z1, ⟨a0, a1, a2, a3, a4⟩, _⟩ := blk5 y1
      obtain ⟨z2, ⟨c0, c1, c2, c3, c4⟩, _⟩ := blk5 y2
      have HB23 := Lib.hid hB23
      clear y1 y2 hB23 hB3
      cases b3
      · go_wp2_with fail
        go_ret
        exact ⟨by rw [HS.out]; rfl, HB23.out⟩
      · go_wp2_with fail
        refine (HQ.out _ HB23.out).mono ?_
        rintro e w4 ⟨rfl, hB4⟩
        have hB24 := HB3.out.trans (hB4.mono HB3.out.size)
        obtain ⟨y1, y2, hB25⟩ := HBL.out w4 hB24
        clear z1 a0 a1 a2 a3 a4 z2 c0 c1 c2 c3 c4
        obtain ⟨z1, ⟨a0, a1, a2, a3, a4⟩, _⟩ := blk5 y1
        obtain ⟨z2, ⟨c0, c1, c2, c3, c4⟩, _⟩ := blk5 y2
        have HB24 := Lib.hid hB24
        have HB25 := Lib.hid hB25
        clear y1 y2 hB4 hB24 hB25
        cases b4
        · go_wp2_with fail
          go_ret
          exact ⟨by rw [HS.out]; rfl, HB25.out⟩
        · go_wp2_with fail
          refine (HT.out _ HB25.out).mono ?_
          rintro e w5 ⟨rfl, hB5⟩
          go_wp2_with fail
          go_ret
          exact ⟨by rw [HS.out]; rfl, HB25.out.trans (hB5.mono HB25.out.size)⟩
end Aq
end Go.Proofs.Ytaacpoadfdmfnaa
