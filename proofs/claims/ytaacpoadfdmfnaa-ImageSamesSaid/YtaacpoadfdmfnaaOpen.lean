/-
  An image that comes in, as a datum, lies in memory as the walks read it.
-/
import Derived.Test.YtaacpoadfdmfnaaRow
import Derived.Lib.SmallJoins
namespace Go.Proofs.Ytaacpoadfdmfnaa
open Go Go.RowKit Go.ChangeShapes Go.WideShapes Go.ChangeAt Go.Deep
namespace Aq
theorem cells_Image : Try.prog.cellsOf 26 = 5 := by kernel_rfl
theorem cells_Comp : Try.prog.cellsOf 63 = 7 := by kernel_rfl
theorem cells_Plane : Try.prog.cellsOf 61 = 3 := by kernel_rfl
theorem cells_Quant : Try.prog.cellsOf 39 = 65 := by kernel_rfl
theorem cells_Tag : Try.prog.cellsOf 104 = 2 := by kernel_rfl
theorem cells_Block : Try.prog.cellsOf 57 = 64 := by kernel_rfl
theorem cells_u16x64 : Try.prog.cellsOf 35 = 64 := by kernel_rfl
theorem cells_int : Try.prog.cellsOf 3 = 1 := by kernel_rfl
theorem cells_int16 : Try.prog.cellsOf 55 = 1 := by kernel_rfl
theorem cells_uint16 : Try.prog.cellsOf 34 = 1 := by kernel_rfl
theorem cells_str : Try.prog.cellsOf 9 = 1 := by kernel_rfl
theorem cells_LComp : Try.prog.cellsOf 22 = 1 := by kernel_rfl
theorem cells_LQuant : Try.prog.cellsOf 23 = 1 := by kernel_rfl
theorem cells_LTag : Try.prog.cellsOf 24 = 1 := by kernel_rfl
theorem cells_LBlock : Try.prog.cellsOf 59 = 1 := by kernel_rfl
theorem bytes_Comp : Try.prog.bytesOf 63 = 72 := by kernel_rfl
theorem bytes_Quant : Try.prog.bytesOf 39 = 136 := by kernel_rfl
theorem bytes_Tag : Try.prog.bytesOf 104 = 24 := by kernel_rfl
theorem bytes_Block : Try.prog.bytesOf 57 = 128 := by kernel_rfl
theorem choose_list {α : Type} {p : Nat → α → Prop} : ∀ n : Nat, (∀ i, i < n → ∃ x, p i x) → ∃ l : List α, l.length = n ∧ ∀ i x, l[i]? = some x → p i x
  | 0, _ => ⟨[], rfl, fun i x h => by simp at h⟩
  | n + 1, h => by
    obtain ⟨l, hl, hp⟩ := choose_list n fun i hi => h i (by omega)
    obtain ⟨x, hx⟩ := h n (by omega)
    refine ⟨l ++ [x], by simp [hl], fun i y hy => ?_⟩
    by_cases hi : i < n
    · rw [List.getElem?_append_left (by omega)] at hy
      exact hp i y hy
    · rw [List.getElem?_append_right (by omega)] at hy
      have : i - l.length = 0 := by
        cases e : i - l.length with
        | zero => rfl
        | succ k => rw [e] at hy; simp at hy
      rw [this] at hy
      have : i = n := by omega
      subst this
      simp at hy
      exact hy ▸ hx
section
variable {H : Type} {enc : TypeId × Value → H} {W : World}
/-- A datum all of whose parts are as long as the form lets them be. -/
def Wt (t : TypeId) (d : DataW H) : Prop := ∀ x ∈ d.weights Try.prog t, x ≤ reachBytes
/-- A slice that comes in, element for element. -/
theorem open_rows {t e : TypeId} {fuel k b : Nat} {v : Value} {x : DataW H × List MemPlace} (ht : Try.prog.underlying t = some (.slice e)) (hk : Try.prog.cellsOf e = k) (hk0 : 0 < k) (hb : Try.prog.bytesOf e = b) (_hb0 : 0 < b)
    (h : DataW.trod enc Try.prog W 0 (fun _ => true) true fuel t [v] = some x) (hw : Wt t x.1) :
    ∃ (p : Option Addr) (n cap : Nat), v = .slice p n cap ∧ n ≤ cap ∧ cap ≤ maxLen ∧ cap * b ≤ reachBytes ∧
      (0 < n → ∃ b0 o, p = some ⟨b0, o, none⟩ ∧ ∀ i, i < n → ∃ cs' m D Pl, cs'.length = k ∧ W.rangeAt b0 (o + i * k) cs' ∧ DataW.trod enc Try.prog W 0 (fun _ => true) true m e cs' = some (D, Pl) ∧ Wt e D) := by
  rcases open_slice ht h with ⟨h0, _⟩ | ⟨a, n, cap, m, fu, D, Pl, hcs, _, hl, hm, hmm, rfl, hi⟩
  · have : v = .slice none 0 0 := by simpa using h0
    subst this
    exact ⟨none, 0, 0, rfl, Nat.le_refl _, Nat.zero_le _, by simp, fun h => absurd h (Nat.lt_irrefl 0)⟩
  · have : v = .slice (some a) n cap := by simpa using hcs
    subst this
    have hmc : m = cap := by simpa using hmm
    subst hmc
    have hww : ∀ y ∈ ((List.range n).map D ++ (List.range (m - n)).map fun j => D (n + j)), Wt e y := by
      intro y hy z hz
      apply hw
      unfold DataW.weights
      rw [ht]
      simp only [List.mem_cons, List.mem_append]
      right
      have key : ∀ (l : List (DataW H)), y ∈ l → z ∈ DataW.weightsAll Try.prog e l := by
        intro l
        induction l with
        | nil => intro h; simp at h
        | cons d r ih =>
          intro h
          simp only [DataW.weightsAll, List.mem_append]
          rcases List.mem_cons.1 h with rfl | h
          · exact .inl hz
          · exact .inr (ih h)
      rcases List.mem_append.1 hy with h | h
      · exact .inl (key _ h)
      · exact .inr (key _ h)
    have hcap : m * b ≤ reachBytes := by
      have := hw (m * b) (by
        unfold DataW.weights
        rw [ht]
        simp only [List.length_map, List.length_range, hb, List.mem_cons]
        left
        rw [show n + (m - n) = m from by omega])
      exact this
    refine ⟨some a, n, m, rfl, hl, hm, hcap, fun hn => ?_⟩
    have hspot : a.spot = none := by
      obtain ⟨cs', hc, _⟩ := hi 0 (by omega)
      rw [hk] at hc
      obtain ⟨_, hlen, hcell⟩ := World.cells?_some hc
      have h1 := hcell 0 hk0
      rw [Nat.zero_mul] at h1
      have h2 : (a.add 0).add 0 = a := rfl
      rw [h2] at h1
      cases hsp : a.spot with
      | none => rfl
      | some z =>
        exfalso
        have : W.cell? a = none := by
          unfold World.cell?
          split <;> simp [hsp]
        rw [this, List.getElem?_eq_getElem (by omega)] at h1
        cases h1
    obtain ⟨ab, ao, asp⟩ := a
    simp only at hspot
    subst hspot
    refine ⟨ab, ao, rfl, fun i hin => ?_⟩
    obtain ⟨cs', hc, ht'⟩ := hi i (by omega)
    rw [hk] at hc
    obtain ⟨_, hlen, hcell⟩ := World.cells?_some hc
    refine ⟨cs', fu, D i, Pl i, hlen, fun j u hu => ?_, ht', hww _ (List.mem_append_left _ (List.mem_map.2 ⟨i, List.mem_range.2 hin, rfl⟩))⟩
    have hj : j < k := by rw [← hlen]; exact (List.getElem?_eq_some_iff.1 hu).1
    have := hcell j hj
    rw [Addr.add_mid, Addr.add_mid, hu] at this
    exact this
theorem wt_each {ts : List TypeId} {ds : List (DataW H)} (h : (DataW.weightsEach Try.prog ts ds).all (· ≤ reachBytes) = true) {j : Nat} {t : TypeId} {d : DataW H} (ht : ts[j]? = some t) (hd : ds[j]? = some d) : Wt t d := by
  intro z hz
  have key : ∀ (ts : List TypeId) (ps : List (DataW H)) (j : Nat), ts[j]? = some t → ps[j]? = some d → z ∈ DataW.weightsEach Try.prog ts ps := by
    intro ts
    induction ts with
    | nil => intro ps j h; simp at h
    | cons u ts ih =>
      intro ps j h1 h2
      cases ps with
      | nil => simp at h2
      | cons q ps =>
        simp only [DataW.weightsEach, List.mem_append]
        cases j with
        | zero =>
          have e1 : u = t := by simpa using h1
          have e2 : q = d := by simpa using h2
          subst e1 e2
          exact .inl hz
        | succ j => exact .inr (ih ps j (by simpa using h1) (by simpa using h2))
  have := List.all_eq_true.1 h z (key _ _ j ht hd)
  simpa using this
theorem wt_struct {t : TypeId} {fs : Array Field} (ht : Try.prog.underlying t = some (.struct fs)) {parts : List (DataW H)} (hw : Wt t (.agg parts)) {j : Nat} {f : Field} {d : DataW H} (hf : fs[j]? = some f) (hd : parts[j]? = some d) : Wt f.type d := by
  intro z hz
  apply hw
  unfold DataW.weights
  rw [ht]
  have key : ∀ (ts : List TypeId) (ps : List (DataW H)) (j : Nat), ts[j]? = some f.type → ps[j]? = some d → z ∈ DataW.weightsEach Try.prog ts ps := by
    intro ts
    induction ts with
    | nil => intro ps j h; simp at h
    | cons t ts ih =>
      intro ps j h1 h2
      cases ps with
      | nil => simp at h2
      | cons q ps =>
        simp only [DataW.weightsEach, List.mem_append]
        cases j with
        | zero =>
          have e1 : t = f.type := by simpa using h1
          have e2 : q = d := by simpa using h2
          subst e1 e2
          exact .inl hz
        | succ j => exact .inr (ih ps j (by simpa using h1) (by simpa using h2))
  exact key _ _ j (by simp [hf]) hd
theorem reach_len {n cap b : Nat} (h : n ≤ cap) (hb : 0 < b) (h2 : cap * b ≤ reachBytes) : n * b ≤ 140737488351232 ∧ n ≤ 140737488351232 := by
  have h1 : n * b ≤ cap * b := Nat.mul_le_mul_right _ h
  have h3 : n * 1 ≤ n * b := Nat.mul_le_mul_left _ hb
  unfold reachBytes at h2
  omega
theorem i64_wf {n : Int} (h : (Lit.int .i64 n).wf = true) : i64 n := bounds_i64 h
theorem list7 {α : Type} : ∀ {l : List α}, l.length = 7 → ∃ a b c d e f g, l = [a, b, c, d, e, f, g]
  | [a, b, c, d, e, f, g], _ => ⟨a, b, c, d, e, f, g, rfl⟩
theorem list2 {α : Type} : ∀ {l : List α}, l.length = 2 → ∃ a b, l = [a, b]
  | [a, b], _ => ⟨a, b, rfl⟩
theorem list5 {α : Type} : ∀ {l : List α}, l.length = 5 → ∃ a b c d e, l = [a, b, c, d, e]
  | [a, b, c, d, e], _ => ⟨a, b, c, d, e, rfl⟩
theorem list3 {α : Type} : ∀ {l : List α}, l.length = 3 → ∃ a b c, l = [a, b, c]
  | [a, b, c], _ => ⟨a, b, c, rfl⟩
/-- An array of whole numbers. -/
theorem open_nums {t e : TypeId} {k : IntKind} {n fuel : Nat} {cs : List Value} {x : DataW H × List MemPlace} (ht : Try.prog.underlying t = some (.array n e)) (he : Try.prog.underlying e = some (.int k)) (hc : Try.prog.cellsOf e = 1) (hct : Try.prog.cellsOf t = n)
    (h : DataW.trod enc Try.prog W 0 (fun _ => true) true fuel t cs = some x) : ∃ l : List Int, l.length = n ∧ cs = ints k l ∧ ∀ z, z ∈ l → (Lit.int k z).wf = true := by
  obtain ⟨xs, m, _, _, hlen, hxl, hi⟩ := DataW.trod_array ht h
  rw [hct] at hlen
  obtain ⟨l, hl, hp⟩ := choose_list (p := fun i z => cs[i]? = some (.int k z) ∧ (Lit.int k z).wf = true) n fun i hin => by
    have h1 := hi i hin
    rw [hc, Nat.mul_one, List.getElem?_eq_getElem (by omega)] at h1
    obtain ⟨z, hz, _, hwf⟩ := DataW.trod_int he h1
    refine ⟨z, ?_, hwf⟩
    have : ((cs.drop i).take 1)[0]? = some (.int k z) := by rw [hz]; rfl
    rw [List.getElem?_take_of_lt (by omega), List.getElem?_drop, Nat.add_zero] at this
    exact this
  refine ⟨l, hl, ?_, fun z hz => ?_⟩
  · apply List.ext_getElem?
    intro i
    by_cases hin : i < n
    · rw [(hp i l[i] (List.getElem?_eq_getElem (by omega))).1, ints, List.getElem?_map, List.getElem?_eq_getElem (by omega)]
      rfl
    · rw [List.getElem?_eq_none (by omega), List.getElem?_eq_none (by rw [ints_length]; omega)]
  · obtain ⟨i, hi', rfl⟩ := List.mem_iff_getElem.1 hz
    exact (hp i l[i] (List.getElem?_eq_getElem hi')).2
/-- The blocks of a plane. -/
theorem open_blocks {fuel : Nat} {v : Value} {x : DataW H × List MemPlace} (h : DataW.trod enc Try.prog W 0 (fun _ => true) true fuel 59 [v] = some x) (hw : Wt 59 x.1) :
    ∃ bs : List (List Int), RdL W 64 v (bs.map blockRow) ∧ ∀ b, b ∈ bs → ∀ n, n ∈ b → -32768 ≤ n ∧ n ≤ 32767 := by
  obtain ⟨p, n, cap, rfl, hnc, hcm, hcap, hx⟩ := open_rows Try.underlying59 cells_Block (by decide) bytes_Block (by decide) h hw
  obtain ⟨h1, h2⟩ := reach_len hnc (by decide) hcap
  by_cases hn : 0 < n
  · obtain ⟨b0, o, rfl, hi⟩ := hx hn
    obtain ⟨bs, hl, hp⟩ := choose_list (p := fun i (b : List Int) => b.length = 64 ∧ W.rangeAt b0 (o + i * 64) (blockRow b) ∧ ∀ n, n ∈ b → -32768 ≤ n ∧ n ≤ 32767) n fun i hin => by
      obtain ⟨cs', m, D, Pl, hlen, hr, ht, _⟩ := hi i hin
      obtain ⟨l, hl, rfl, hwf⟩ := open_nums Try.underlying57 Try.underlying55 cells_int16 cells_Block ht
      exact ⟨l, hl, hr, fun n hn => bounds_i16 (hwf n hn)⟩
    have key : ∀ b, b ∈ bs → ∃ i, bs[i]? = some b := fun b hb => List.mem_iff_getElem?.1 hb
    refine ⟨bs, ⟨⟨some ⟨b0, o, none⟩, cap, by rw [List.length_map, hl], by rw [List.length_map, hl]; exact hnc, ⟨hcm, by rw [List.length_map, hl]; omega⟩, fun _ => ⟨b0, o, rfl, fun i y hy => ?_⟩⟩, fun y hy => ?_, fun y hy u hu => ?_⟩, fun b hb => ?_⟩
    · rw [List.getElem?_map] at hy
      obtain ⟨b, hb, rfl⟩ := Option.map_eq_some_iff.1 hy
      exact (hp i b hb).2.1
    · obtain ⟨b, hb, rfl⟩ := List.mem_map.1 hy
      obtain ⟨i, hi⟩ := key b hb
      rw [blockRow, ints_length]
      exact (hp i b hi).1
    · obtain ⟨b, hb, rfl⟩ := List.mem_map.1 hy
      exact ints_one _ _ u hu
    · obtain ⟨i, hi⟩ := key b hb
      exact (hp i b hi).2.2
  · obtain rfl : n = 0 := by omega
    exact ⟨[], RdL.nil _ _ _ _ hcm, fun b hb => absurd hb List.not_mem_nil⟩
theorem take1 {α : Type} {l : List α} {i : Nat} {a : α} (h : l[i]? = some a) : (l.drop i).take 1 = [a] := by
  obtain ⟨hi, rfl⟩ := List.getElem?_eq_some_iff.1 h
  rw [List.drop_eq_getElem_cons hi]
  rfl
/-- A component. -/
theorem open_comp {fuel : Nat} {cs : List Value} {D : DataW H} {Pl : List MemPlace} (hlen : cs.length = 7) (h : DataW.trod enc Try.prog W 0 (fun _ => true) true fuel 63 cs = some (D, Pl)) (hw : Wt 63 D) :
    ∃ c : Comp, cs = compRow c ∧ RdL W 64 c.bv (c.bs.map blockRow) ∧ (i64 c.id ∧ i64 c.h ∧ i64 c.v ∧ i64 c.q ∧ i64 c.cols ∧ i64 c.rows) ∧ ∀ b, b ∈ c.bs → ∀ n, n ∈ b → -32768 ≤ n ∧ n ≤ 32767 := by
  obtain ⟨v0, v1, v2, v3, v4, v5, v6, rfl⟩ := list7 hlen
  obtain ⟨xs, m, _, hx, _, hxl, hf⟩ := DataW.trod_struct Try.underlying63 h
  obtain ⟨y0, y1, y2, y3, y4, rfl⟩ := list5 (show xs.length = 5 from hxl)
  have g0 : DataW.trod enc Try.prog W 0 (fun _ => true) true m 3 [v0] = some y0 := by simpa [cells_int] using hf 0 _ rfl
  have g1 : DataW.trod enc Try.prog W 0 (fun _ => true) true m 3 [v1] = some y1 := by simpa [cells_int] using hf 1 _ rfl
  have g2 : DataW.trod enc Try.prog W 0 (fun _ => true) true m 3 [v2] = some y2 := by simpa [cells_int] using hf 2 _ rfl
  have g3 : DataW.trod enc Try.prog W 0 (fun _ => true) true m 3 [v3] = some y3 := by simpa [cells_int] using hf 3 _ rfl
  have g4 : DataW.trod enc Try.prog W 0 (fun _ => true) true m 61 [v4, v5, v6] = some y4 := by simpa [cells_Plane] using hf 4 _ rfl
  obtain ⟨n0, e0, _, w0⟩ := DataW.trod_int Try.underlying3 g0
  obtain ⟨n1, e1, _, w1⟩ := DataW.trod_int Try.underlying3 g1
  obtain ⟨n2, e2, _, w2⟩ := DataW.trod_int Try.underlying3 g2
  obtain ⟨n3, e3, _, w3⟩ := DataW.trod_int Try.underlying3 g3
  obtain ⟨ys, m2, _, hy, _, hyl, hg⟩ := DataW.trod_struct Try.underlying61 g4
  obtain ⟨z0, z1, z2, rfl⟩ := list3 (show ys.length = 3 from hyl)
  have k0 : DataW.trod enc Try.prog W 0 (fun _ => true) true m2 3 [v4] = some z0 := by simpa [cells_int] using hg 0 _ rfl
  have k1 : DataW.trod enc Try.prog W 0 (fun _ => true) true m2 3 [v5] = some z1 := by simpa [cells_int] using hg 1 _ rfl
  have k2 : DataW.trod enc Try.prog W 0 (fun _ => true) true m2 59 [v6] = some z2 := by simpa [cells_LBlock] using hg 2 _ rfl
  obtain ⟨n4, e4, _, w4⟩ := DataW.trod_int Try.underlying3 k0
  obtain ⟨n5, e5, _, w5⟩ := DataW.trod_int Try.underlying3 k1
  have hD : D = .agg [y0.1, y1.1, y2.1, y3.1, y4.1] := (Prod.mk.inj hx).1
  subst hD
  have hwP : Wt 61 y4.1 := wt_struct Try.underlying63 hw (j := 4) rfl rfl
  have hyD : y4.1 = .agg [z0.1, z1.1, z2.1] := by rw [hy]; rfl
  rw [hyD] at hwP
  have hwB : Wt 59 z2.1 := wt_struct Try.underlying61 hwP (j := 2) rfl rfl
  obtain ⟨bs, hR, hb⟩ := open_blocks k2 hwB
  cases e0; cases e1; cases e2; cases e3; cases e4; cases e5
  exact ⟨⟨n0, n1, n2, n3, n4, n5, v6, bs⟩, rfl, hR, ⟨i64_wf w0, i64_wf w1, i64_wf w2, i64_wf w3, i64_wf w4, i64_wf w5⟩, hb⟩
theorem open_quant {fuel : Nat} {cs : List Value} {D : DataW H} {Pl : List MemPlace} (hlen : cs.length = 65) (h : DataW.trod enc Try.prog W 0 (fun _ => true) true fuel 39 cs = some (D, Pl)) :
    ∃ q : Quant, cs = quantRow q ∧ i64 q.pl ∧ ∀ n, n ∈ q.q → 0 ≤ n ∧ n ≤ 65535 := by
  obtain ⟨xs, m, _, hx, _, hxl, hf⟩ := DataW.trod_struct Try.underlying39 h
  obtain ⟨y0, y1, rfl⟩ := list2 (show xs.length = 2 from hxl)
  obtain ⟨v0, r, rfl⟩ : ∃ v r, cs = v :: r := by cases cs with | nil => simp at hlen | cons v r => exact ⟨v, r, rfl⟩
  have g0 : DataW.trod enc Try.prog W 0 (fun _ => true) true m 3 [v0] = some y0 := by simpa [cells_int] using hf 0 _ rfl
  have hr64 : r.length = 64 := by simpa using hlen
  have g1 : DataW.trod enc Try.prog W 0 (fun _ => true) true m 35 r = some y1 := by
    have : DataW.trod enc Try.prog W 0 (fun _ => true) true m 35 (r.take (Try.prog.cellsOf 35)) = some y1 := hf 1 _ rfl
    rw [List.take_of_length_le (by rw [hr64]; exact Nat.le_of_eq cells_u16x64.symm)] at this
    exact this
  obtain ⟨n0, e0, _, w0⟩ := DataW.trod_int Try.underlying3 g0
  obtain ⟨l, _, rfl, hwf⟩ := open_nums Try.underlying35 Try.underlying34 cells_uint16 cells_u16x64 g1
  cases e0
  exact ⟨⟨n0, l⟩, rfl, i64_wf w0, fun n hn => bounds_u16 (hwf n hn)⟩
theorem open_tag {fuel : Nat} {cs : List Value} {D : DataW H} {Pl : List MemPlace} (hlen : cs.length = 2) (h : DataW.trod enc Try.prog W 0 (fun _ => true) true fuel 104 cs = some (D, Pl)) (hw : Wt 104 D) :
    ∃ t : Tag, cs = tagRow t ∧ i64 t.kind ∧ t.body.size ≤ 140737488355328 := by
  obtain ⟨v0, v1, rfl⟩ := list2 hlen
  obtain ⟨xs, m, _, hx, _, hxl, hf⟩ := DataW.trod_struct Try.underlying104 h
  obtain ⟨y0, y1, rfl⟩ := list2 (show xs.length = 2 from hxl)
  have g0 : DataW.trod enc Try.prog W 0 (fun _ => true) true m 3 [v0] = some y0 := by simpa [cells_int] using hf 0 _ rfl
  have g1 : DataW.trod enc Try.prog W 0 (fun _ => true) true m 9 [v1] = some y1 := by simpa [cells_str] using hf 1 _ rfl
  obtain ⟨n0, e0, _, w0⟩ := DataW.trod_int Try.underlying3 g0
  obtain ⟨s, e1, e2, hs⟩ := DataW.trod_string Try.underlying9 g1
  have hD : D = .agg [y0.1, y1.1] := (Prod.mk.inj hx).1
  subst hD
  have hwS : Wt 9 y1.1 := wt_struct Try.underlying104 hw (j := 1) rfl rfl
  have hsz : s.size ≤ 140737488351232 := by
    have := hwS s.data.toList.length (by rw [e2]; simp [DataW.weights])
    unfold reachBytes at this
    simpa using this
  cases e0; cases e1
  exact ⟨⟨n0, s⟩, rfl, i64_wf w0, by show s.size ≤ _; omega⟩
/-- The three slices of an image. -/
theorem open_comps {fuel : Nat} {v : Value} {x : DataW H × List MemPlace} (h : DataW.trod enc Try.prog W 0 (fun _ => true) true fuel 22 [v] = some x) (hw : Wt 22 x.1) :
    ∃ cs : List Comp, RdL W 7 v (cs.map compRow) ∧ (∀ c, c ∈ cs → RdL W 64 c.bv (c.bs.map blockRow)) ∧ (∀ c, c ∈ cs → i64 c.id ∧ i64 c.h ∧ i64 c.v ∧ i64 c.q ∧ i64 c.cols ∧ i64 c.rows) ∧ ∀ c, c ∈ cs → ∀ b, b ∈ c.bs → ∀ n, n ∈ b → -32768 ≤ n ∧ n ≤ 32767 := by
  obtain ⟨p, n, cap, rfl, hnc, hcm, hcap, hx⟩ := open_rows Try.underlying22 cells_Comp (by decide) bytes_Comp (by decide) h hw
  obtain ⟨h1, h2⟩ := reach_len hnc (by decide) hcap
  by_cases hn : 0 < n
  · obtain ⟨b0, o, rfl, hi⟩ := hx hn
    obtain ⟨cs, hl, hp⟩ := choose_list (p := fun i (c : Comp) => W.rangeAt b0 (o + i * 7) (compRow c) ∧ RdL W 64 c.bv (c.bs.map blockRow) ∧ (i64 c.id ∧ i64 c.h ∧ i64 c.v ∧ i64 c.q ∧ i64 c.cols ∧ i64 c.rows) ∧ ∀ b, b ∈ c.bs → ∀ n, n ∈ b → -32768 ≤ n ∧ n ≤ 32767) n fun i hin => by
      obtain ⟨cs', m, D, Pl, hlen, hr, ht, hwt⟩ := hi i hin
      obtain ⟨c, rfl, h1, h2, h3⟩ := open_comp hlen ht hwt
      exact ⟨c, hr, h1, h2, h3⟩
    have key : ∀ b, b ∈ cs → ∃ i, cs[i]? = some b := fun b hb => List.mem_iff_getElem?.1 hb
    refine ⟨cs, ⟨⟨some ⟨b0, o, none⟩, cap, by rw [List.length_map, hl], by rw [List.length_map, hl]; exact hnc, ⟨hcm, by rw [List.length_map, hl]; omega⟩, fun _ => ⟨b0, o, rfl, fun i y hy => ?_⟩⟩, fun y hy => ?_, fun y hy u hu => ?_⟩, fun b hb => ?_, fun b hb => ?_, fun b hb => ?_⟩
    · rw [List.getElem?_map] at hy
      obtain ⟨b, hb, rfl⟩ := Option.map_eq_some_iff.1 hy
      exact (hp i b hb).1
    · obtain ⟨b, hb, rfl⟩ := List.mem_map.1 hy
      rfl
    · obtain ⟨b, hb, rfl⟩ := List.mem_map.1 hy
      obtain ⟨i, hi⟩ := key b hb
      obtain ⟨⟨q, cp, hq, _⟩, _⟩ := (hp i b hi).2.1
      simp only [compRow, List.mem_cons, List.not_mem_nil, or_false] at hu
      rcases hu with rfl | rfl | rfl | rfl | rfl | rfl | rfl
      all_goals first | rfl | (rw [hq]; rfl)
    · obtain ⟨i, hi⟩ := key b hb
      exact (hp i b hi).2.1
    · obtain ⟨i, hi⟩ := key b hb
      exact (hp i b hi).2.2.1
    · obtain ⟨i, hi⟩ := key b hb
      exact (hp i b hi).2.2.2
  · obtain rfl : n = 0 := by omega
    exact ⟨[], RdL.nil _ _ _ _ hcm, fun b hb => absurd hb List.not_mem_nil, fun b hb => absurd hb List.not_mem_nil, fun b hb => absurd hb List.not_mem_nil⟩
theorem open_quants {fuel : Nat} {v : Value} {x : DataW H × List MemPlace} (h : DataW.trod enc Try.prog W 0 (fun _ => true) true fuel 23 [v] = some x) (hw : Wt 23 x.1) :
    ∃ qs : List Quant, RdL W 65 v (qs.map quantRow) ∧ ∀ q, q ∈ qs → i64 q.pl ∧ ∀ n, n ∈ q.q → 0 ≤ n ∧ n ≤ 65535 := by
  obtain ⟨p, n, cap, rfl, hnc, hcm, hcap, hx⟩ := open_rows Try.underlying23 cells_Quant (by decide) bytes_Quant (by decide) h hw
  obtain ⟨h1, h2⟩ := reach_len hnc (by decide) hcap
  by_cases hn : 0 < n
  · obtain ⟨b0, o, rfl, hi⟩ := hx hn
    obtain ⟨cs, hl, hp⟩ := choose_list (p := fun i (c : Quant) => W.rangeAt b0 (o + i * 65) (quantRow c) ∧ (quantRow c).length = 65 ∧ i64 c.pl ∧ ∀ n, n ∈ c.q → 0 ≤ n ∧ n ≤ 65535) n fun i hin => by
      obtain ⟨cs', m, D, Pl, hlen, hr, ht, hwt⟩ := hi i hin
      obtain ⟨c, rfl, h1, h2⟩ := open_quant hlen ht
      exact ⟨c, hr, hlen, h1, h2⟩
    have key : ∀ b, b ∈ cs → ∃ i, cs[i]? = some b := fun b hb => List.mem_iff_getElem?.1 hb
    refine ⟨cs, ⟨⟨some ⟨b0, o, none⟩, cap, by rw [List.length_map, hl], by rw [List.length_map, hl]; exact hnc, ⟨hcm, by rw [List.length_map, hl]; omega⟩, fun _ => ⟨b0, o, rfl, fun i y hy => ?_⟩⟩, fun y hy => ?_, fun y hy u hu => ?_⟩, fun b hb => ?_⟩
    · rw [List.getElem?_map] at hy
      obtain ⟨b, hb, rfl⟩ := Option.map_eq_some_iff.1 hy
      exact (hp i b hb).1
    · obtain ⟨b, hb, rfl⟩ := List.mem_map.1 hy
      obtain ⟨i, hi⟩ := key b hb
      exact (hp i b hi).2.1
    · obtain ⟨b, hb, rfl⟩ := List.mem_map.1 hy
      rcases List.mem_cons.1 hu with rfl | hu
      · rfl
      · exact ints_one _ _ u hu
    · obtain ⟨i, hi⟩ := key b hb
      exact (hp i b hi).2.2
  · obtain rfl : n = 0 := by omega
    exact ⟨[], RdL.nil _ _ _ _ hcm, fun b hb => absurd hb List.not_mem_nil⟩
theorem open_tags {fuel : Nat} {v : Value} {x : DataW H × List MemPlace} (h : DataW.trod enc Try.prog W 0 (fun _ => true) true fuel 24 [v] = some x) (hw : Wt 24 x.1) :
    ∃ ts : List Tag, RdL W 2 v (ts.map tagRow) ∧ ∀ t, t ∈ ts → i64 t.kind ∧ t.body.size ≤ 140737488355328 := by
  obtain ⟨p, n, cap, rfl, hnc, hcm, hcap, hx⟩ := open_rows Try.underlying24 cells_Tag (by decide) bytes_Tag (by decide) h hw
  obtain ⟨h1, h2⟩ := reach_len hnc (by decide) hcap
  by_cases hn : 0 < n
  · obtain ⟨b0, o, rfl, hi⟩ := hx hn
    obtain ⟨cs, hl, hp⟩ := choose_list (p := fun i (c : Tag) => W.rangeAt b0 (o + i * 2) (tagRow c) ∧ i64 c.kind ∧ c.body.size ≤ 140737488355328) n fun i hin => by
      obtain ⟨cs', m, D, Pl, hlen, hr, ht, hwt⟩ := hi i hin
      obtain ⟨c, rfl, h1, h2⟩ := open_tag hlen ht hwt
      exact ⟨c, hr, h1, h2⟩
    have key : ∀ b, b ∈ cs → ∃ i, cs[i]? = some b := fun b hb => List.mem_iff_getElem?.1 hb
    refine ⟨cs, ⟨⟨some ⟨b0, o, none⟩, cap, by rw [List.length_map, hl], by rw [List.length_map, hl]; exact hnc, ⟨hcm, by rw [List.length_map, hl]; omega⟩, fun _ => ⟨b0, o, rfl, fun i y hy => ?_⟩⟩, fun y hy => ?_, fun y hy u hu => ?_⟩, fun b hb => ?_⟩
    · rw [List.getElem?_map] at hy
      obtain ⟨b, hb, rfl⟩ := Option.map_eq_some_iff.1 hy
      exact (hp i b hb).1
    · obtain ⟨b, hb, rfl⟩ := List.mem_map.1 hy
      rfl
    · obtain ⟨b, hb, rfl⟩ := List.mem_map.1 hy
      simp only [tagRow, List.mem_cons, List.not_mem_nil, or_false] at hu
      rcases hu with rfl | rfl
      all_goals rfl
    · obtain ⟨i, hi⟩ := key b hb
      exact (hp i b hi).2
  · obtain rfl : n = 0 := by omega
    exact ⟨[], RdL.nil _ _ _ _ hcm, fun b hb => absurd hb List.not_mem_nil⟩
set_option maxRecDepth 100000 in
/-- An image that comes in. -/
theorem open_image {r : Reach} {b0 : Nat} {v : Value} {d : DataW H} {p : List MemPlace} (hv : Value.okWide Try.prog W r b0 26 v) (h : DataW.Trod enc Try.prog W 0 (fun _ => true) true 26 v d p) (hw : Wt 26 d) :
    ∃ (wd ht : Int) (cv qv tv : Value) (cs : List Comp) (qs : List Quant) (ts : List Tag), v = .agg #[.int .i64 wd, .int .i64 ht, cv, qv, tv] ∧ i64 wd ∧ i64 ht ∧ RdImg W cv qv tv cs qs ts := by
  obtain ⟨cells, rfl, hsz⟩ := okWide_struct Try.underlying26 hv
  obtain ⟨l⟩ := cells
  rw [cells_Image] at hsz
  obtain ⟨v0, v1, v2, v3, v4, rfl⟩ := list5 (show l.length = 5 from hsz)
  obtain ⟨fuel, hf0⟩ := h
  obtain ⟨xs, m, _, hx, _, hxl, hf⟩ := DataW.trod_struct Try.underlying26 hf0
  obtain ⟨y0, y1, y2, y3, y4, rfl⟩ := list5 (show xs.length = 5 from hxl)
  have g0 : DataW.trod enc Try.prog W 0 (fun _ => true) true m 3 [v0] = some y0 := by simpa [Value.cells, cells_int] using hf 0 _ rfl
  have g1 : DataW.trod enc Try.prog W 0 (fun _ => true) true m 3 [v1] = some y1 := by simpa [Value.cells, cells_int] using hf 1 _ rfl
  have g2 : DataW.trod enc Try.prog W 0 (fun _ => true) true m 22 [v2] = some y2 := by simpa [Value.cells, cells_LComp] using hf 2 _ rfl
  have g3 : DataW.trod enc Try.prog W 0 (fun _ => true) true m 23 [v3] = some y3 := by simpa [Value.cells, cells_LQuant] using hf 3 _ rfl
  have g4 : DataW.trod enc Try.prog W 0 (fun _ => true) true m 24 [v4] = some y4 := by simpa [Value.cells, cells_LTag] using hf 4 _ rfl
  obtain ⟨n0, e0, _, w0⟩ := DataW.trod_int Try.underlying3 g0
  obtain ⟨n1, e1, _, w1⟩ := DataW.trod_int Try.underlying3 g1
  have hD : d = .agg [y0.1, y1.1, y2.1, y3.1, y4.1] := (Prod.mk.inj hx).1
  subst hD
  obtain ⟨cs, c1, c2, c3, c4⟩ := open_comps g2 (wt_struct Try.underlying26 hw (j := 2) rfl rfl)
  obtain ⟨qs, q1, q2⟩ := open_quants g3 (wt_struct Try.underlying26 hw (j := 3) rfl rfl)
  obtain ⟨ts, t1, t2⟩ := open_tags g4 (wt_struct Try.underlying26 hw (j := 4) rfl rfl)
  cases e0; cases e1
  exact ⟨n0, n1, v2, v3, v4, cs, qs, ts, rfl, i64_wf w0, i64_wf w1, ⟨c1, c2, q1, t1, c3, c4, q2, t2⟩⟩
end
end Aq
end Go.Proofs.Ytaacpoadfdmfnaa
