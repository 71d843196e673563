/-
  Lists of rows in memory, and what a call that only makes new memory gives: no program is named here.
-/
import Derived.WalkKit
import Derived.WalkLawsBesides
import Derived.WalkSpells
import Derived.OwnWalk
import Derived.Outline
import Derived.Lib.Hide
import Derived.Deep.MidRow
import Derived.Deep.WholeRow
namespace Go.Proofs.Ytaacpoadfdmfnaa
open Go Go.RowKit
namespace Aq

/-- The call returns v, and has at most made new memory. -/
def Ret (v : Value) (w : World) (e : Ending) (w' : World) : Prop := e = .returned v ∧ Below w.heap.size w w'
/-- The call returns a value of which φ holds in the world behind it, and has at most made new memory. -/
def RetP (φ : Value → World → Prop) (w : World) (e : Ending) (w' : World) : Prop := ∃ v, e = .returned v ∧ φ v w' ∧ Below w.heap.size w w'

theorem ret_int {k : IntKind} {a b : Int} (h : a = b) : Ending.returned (.int k a) = .returned (.int k b) := by rw [h]
theorem ret_bool {a b : Bool} (h : a = b) : Ending.returned (.bool a) = .returned (.bool b) := by rw [h]
theorem calls_at {P : Program} {f : FuncId} {args : Array Value} {w w' : World} {R : Ending → World → Prop} (hw : w' = w) (h : Calls P f args w R) : Calls P f args w' R := hw ▸ h
theorem lt_of_cell {w : World} {a : Addr} {v : Value} (h : w.cell? a = some v) : a.block < w.heap.size := block_lt_of_cell h

theorem rangeAt_below {w w' : World} {b o : Nat} {x : List Value} (hB : Below w.heap.size w w') (h : w.rangeAt b o x) : w'.rangeAt b o x := by
  intro j v hv
  have h1 := h j v hv
  rw [hB.cell (p := ⟨b, o + j, none⟩) (lt_of_cell h1)]
  exact h1

theorem below_new {w : World} (o : Obj) : Below w.heap.size w (w.alloc o) := (Below.refl _ _).alloc (Nat.le_refl _) _
theorem below_of_new {w w2 : World} {o : Obj} (h : Below (w.alloc o).heap.size (w.alloc o) w2) : Below w.heap.size w w2 := (below_new o).trans (h.mono (by simp))
theorem new_cell {w w2 : World} {cs : Array Value} {t : TypeId} (h : Below (w.alloc (.cells cs t)).heap.size (w.alloc (.cells cs t)) w2) (j : Nat) {v : Value} (hv : cs[j]? = some v) : w2.cell? ⟨w.heap.size, j, none⟩ = some v := by
  rw [h.cell (p := ⟨w.heap.size, j, none⟩) (by simp), cell_of_row _ w.heap.size j _ _ (0, 0) (heap_alloc_last w _)]
  exact hv
theorem heap_new {w : World} {o : Obj} {n : Nat} (hn : n = w.heap.size) : (w.alloc o).heap[n]? = some o := by subst hn; exact heap_alloc_new w o
theorem new_cell_at {w w2 : World} {cs : Array Value} {t : TypeId} {n : Nat} (hn : n = w.heap.size) (h : Below (w.alloc (.cells cs t)).heap.size (w.alloc (.cells cs t)) w2) (j : Nat) {v : Value} (hv : cs[j]? = some v) : w2.cell? ⟨n, j, none⟩ = some v := by
  subst hn; exact new_cell h j hv
theorem old_cell {w w2 : World} (h : Below w.heap.size w w2) {p : Addr} {v : Value} (hv : w.cell? p = some v) : w2.cell? p = some v := by
  rw [h.cell (lt_of_cell hv)]; exact hv
theorem rangeAt_tail {w : World} {b o : Nat} {v : Value} {x : List Value} (h : w.rangeAt b o (v :: x)) : w.rangeAt b (o + 1) x := by
  intro j u hu
  rw [show o + 1 + j = o + (j + 1) from by omega]
  exact h (j + 1) u (by simpa using hu)
/-- The value v is a slice of rows of k cells each; in the world w they hold rows. -/
structure RdL (w : World) (k : Nat) (v : Value) (rows : List (List Value)) : Prop where
  form : ∃ p cap, v = .slice p rows.length cap ∧ rows.length ≤ cap ∧ (cap ≤ maxLen ∧ rows.length ≤ 140737488355328) ∧ (rows ≠ [] → ∃ b o, p = some ⟨b, o, none⟩ ∧ ∀ i x, rows[i]? = some x → w.rangeAt b (o + i * k) x)
  len : ∀ x, x ∈ rows → x.length = k
  one : ∀ x, x ∈ rows → ∀ v, v ∈ x → v.oneCell' = true

theorem RdL.below {w w' : World} {k : Nat} {v : Value} {rows : List (List Value)} (h : RdL w k v rows) (hB : Below w.heap.size w w') : RdL w' k v rows := by
  obtain ⟨⟨p, cap, hv, hc, hm, hr⟩, h2, h3⟩ := h
  refine ⟨⟨p, cap, hv, hc, hm, fun hne => ?_⟩, h2, h3⟩
  obtain ⟨b, o, hp, hx⟩ := hr hne
  exact ⟨b, o, hp, fun i x hi => rangeAt_below hB (hx i x hi)⟩

theorem RdL.cases {w : World} {k : Nat} {v : Value} {rows : List (List Value)} (h : RdL w k v rows) :
    (rows = [] ∧ ∃ p cap, v = .slice p 0 cap) ∨
    (∃ b o cap, v = .slice (some ⟨b, o, none⟩) rows.length cap ∧ 0 < rows.length ∧ rows.length ≤ 140737488355328 ∧ ∀ i x, rows[i]? = some x → w.rangeAt b (o + i * k) x) := by
  obtain ⟨⟨p, cap, hv, hc, hm, hr⟩, h2, h3⟩ := h
  by_cases hne : rows = []
  · subst hne
    exact .inl ⟨rfl, p, cap, hv⟩
  · obtain ⟨b, o, rfl, hx⟩ := hr hne
    refine .inr ⟨b, o, cap, hv, ?_, by omega, hx⟩
    cases rows with
    | nil => exact absurd rfl hne
    | cons _ _ => simp

theorem RdL.nil (w : World) (k : Nat) (p : Option Addr) (cap : Nat) (hcap : cap ≤ maxLen) : RdL w k (.slice p 0 cap) [] :=
  ⟨⟨p, cap, rfl, Nat.zero_le _, ⟨hcap, Nat.zero_le _⟩, fun h => absurd rfl h⟩, fun _ h => absurd h (List.not_mem_nil), fun _ h => absurd h (List.not_mem_nil)⟩

theorem flatten_length {k : Nat} : ∀ {rows : List (List Value)}, (∀ x, x ∈ rows → x.length = k) → rows.flatten.length = rows.length * k
  | [], _ => by simp
  | x :: r, h => by
    rw [List.flatten_cons, List.length_append, h x (List.mem_cons_self ..), flatten_length (fun y hy => h y (List.mem_cons_of_mem _ hy)), List.length_cons, Nat.succ_mul]
    omega
theorem flatten_get {k : Nat} : ∀ {rows : List (List Value)}, (∀ x, x ∈ rows → x.length = k) → ∀ {i : Nat} {x : List Value}, rows[i]? = some x → ∀ j, j < k → rows.flatten[i * k + j]? = x[j]?
  | [], _, i, x, h, _, _ => by simp at h
  | y :: r, hk, 0, x, h, j, hj => by
    have : y = x := by simpa using h
    subst this
    rw [List.flatten_cons, Nat.zero_mul, Nat.zero_add, List.getElem?_append_left (by rw [hk y (List.mem_cons_self ..)]; exact hj)]
  | y :: r, hk, i + 1, x, h, j, hj => by
    have hy := hk y (List.mem_cons_self ..)
    rw [List.flatten_cons, List.getElem?_append_right (by rw [hy, Nat.succ_mul]; omega), hy, show (i + 1) * k + j - k = i * k + j from by rw [Nat.succ_mul]; omega]
    exact flatten_get (fun z hz => hk z (List.mem_cons_of_mem _ hz)) (by simpa using h) j hj
theorem flatten_cells {w : World} {b o k : Nat} {rows : List (List Value)} (hk : ∀ x, x ∈ rows → x.length = k) (hx : ∀ i x, rows[i]? = some x → w.rangeAt b (o + i * k) x) :
    ∀ j u, rows.flatten[j]? = some u → w.cell? ⟨b, o + j, none⟩ = some u := by
  intro j u hu
  have hlt : j < rows.length * k := by rw [← flatten_length hk]; exact (List.getElem?_eq_some_iff.1 hu).1
  have hk0 : 0 < k := by rcases Nat.eq_zero_or_pos k with h | h; (subst h; simp at hlt); exact h
  have hi : j / k < rows.length := by rw [Nat.div_lt_iff_lt_mul hk0]; exact hlt
  have hj : j = j / k * k + j % k := by rw [Nat.mul_comm]; exact (Nat.div_add_mod j k).symm
  have hm : j % k < k := Nat.mod_lt _ hk0
  have hg := flatten_get hk (List.getElem?_eq_getElem hi) (j % k) hm
  rw [← hj, hu] at hg
  have := hx (j / k) _ (List.getElem?_eq_getElem hi) (j % k) u hg.symm
  rw [show o + j = o + j / k * k + j % k from by omega]
  exact this
theorem mem_flatten_one {rows : List (List Value)} (h : ∀ x, x ∈ rows → ∀ v, v ∈ x → v.oneCell' = true) : ∀ u, u ∈ rows.flatten → u.oneCell' = true := by
  intro u hu
  obtain ⟨x, hx, hu'⟩ := List.mem_flatten.1 hu
  exact h x hx u hu'
/-- A slice of the call's own reads as what it holds. -/
theorem RdL.of_owns {w : World} {base k : Nat} {e : TypeId} {v : Value} {rows : List (List Value)} (h : w.ownsRow base e k v rows.length rows.flatten) (hn : rows.length ≤ 140737488355328)
    (hk : ∀ x, x ∈ rows → x.length = k) (ho : ∀ x, x ∈ rows → ∀ v, v ∈ x → v.oneCell' = true) : RdL w k v rows := by
  obtain ⟨hl, ⟨rfl, h0⟩ | ⟨g, cap, cur, rfl, hg, hh, hc, hm, hs, ht⟩⟩ := h
  · have : rows = [] := List.length_eq_zero_iff.1 h0
    subst this
    exact RdL.nil w k none 0 (Nat.zero_le _)
  · refine ⟨⟨some ⟨g, 0, none⟩, cap, rfl, hc, ⟨hm, hn⟩, fun _ => ⟨g, 0, rfl, ?_⟩⟩, hk, ho⟩
    intro i x hi j v hv
    have hj : j < k := by rw [← hk x (List.mem_of_getElem? hi)]; exact (List.getElem?_eq_some_iff.1 hv).1
    have hg' := flatten_get hk hi j hj
    rw [hv, ← ht, List.getElem?_take] at hg'
    split at hg'
    · rw [Nat.zero_add, cell_of_row w g (i * k + j) cur e (0, 0) hh]
      simpa using hg'
    · cases hg'
theorem maxLen_big : 140737488355328 ≤ maxLen := by unfold maxLen; decide

/-- The first of n numbers that is not 0; or 0. -/
def firstE (n : Nat) (E : Nat → Int) : Int := (((List.range n).map E).find? (fun e => e != 0)).getD 0
theorem firstE_none {n : Nat} {E : Nat → Int} (h : ∀ i, i < n → E i = 0) : firstE n E = 0 := by
  have : ((List.range n).map E).find? (fun e => e != 0) = none := by
    rw [List.find?_eq_none]
    intro x hx
    obtain ⟨i, hi, rfl⟩ := List.mem_map.1 hx
    simp [h i (List.mem_range.1 hi)]
  simp [firstE, this]
theorem firstE_some {n k : Nat} {E : Nat → Int} (hk : k < n) (hE : E k ≠ 0) (h : ∀ i, i < k → E i = 0) : firstE n E = E k := by
  have : ((List.range n).map E).find? (fun e => e != 0) = some (E k) := by
    rw [List.find?_eq_some_iff_append]
    refine ⟨by simpa using hE, (List.range k).map E, ((List.range n).map E).drop (k + 1), ?_, ?_⟩
    · apply List.ext_getElem
      · simp; omega
      · intro i h1 h2
        simp only [List.length_map, List.length_range] at h1
        rw [List.getElem_append]
        by_cases hik : i < k
        · simp [hik]
        · simp only [List.length_map, List.length_range, hik, dite_false]
          rw [List.getElem_cons]
          by_cases e : i - k = 0
          · have : i = k := by omega
            simp [this]
          · simp only [e, dite_false]
            simp only [List.getElem_map, List.getElem_range, List.getElem_drop]
            congr 1
            omega
    · intro x hx
      obtain ⟨i, hi, rfl⟩ := List.mem_map.1 hx
      simp [h i (List.mem_range.1 hi)]
  simp [firstE, this]

/-- The first of n places at which E is true; or -1. -/
def firstI (n : Nat) (E : Nat → Bool) : Int := match (List.range n).find? E with | some i => (i : Int) | none => -1
theorem firstI_none {n : Nat} {E : Nat → Bool} (h : ∀ i, i < n → E i = false) : firstI n E = -1 := by
  have : (List.range n).find? E = none := by
    rw [List.find?_eq_none]
    intro x hx
    simp [h x (List.mem_range.1 hx)]
  simp [firstI, this]
theorem firstI_some {n k : Nat} {E : Nat → Bool} (hk : k < n) (hE : E k = true) (h : ∀ i, i < k → E i = false) : firstI n E = k := by
  have : (List.range n).find? E = some k := by
    rw [List.find?_eq_some_iff_append]
    refine ⟨hE, List.range k, (List.range n).drop (k + 1), ?_, ?_⟩
    · apply List.ext_getElem
      · simp; omega
      · intro i h1 h2
        rw [List.getElem_append]
        by_cases hik : i < k
        · simp [hik]
        · simp only [List.length_range, hik, dite_false]
          rw [List.getElem_cons]
          by_cases e : i - k = 0
          · have : i = k := by omega
            simp [this]
          · simp only [e, dite_false]
            simp only [List.getElem_range, List.getElem_drop]
            omega
    · intro x hx
      simp [h x (List.mem_range.1 hx)]
  simp [firstI, this]
theorem firstI_spec (n : Nat) (E : Nat → Bool) : (firstI n E = -1 ∧ ∀ i, i < n → E i = false) ∨ ∃ k, k < n ∧ firstI n E = k ∧ E k = true ∧ ∀ i, i < k → E i = false := by
  by_cases h : ∃ k, k < n ∧ E k = true
  · obtain ⟨k, hk, hE, hmin⟩ : ∃ k, k < n ∧ E k = true ∧ ∀ i, i < k → E i = false := by
      obtain ⟨k, hk, hE⟩ := h
      induction k using Nat.strongRecOn with
      | ind k ih =>
        by_cases hm : ∃ i, i < k ∧ E i = true
        · obtain ⟨i, hi, hEi⟩ := hm
          exact ih i hi (by omega) hEi
        · exact ⟨k, hk, hE, fun i hi => by cases he : E i with | false => rfl | true => exact absurd ⟨i, hi, he⟩ hm⟩
    exact .inr ⟨k, hk, firstI_some hk hE hmin, hE, hmin⟩
  · have ha : ∀ i, i < n → E i = false := fun i hi => by cases he : E i with | false => rfl | true => exact absurd ⟨i, hi, he⟩ h
    exact .inl ⟨firstI_none ha, ha⟩
theorem find_none {α : Type} {l : List α} {p : α → Bool} (h : ∀ i, i < l.length → ∀ x, l[i]? = some x → p x = false) : l.find? p = none := by
  rw [List.find?_eq_none]
  intro x hx
  obtain ⟨i, hi, rfl⟩ := List.mem_iff_getElem.1 hx
  simp [h i hi _ (List.getElem?_eq_getElem hi)]
theorem find_some {α : Type} {l : List α} {p : α → Bool} {k : Nat} {x : α} (hx : l[k]? = some x) (hp : p x = true) (h : ∀ i, i < k → ∀ y, l[i]? = some y → p y = false) : l.find? p = some x := by
  rw [List.find?_eq_some_iff_append]
  obtain ⟨hk, rfl⟩ := List.getElem?_eq_some_iff.1 hx
  refine ⟨hp, l.take k, l.drop (k + 1), ?_, fun y hy => ?_⟩
  · rw [List.getElem_cons_drop, List.take_append_drop]
  · obtain ⟨i, hi, rfl⟩ := List.mem_iff_getElem.1 hy
    rw [List.length_take] at hi
    have := h i (by omega) l[i] (List.getElem?_eq_getElem (by omega))
    simpa using this
theorem firstI_nonneg (n : Nat) (E : Nat → Bool) : decide (0 ≤ firstI n E) = (List.range n).any E := by
  unfold firstI
  cases h : (List.range n).find? E with
  | none =>
    have h1 := List.find?_eq_none.1 h
    have h2 : (List.range n).any E = false := by
      rw [List.any_eq_false]; intro x hx; simpa using h1 x hx
    rw [h2]; simp
  | some i =>
    have h1 := List.find?_some h
    have h2 := List.mem_of_find?_eq_some h
    have h3 : (List.range n).any E = true := List.any_eq_true.2 ⟨i, h2, h1⟩
    rw [h3]; simp
theorem firstI_lt (n : Nat) (E : Nat → Bool) : firstI n E < n ∧ -1 ≤ firstI n E := by
  unfold firstI
  cases h : (List.range n).find? E with
  | none => simp; omega
  | some i =>
    have h2 := List.mem_range.1 (List.mem_of_find?_eq_some h)
    simp; omega

section
variable {P : Program} {ops : Array Oper} {rest : List Oper} {o : Oper} {a : Act} {Q : Exit → Act → World → Prop}
/-- A row into the block that was made last. -/
theorem wpList_store_new {w' : World} (hgd : o.guard = none) (ty : TypeId) (x y : Operand) (ho : o.op = .store ty x y) (w : World) (c0 c : Array Value) (hw : w' = w.alloc (.cells c0 ty))
    (hx : a.eval x = .pointer (some ⟨w.heap.size, 0, none⟩)) (hy : a.eval y = .agg c) (hi : (P.info? ty).map (·.size) = some c.size) (hs : c0.size = c.size)
    (h1 : c.all (·.oneCell') = true) (h : wpList P ops Q rest (a.put o.dst undef) (w.alloc (.cells c ty))) : wpList P ops Q (o :: rest) a w' := by
  subst hw
  exact wpList_plain hgd fun _ hK => by
    unfold Oper.wp execOp
    simp only [ho, hx, hy, Sem.run_bind, Sem.run_pure, Result.andThen_ok, run_storeAt_new (P := P) w ty c0 c hi hs h1]
    exact hK _ _ h
/-- A row into a whole block. -/
theorem wpList_store_blk {w : World} (hgd : o.guard = none) (ty : TypeId) (x y : Operand) (ho : o.op = .store ty x y) (g : Nat) (t : TypeId) (c0 c : Array Value)
    (hx : a.eval x = .pointer (some ⟨g, 0, none⟩)) (hy : a.eval y = .agg c) (hg : w.heap[g]? = some (.cells c0 t (0, 0))) (hi : (P.info? ty).map (·.size) = some c.size) (hs : c0.size = c.size)
    (h1 : c.all (·.oneCell') = true) (h : wpList P ops Q rest (a.put o.dst undef) (w.setRow g c)) : wpList P ops Q (o :: rest) a w :=
  wpList_plain hgd fun _ hK => by
    unfold Oper.wp execOp
    simp only [ho, hx, hy, Instr.storeAt, Instr.sureAddr, Sem.run_bind, Sem.run_pure, Result.andThen_ok, run_storeVar_row w g t ty c0 c hg hi hs h1]
    exact hK _ _ h
/-- A row out of the block that was made last. -/
theorem wpList_load_new {w' : World} (hgd : o.guard = none) (ty : TypeId) (x : Operand) (ho : o.op = .load ty x) (w : World) (c : Array Value) (d : TypeDesc) (hw : w' = w.alloc (.cells c ty))
    (hx : a.eval x = .pointer (some ⟨w.heap.size, 0, none⟩)) (hu : P.underlying ty = some d) (hd : d.isRow = true) (hi : (P.info? ty).map (·.size) = some c.size)
    (h : wpList P ops Q rest (a.put o.dst (.agg c)) (w.alloc (.cells c ty))) : wpList P ops Q (o :: rest) a w' := by
  subst hw
  exact wpList_load_row hgd ty x ho w.heap.size hx ty c (0, 0) d (heap_alloc_last w _) hu (by cases d <;> simp_all [TypeDesc.isRow]) hi h
/-- The results 'a row in memory, a temporary'. -/
theorem ret_cell_tmp {fn : Func} {p u : Tmp} {ty : TypeId} (h : fn.results = #[.cell p ty, .tmp u]) (tmps : Array Value) (w : World) (b off : Nat) (cs : List Value) (d : TypeDesc)
    (hp : tmps.getD p undef = .pointer (some ⟨b, off, none⟩)) (hc : w.rangeAt b off cs) (hu : P.underlying ty = some d) (hd : d.isRow = true) (hi : (P.info? ty).map (·.size) = some cs.length) :
    (results fn tmps).run P w = .ok (.tuple #[.agg cs.toArray, tmps.getD u undef]) w := by
  rw [results_cell_tmp h, hp]
  simp [asAddr, run_loadVar_mid w b off ty cs d hc hu hd hi]
theorem ret_cell {fn : Func} {p : Tmp} {ty : TypeId} (h : fn.results = #[.cell p ty]) (tmps : Array Value) (w : World) (b off : Nat) (cs : List Value) (d : TypeDesc)
    (hp : tmps.getD p undef = .pointer (some ⟨b, off, none⟩)) (hc : w.rangeAt b off cs) (hu : P.underlying ty = some d) (hd : d.isRow = true) (hi : (P.info? ty).map (·.size) = some cs.length) :
    (results fn tmps).run P w = .ok (.agg cs.toArray) w := by
  have hp' : tmps[p]?.getD undef = .pointer (some ⟨b, off, none⟩) := by simpa using hp
  simp [results, h, hp', asAddr, run_loadVar_mid w b off ty cs d hc hu hd hi]
theorem rangeAt_setRow {w : World} {g : Nat} {c0 : Array Value} {t : TypeId} {fr : Nat × Nat} {cs : List Value} (hg : w.heap[g]? = some (.cells c0 t fr)) : (w.setRow g cs.toArray).rangeAt g 0 cs := by
  intro j v hv
  rw [Nat.zero_add, cell_setRow_same w g j c0 _ t fr hg]
  simpa using hv
theorem below_setRow {B : Nat} {w w1 : World} (h : Below B w w1) {g : Nat} (hg : B ≤ g) (cs : Array Value) : Below B w (w1.setRow g cs) :=
  h.trans ⟨rfl, rfl, rfl, by simp, fun k hk => setRow_other w1 g k cs (by omega)⟩
end
end Aq
end Go.Proofs.Ytaacpoadfdmfnaa
