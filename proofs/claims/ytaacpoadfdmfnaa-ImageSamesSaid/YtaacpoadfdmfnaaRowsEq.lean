/-
  '==' and '!=' on arrays of integers, and on a struct of a number and such an array: as the lists of numbers are. No program is named here.
-/
import Derived.Test.YtaacpoadfdmfnaaBase
import Derived.ChangeKeysEq
namespace Go.Proofs.Ytaacpoadfdmfnaa
open Go Go.RowKit
namespace Aq
section
variable {P : Program} (w : World)
theorem run_part_int {e : TypeId} {k : IntKind} (he : P.underlying e = some (.int k)) {xs : Array Value} {off : Nat} {v : Value} (hx : xs[off]? = some v) : (part e xs off).run P w = .ok v w := by
  simp [part, isAgg, run_underlying he, hx, Sem.run_bind]
theorem run_eqItems_ints (d : Nat) {e : TypeId} {k : IntKind} (he : P.underlying e = some (.int k)) (xs ys : Array Value) (f g : Nat → Int) : ∀ is : List Nat,
    (∀ i, i ∈ is → xs[i]? = some (.int k (f i)) ∧ ys[i]? = some (.int k (g i))) → (Op.eqItems (d + 1) e 1 xs ys is).run P w = .ok (is.all fun i => f i == g i) w
  | [], _ => by simp [Op.eqItems]
  | i :: is, h => by
    obtain ⟨h1, h2⟩ := h i (List.mem_cons_self ..)
    have ih := run_eqItems_ints d he xs ys f g is (fun j hj => h j (List.mem_cons_of_mem _ hj))
    simp only [Op.eqItems, Sem.run_bind, Nat.mul_one, run_part_int w he h1, run_part_int w he h2, Result.andThen_ok, run_equalIn_int w d e k k (f i) (g i) he]
    cases hfg : (f i == g i) with
    | false => simp [hfg]
    | true => simp [hfg]; rw [ih]
theorem all_range_eq (as bs : List Int) (h : as.length = bs.length) : ((List.range as.length).all fun i => as.getD i 0 == bs.getD i 0) = (as == bs) := by
  rw [Bool.eq_iff_iff, List.all_eq_true, beq_iff_eq]
  constructor
  · intro hh
    apply List.ext_getElem h
    intro i h1 h2
    have := hh i (List.mem_range.2 h1)
    simpa [List.getD_eq_getElem?_getD, List.getElem?_eq_getElem h1, List.getElem?_eq_getElem h2] using this
  · rintro rfl i _
    simp
/-- The cells of a row of integers. -/
def ints (k : IntKind) (as : List Int) : List Value := as.map (.int k)
@[simp] theorem ints_length (k : IntKind) (as : List Int) : (ints k as).length = as.length := by simp [ints]
theorem ints_get (k : IntKind) (as : List Int) (i : Nat) (h : i < as.length) : (ints k as)[i]? = some (.int k (as.getD i 0)) := by
  simp [ints, List.getD_eq_getElem?_getD, List.getElem?_eq_getElem h]
theorem ints_one (k : IntKind) (as : List Int) : ∀ v, v ∈ ints k as → v.oneCell' = true := by
  intro v hv
  obtain ⟨n, _, rfl⟩ := List.mem_map.1 hv
  rfl
theorem cellsOf_int {e : TypeId} {i : TypeInfo} (hi : P.info? e = some i) (hs : i.size = 1) : P.cellsOf e = 1 := by
  simp [Program.cellsOf, hi, hs]
theorem run_equalIn_ints (d : Nat) {t e : TypeId} {k : IntKind} {n : Nat} {i : TypeInfo} (hu : P.underlying t = some (.array n e)) (he : P.underlying e = some (.int k)) (hi : P.info? e = some i) (hc : P.cellsOf e = 1)
    (as bs : List Int) (ha : as.length = n) (hb : bs.length = n) : (Op.equalIn (d + 2) t (.agg (ints k as).toArray) (.agg (ints k bs).toArray)).run P w = .ok (as == bs) w := by
  rw [run_equalIn_array w (d + 1) _ _ hu hi, hc, run_eqItems_ints w d he _ _ (fun i => as.getD i 0) (fun i => bs.getD i 0)]
  · rw [← ha, all_range_eq as bs (by omega)]
  · intro j hj
    have hj := List.mem_range.1 hj
    exact ⟨by rw [List.getElem?_toArray]; exact ints_get k as j (by omega), by rw [List.getElem?_toArray]; exact ints_get k bs j (by omega)⟩
theorem run_eql_ints {t e : TypeId} {k : IntKind} {n : Nat} {i : TypeInfo} (hu : P.underlying t = some (.array n e)) (he : P.underlying e = some (.int k)) (hi : P.info? e = some i) (hc : P.cellsOf e = 1)
    (as bs : List Int) (ha : as.length = n) (hb : bs.length = n) : (binOp .eql t (.agg (ints k as).toArray) (.agg (ints k bs).toArray)).run P w = .ok (.bool (as == bs)) w := by
  simp only [binOp]
  simp [Op.equal, Op.maxDepth, run_equalIn_ints w 9998 hu he hi hc as bs ha hb]
theorem run_neq_ints {t e : TypeId} {k : IntKind} {n : Nat} {i : TypeInfo} (hu : P.underlying t = some (.array n e)) (he : P.underlying e = some (.int k)) (hi : P.info? e = some i) (hc : P.cellsOf e = 1)
    (as bs : List Int) (ha : as.length = n) (hb : bs.length = n) : (binOp .neq t (.agg (ints k as).toArray) (.agg (ints k bs).toArray)).run P w = .ok (.bool (!(as == bs))) w := by
  simp only [binOp]
  simp [Op.equal, Op.maxDepth, run_equalIn_ints w 9998 hu he hi hc as bs ha hb]
/-- A struct of a number and an array of numbers. -/
theorem run_equalIn_numArr (d : Nat) {t t2 e : TypeId} {k k1 : IntKind} {n : Nat} {i i2 : TypeInfo} {f1 f2 : Field} (hf : P.underlying t = some (.struct #[f1, f2])) (hs : P.stoodInHeld t = false)
    (hn1 : f1.name ≠ "_") (hn2 : f2.name ≠ "_") (ho1 : f1.offset = 0) (ho2 : f2.offset = 1) (h1 : P.underlying f1.type = some (.int k1)) (h2 : f2.type = t2)
    (hu : P.underlying t2 = some (.array n e)) (hi2 : P.info? t2 = some i2) (hs2 : i2.size = n) (he : P.underlying e = some (.int k)) (hi : P.info? e = some i) (hc : P.cellsOf e = 1)
    (x y : Int) (as bs : List Int) (ha : as.length = n) (hb : bs.length = n) :
    (Op.equalIn (d + 3) t (.agg (.int k1 x :: ints k as).toArray) (.agg (.int k1 y :: ints k bs).toArray)).run P w = .ok (x == y && as == bs) w := by
  have hfo : P.fieldsOf t = #[f1, f2] := by simp [Program.fieldsOf, hf]
  rw [run_equalIn_struct w (d + 2) t _ _ (by rw [hfo]; exact hf) hs, hfo]
  have p1 := run_part_int (P := P) w h1 (xs := (.int k1 x :: ints k as).toArray) (off := 0) (v := .int k1 x) (by simp)
  have p2 := run_part_int (P := P) w h1 (xs := (.int k1 y :: ints k bs).toArray) (off := 0) (v := .int k1 y) (by simp)
  have q : ∀ (z : Value) (cs : List Int), cs.length = n → (part t2 (z :: ints k cs).toArray 1).run P w = .ok (.agg (ints k cs).toArray) w := by
    intro z cs hcs
    have hl : List.take n (ints k cs) = ints k cs := List.take_of_length_le (by simp [hcs])
    simp [part, isAgg, run_underlying hu, Sem.run_bind, sizeOf, typeInfo, hi2, hs2, hl]
  have e1 := run_equalIn_int (P := P) w (d + 1) f1.type k1 k1 x y h1
  have e2 := run_equalIn_ints (P := P) w d hu he hi hc as bs ha hb
  cases hxy : (x == y)
  · simp [Op.eqFields, Sem.run_bind, hn1, ho1, p1, p2, e1, hxy]
  · cases hab : (as == bs) <;> simp [Op.eqFields, Sem.run_bind, hn1, hn2, ho1, ho2, h2, p1, p2, q _ as ha, q _ bs hb, e1, e2, hxy, hab]
end
end Aq
end Go.Proofs.Ytaacpoadfdmfnaa
