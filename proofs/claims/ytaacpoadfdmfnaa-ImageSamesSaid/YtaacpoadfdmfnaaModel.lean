/-
  An image as data, and how its parts lie in rows.
-/
import Derived.Test.YtaacpoadfdmfnaaBase
import Derived.Test.YtaacpoadfdmfnaaRowsEq
namespace Go.Proofs.Ytaacpoadfdmfnaa
open Go Go.RowKit
namespace Aq
/-- A component: its numbers, the value of its slice of blocks, and the blocks. -/
structure Comp where
  id : Int
  h : Int
  v : Int
  q : Int
  cols : Int
  rows : Int
  bv : Value
  bs : List (List Int)
structure Quant where
  pl : Int
  q : List Int
structure Tag where
  kind : Int
  body : ByteArray
def i64 (n : Int) : Prop := -9223372036854775808 ≤ n ∧ n ≤ 9223372036854775807
def compRow (c : Comp) : List Value := [.int .i64 c.id, .int .i64 c.h, .int .i64 c.v, .int .i64 c.q, .int .i64 c.cols, .int .i64 c.rows, c.bv]
def blockRow (b : List Int) : List Value := ints .i16 b
def quantRow (q : Quant) : List Value := .int .i64 q.pl :: ints .u16 q.q
def tagRow (t : Tag) : List Value := [.int .i64 t.kind, .string t.body]
/-- The image whose sides are W, H and whose slices are cv, qv, tv reads as cs, qs, ts. -/
structure RdImg (w : World) (cv qv tv : Value) (cs : List Comp) (qs : List Quant) (ts : List Tag) : Prop where
  comps : RdL w 7 cv (cs.map compRow)
  blocks : ∀ c, c ∈ cs → RdL w 64 c.bv (c.bs.map blockRow)
  quants : RdL w 65 qv (qs.map quantRow)
  tags : RdL w 2 tv (ts.map tagRow)
  wfc : ∀ c, c ∈ cs → i64 c.id ∧ i64 c.h ∧ i64 c.v ∧ i64 c.q ∧ i64 c.cols ∧ i64 c.rows
  wfb : ∀ c, c ∈ cs → ∀ b, b ∈ c.bs → ∀ n, n ∈ b → -32768 ≤ n ∧ n ≤ 32767
  wfq : ∀ q, q ∈ qs → i64 q.pl ∧ ∀ n, n ∈ q.q → 0 ≤ n ∧ n ≤ 65535
  wft : ∀ t, t ∈ ts → i64 t.kind ∧ t.body.size ≤ 140737488355328
theorem RdImg.below {w w' : World} {cv qv tv : Value} {cs : List Comp} {qs : List Quant} {ts : List Tag} (h : RdImg w cv qv tv cs qs ts) (hB : Below w.heap.size w w') : RdImg w' cv qv tv cs qs ts :=
  ⟨h.comps.below hB, fun c hc => (h.blocks c hc).below hB, h.quants.below hB, h.tags.below hB, h.wfc, h.wfb, h.wfq, h.wft⟩
theorem RdImg.blen {w : World} {cv qv tv : Value} {cs : List Comp} {qs : List Quant} {ts : List Tag} (h : RdImg w cv qv tv cs qs ts) {c : Comp} (hc : c ∈ cs) {b : List Int} (hb : b ∈ c.bs) : b.length = 64 := by
  have := (h.blocks c hc).len (blockRow b) (List.mem_map.2 ⟨b, hb, rfl⟩)
  simpa [blockRow] using this
theorem RdImg.qlen {w : World} {cv qv tv : Value} {cs : List Comp} {qs : List Quant} {ts : List Tag} (h : RdImg w cv qv tv cs qs ts) {q : Quant} (hq : q ∈ qs) : q.q.length = 64 := by
  have := h.quants.len (quantRow q) (List.mem_map.2 ⟨q, hq, rfl⟩)
  simpa [quantRow] using this
/-- A slice is taken at its beginning. -/
theorem RdL.take {w : World} {k : Nat} {p : Option Addr} {n cap : Nat} {rows : List (List Value)} (h : RdL w k (.slice p n cap) rows) (m : Nat) (hm : m ≤ rows.length) : RdL w k (.slice p m cap) (rows.take m) := by
  obtain ⟨⟨p', cap', hv, hc, ⟨h1, h2⟩, hr⟩, hk, ho⟩ := h
  cases hv
  refine ⟨⟨p, cap, by rw [List.length_take, Nat.min_eq_left hm], by rw [List.length_take]; omega, ⟨h1, by rw [List.length_take]; omega⟩, fun hne => ?_⟩, fun x hx => hk x (List.mem_of_mem_take hx), fun x hx => ho x (List.mem_of_mem_take hx)⟩
  obtain ⟨b, o, hp, hx⟩ := hr (fun e => hne (by rw [e]; simp))
  refine ⟨b, o, hp, fun i x hi => hx i x ?_⟩
  rw [List.getElem?_take] at hi
  split at hi
  · exact hi
  · cases hi
end Aq
end Go.Proofs.Ytaacpoadfdmfnaa
