/-
  What the document's Same answers for two planes and for two images: the program's.
-/
import Derived.Test.YtaacpoadfdmfnaaSame
import Derived.Test.YtaacpoadfdmfnaaRef3
namespace Go.Proofs.Ytaacpoadfdmfnaa
open Go Go.RowKit Go.Shelf
namespace Aq
theorem map_beq_false {α β : Type} [BEq β] [LawfulBEq β] {f : α → β} {x y : List α} {k : Nat} {a b : α} (hx : x[k]? = some a) (hy : y[k]? = some b) (h : (f a == f b) = false) : (x.map f == y.map f) = false := by
  rw [beq_eq_false_iff_ne]
  intro e
  have := congrArg (fun l => l[k]?) e
  simp only [List.getElem?_map, hx, hy, Option.map_some, Option.some.injEq] at this
  rw [this] at h
  simp at h
theorem map_beq_len {α β : Type} [BEq β] [LawfulBEq β] {f : α → β} {x y : List α} (h : x.length ≠ y.length) : (x.map f == y.map f) = false := by
  rw [beq_eq_false_iff_ne]
  intro e
  have := congrArg List.length e
  simp only [List.length_map] at this
  exact h this
theorem map_beq_true {α β : Type} [BEq β] [LawfulBEq β] {f : α → β} {x y : List α} (hl : x.length = y.length) (h : ∀ (i : Nat) (a b : α), i < x.length → x[i]? = some a → y[i]? = some b → f a = f b) : (x.map f == y.map f) = true := by
  rw [beq_iff_eq]
  apply List.ext_getElem (by simp [hl])
  intro i hi hj
  simp only [List.length_map] at hi hj
  rw [List.getElem_map, List.getElem_map]
  exact h i _ _ hi (List.getElem?_eq_getElem hi) (List.getElem?_eq_getElem hj)
set_option maxRecDepth 100000 in
set_option maxHeartbeats 2000000 in
theorem refPlSame_any {w : World} {c1 r1 c2 r2 : Int} {v1 v2 : Value} {x y : List (List Int)} (h1 : RdL w 64 v1 (x.map blockRow)) (h2 : RdL w 64 v2 (y.map blockRow)) :
    Calls Try.prog 82 #[.agg #[.int .i64 c1, .int .i64 r1, v1], .agg #[.int .i64 c2, .int .i64 r2, v2]] w (Ret (.bool (c1 == c2 && (r1 == r2 && x == y))) w) := by
  have HNQ := Lib.hid (show ∀ i b c, x[i]? = some b → y[i]? = some c → ∀ w', (binOp .neq 57 (.agg (blockRow b).toArray) (.agg (blockRow c).toArray)).run Try.prog w' = .ok (.bool (!(b == c))) w' from fun i b c hb hc w' => neq_block w' b c (rd_len64 h1 (List.mem_of_getElem? hb)) (rd_len64 h2 (List.mem_of_getElem? hc)))
  obtain ⟨⟨p1, a1, rfl, hcap1, hcm1, hx1⟩, hk1, ho1⟩ := h1
  obtain ⟨⟨p2, a2, rfl, hcap2, hcm2, hx2⟩, hk2, ho2⟩ := h2
  have HK1 := Lib.hid (show ∀ i b, x[i]? = some b → (Try.prog.info? 57).map (·.size) = some (blockRow b).length from fun i b hb => by rw [hk1 (blockRow b) (List.mem_map.2 ⟨b, List.mem_of_getElem? hb, rfl⟩)]; exact size_Block)
  have HK2 := Lib.hid (show ∀ i b, y[i]? = some b → (Try.prog.info? 57).map (·.size) = some (blockRow b).length from fun i b hb => by rw [hk2 (blockRow b) (List.mem_map.2 ⟨b, List.mem_of_getElem? hb, rfl⟩)]; exact size_Block)
  rw [List.length_map] at hcm1 hcm2 ⊢
  rw [List.length_map]
  have hn1 : x.length ≤ 140737488355328 := hcm1.2
  have hn2 : y.length ≤ 140737488355328 := hcm2.2
  have HX1 := Lib.hid hx1; have HX2 := Lib.hid hx2
  clear hcap1 hcm1 hcap2 hcm2 ho1 ho2 hk1 hk2 hx1 hx2
  obtain ⟨w2, hw2⟩ : ∃ w2, w2 = (w.alloc (.cells #[.int .i64 c1, .int .i64 r1, .slice p1 x.length a1] 61)).alloc (.cells #[.int .i64 c2, .int .i64 r2, .slice p2 y.length a2] 61) := ⟨_, rfl⟩
  have hB2 : Below w.heap.size w w2 := by rw [hw2]; exact (below_new _).trans ((below_new _).mono (by simp))
  have B1 : w2.heap[w.heap.size]? = some (.cells #[.int .i64 c1, .int .i64 r1, .slice p1 x.length a1] 61 (0, 0)) := by rw [hw2]; exact blk_old (heap_alloc_new _ _) _
  have B2 : w2.heap[w.heap.size + 1]? = some (.cells #[.int .i64 c2, .int .i64 r2, .slice p2 y.length a2] 61 (0, 0)) := by rw [hw2]; exact heap_new (by simp)
  have HBL := Lib.hid (show ∀ w', Below w2.heap.size w2 w' → w'.heap[w.heap.size]? = some (.cells #[.int .i64 c1, .int .i64 r1, .slice p1 x.length a1] 61 (0, 0)) ∧ w'.heap[w.heap.size + 1]? = some (.cells #[.int .i64 c2, .int .i64 r2, .slice p2 y.length a2] 61 (0, 0)) ∧ Below w.heap.size w w' from fun w' hB => ⟨blk_below B1 hB, blk_below B2 hB, hB2.trans (hB.mono hB2.size)⟩)
  obtain ⟨z1, ⟨m0, m1, m2⟩, _⟩ := blk3 B1
  obtain ⟨z2, ⟨n0, n1, n2⟩, _⟩ := blk3 B2
  have HB2 := Lib.hid hB2
  clear B1 B2 hB2
  cases hb1 : (c1 != c2)
  · have HC := Lib.hid (show (c1 == c2) = true from by simpa [bne] using hb1)
    cases hb2 : (r1 != r2)
    · have HR := Lib.hid (show (r1 == r2) = true from by simpa [bne] using hb2)
      cases hb3 : ((x.length : Int) != (y.length : Int))
      · have HL := Lib.hid (show x.length = y.length from by have := (show ((x.length : Int) == (y.length : Int)) = true from by simpa [bne] using hb3); have := eq_of_beq this; omega)
        go_enter Try.func82, Try.ntmps82
        go_wp2_with fail
        rw [← hw2]
        clear hw2
        go_wp2_with fail
        clear z1 z2 m0 m1 m2 n0 n1 n2 hb1 hb2 hb3
        go_loopw [5] (fun i wr => ∃ k : Nat, k ≤ x.length ∧ i = .int .i64 k ∧ Hid (Below w2.heap.size w2 wr) ∧ Hid (∀ j b c, j < k → x[j]? = some b → y[j]? = some c → b = c)) (fun i wr => x.length - (intOf i).toNat)
        case atStart => exact ⟨0, by omega, rfl, Below.refl _ _, fun j c d hj => absurd hj (Nat.not_lt_zero _)⟩
        case round =>
          obtain ⟨k, hkn, rfl, HB, HE⟩ := hrel
          obtain ⟨wo, rfl⟩ : ∃ wo : World, wo = wr := ⟨_, rfl⟩
          obtain ⟨y1, y2, hBw⟩ := HBL.out wo HB.out
          have HBW := Lib.hid hBw
          obtain ⟨z1, ⟨m0, m1, m2⟩, _⟩ := blk3 y1
          obtain ⟨z2, ⟨n0, n1, n2⟩, _⟩ := blk3 y2
          clear y1 y2 hBw
          by_cases hlt : k < x.length
          · obtain ⟨b, hb⟩ : ∃ b, x[k]? = some b := ⟨_, List.getElem?_eq_getElem hlt⟩
            obtain ⟨c, hc⟩ : ∃ c, y[k]? = some c := ⟨_, List.getElem?_eq_getElem (by rw [← HL.out]; exact hlt)⟩
            obtain ⟨b1, o1, rfl, hx1⟩ := HX1.out (fun e => by rw [List.map_eq_nil_iff] at e; rw [e] at hb; simp at hb)
            obtain ⟨b2, o2, rfl, hx2⟩ := HX2.out (fun e => by rw [List.map_eq_nil_iff] at e; rw [e] at hc; simp at hc)
            have hr1 : wo.rangeAt b1 (o1 + k * 64) (blockRow b) := rangeAt_below HBW.out (hx1 k (blockRow b) (by simp [hb]))
            have hr2 : wo.rangeAt b2 (o2 + k * 64) (blockRow c) := rangeAt_below HBW.out (hx2 k (blockRow c) (by simp [hc]))
            have hs1 := HK1.out k b hb
            have hs2 := HK2.out k c hc
            have hq := HNQ.out k b c hb hc
            have HBB := Lib.hid hb; have HCC := Lib.hid hc
            have hk1 : (k : Int) < (x.length : Int) := by omega
            have hk2 : (k : Int) < (y.length : Int) := by have := HL.out; omega
            have HR1 := Lib.hid hr1; have HR2 := Lib.hid hr2; have HS1 := Lib.hid hs1; have HS2 := Lib.hid hs2; have HQ := Lib.hid hq
            clear hx1 hx2 hb hc hr1 hr2 hs1 hs2 hq
            go_wp2_with fail
            refine wp_region_calm (by kernel_rfl) (by kernel_rfl) ?_
            repeat ((first | (refine calm_load_mid rfl 57 _ rfl b1 (o1 + k * 64) rfl (blockRow b) _ HR1.out Try.underlying57 rfl HS1.out ?_) | (refine calm_load_mid rfl 57 _ rfl b2 (o2 + k * 64) rfl (blockRow c) _ HR2.out Try.underlying57 rfl HS2.out ?_) | (refine calm_neq_agg rfl 57 _ _ _ rfl _ _ rfl rfl _ eqg_Block (fun w' _ => HQ.out w') ?_) | (refine calm_ex rfl ?_; apply Exists.intro; refine ⟨fun w' hC => ?_, ?_⟩; (focus (have hcc := old_cell hC m2; have hdd := old_cell hC n2; go_simp; with_reducible rfl))) | (refine calm_skip rfl ?_) | (refine calm_ex rfl ?_; apply Exists.intro; refine ⟨fun w' hC => ?_, ?_⟩; (focus (go_simp; with_reducible rfl)))); (try simp only [Act.put, List.setIfInBounds_toArray, List.set_cons_zero, List.set_cons_succ]))
            refine wpQuiet_nil ?_
            intro w3 hB3
            have HB3 := Lib.hid (HB.out.trans (hB3.mono HB.out.size))
            have HBW3 := Lib.hid (HBW.out.trans (hB3.mono HBW.out.size))
            clear hB3 m0 m1 m2 n0 n1 n2
            cases hz : (b == c) with
            | true =>
              have HZ := Lib.hid (show b = c from by simpa using hz)
              clear hz
              go_wp2_with fail
              go_roundw
              case rel => exact ⟨k + 1, by omega, by go_num, HB3.out, fun j c' d' hj h1 h2 => by
                by_cases h : j = k
                · subst h
                  rw [HBB.out] at h1
                  rw [HCC.out] at h2
                  cases h1; cases h2
                  exact HZ.out
                · exact HE.out j c' d' (by omega) h1 h2⟩
              case measure => simp [intOf]; omega
            | false =>
              have HF := Lib.hid (show (x == y) = false from by
                have := map_beq_false (f := fun b => b) HBB.out HCC.out hz
                simpa using this)
              clear hz
              go_wp2_with fail
              go_ret
              exact ⟨by rw [HF.out, HC.out, HR.out]; rfl, HBW3.out⟩
          · obtain rfl : k = x.length := by omega
            have HF := Lib.hid (show (x == y) = true from by
              have := map_beq_true (f := fun b => b) HL.out (fun i a b hi h1 h2 => HE.out i a b hi h1 h2)
              simpa using this)
            go_wp2_with fail
            go_ret
            exact ⟨by rw [HF.out, HC.out, HR.out]; rfl, HBW.out⟩
      · have HF := Lib.hid (show (c1 == c2 && (r1 == r2 && x == y)) = false from by
          have hne : x.length ≠ y.length := fun e => by rw [e] at hb3; simp at hb3
          have := map_beq_len (f := fun b => b) hne
          rw [show (x == y) = false from by simpa using this]
          simp)
        go_enter Try.func82, Try.ntmps82
        go_wp2_with fail
        rw [← hw2]
        clear hw2
        go_wp2_with fail
        go_ret
        exact ⟨by rw [HF.out]; rfl, HB2.out⟩
    · have HF := Lib.hid (show (c1 == c2 && (r1 == r2 && x == y)) = false from by
        rw [show (r1 == r2) = false from by simpa [bne] using hb2]; simp)
      go_enter Try.func82, Try.ntmps82
      go_wp2_with fail
      rw [← hw2]
      clear hw2
      go_wp2_with fail
      go_ret
      exact ⟨by rw [HF.out]; rfl, HB2.out⟩
  · have HF := Lib.hid (show (c1 == c2 && (r1 == r2 && x == y)) = false from by
      rw [show (c1 == c2) = false from by simpa [bne] using hb1]; simp)
    go_enter Try.func82, Try.ntmps82
    go_wp2_with fail
    rw [← hw2]
    clear hw2
    go_wp2_with fail
    go_ret
    exact ⟨by rw [HF.out]; rfl, HB2.out⟩
end Aq
end Go.Proofs.Ytaacpoadfdmfnaa
