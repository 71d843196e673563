/-
  ImageTables: the table of any place is the first one of that place: for every image and every place. No condition.
-/
import Derived.Test.YtaacpoadfdmfnaaAwake11
import Derived.Test.YtaacpoadfdmfnaaOpen
import Derived.Test.YtaacpoadfdmfnaaSmall
import Derived.Test.YtaacpoadfdmfnaaGuarded
import Derived.Test.YtaacpoadfdmfnaaRef3
import Derived.BigQuiet
namespace Go.Proofs.Ytaacpoadfdmfnaa
open Go Go.RowKit Go.Shelf
namespace Aq
/-- An image that is boxed: its five cells, and what it reads as. -/
theorem boxed_img {w : World} {W H : Int} {cv qv tv : Value} {cs : List Comp} {qs : List Quant} {ts : List Tag} (hR : RdImg w cv qv tv cs qs ts) :
    ∃ cp cc qp qc tp tc, cv = .slice cp cs.length cc ∧ qv = .slice qp qs.length qc ∧ tv = .slice tp ts.length tc ∧
      ∀ w', Below (w.alloc (.cells #[.int .i64 W, .int .i64 H, cv, qv, tv] 26)).heap.size (w.alloc (.cells #[.int .i64 W, .int .i64 H, cv, qv, tv] 26)) w' →
        w'.heap[w.heap.size]? = some (.cells #[.int .i64 W, .int .i64 H, cv, qv, tv] 26 (0, 0)) ∧ RdImg w' cv qv tv cs qs ts ∧ Below w.heap.size w w' := by
  obtain ⟨cp, cc, ecv, _⟩ := hR.comps.form
  obtain ⟨qp, qc, eqv, _⟩ := hR.quants.form
  obtain ⟨tp, tc, etv, _⟩ := hR.tags.form
  rw [List.length_map] at ecv eqv etv
  exact ⟨cp, cc, qp, qc, tp, tc, ecv, eqv, etv, fun w' hB => ⟨blk_below (heap_alloc_new _ _) hB, (hR.below (below_new _)).below hB, below_of_new hB⟩⟩
theorem small_yes {w : World} {W H : Int} {cv qv tv : Value} {cs : List Comp} {qs : List Quant} {ts : List Tag} (hR : RdImg w cv qv tv cs qs ts) (hf : fewB 300 140000 cs qs ts = true) :
    Calls Try.prog 19 #[.agg #[.int .i64 W, .int .i64 H, cv, qv, tv]] w (Ret (.int .i64 1) w) := by
  have := small_any (W := W) (H := H) hR
  rw [if_pos hf] at this
  exact this
theorem small_no {w : World} {W H : Int} {cv qv tv : Value} {cs : List Comp} {qs : List Quant} {ts : List Tag} (hR : RdImg w cv qv tv cs qs ts) (hf : ¬ fewB 300 140000 cs qs ts = true) :
    Calls Try.prog 19 #[.agg #[.int .i64 W, .int .i64 H, cv, qv, tv]] w (Ret (.int .i64 0) w) := by
  have := small_any (W := W) (H := H) hR
  rw [if_neg hf] at this
  exact this
theorem eqg_u64 : Try.prog.eqGuardType Try.prog.depth 35 = false := by kernel_rfl
theorem infou16 : ∃ i, Try.prog.info? 34 = some i := by
  have : (Try.prog.info? 34).map (·.size) = some 1 := by kernel_rfl
  obtain ⟨i, hi, _⟩ := Option.map_eq_some_iff.1 this
  exact ⟨i, hi⟩
theorem eql_u64 (w : World) (x y : List Int) (ha : x.length = 64) (hb : y.length = 64) : (binOp .eql 35 (.agg (ints .u16 x).toArray) (.agg (ints .u16 y).toArray)).run Try.prog w = .ok (.bool (x == y)) w := by
  obtain ⟨i, hi⟩ := infou16
  exact run_eql_ints w Try.underlying35 Try.underlying34 hi cells_uint16 x y ha hb
/-- What Table's answer says. -/
theorem tab_cases {w : World} {cv qv tv : Value} {cs : List Comp} {qs : List Quant} {ts : List Tag} (hR : RdImg w cv qv tv cs qs ts) (n : Int) :
    ∃ (a : List Int) (ok : Bool), a.length = 64 ∧ ((ok = true ∧ ∃ (k : Nat) (q : Quant), qs[k]? = some q ∧ q.pl = n ∧ a = q.q ∧ ∀ (i : Nat) (r : Quant), i < k → qs[i]? = some r → r.pl ≠ n) ∨ (ok = false ∧ a = zero64 ∧ ∀ r, r ∈ qs → r.pl ≠ n)) ∧
      tabV (qs.find? fun q => q.pl == n) = .tuple #[.agg (ints .u16 a).toArray, .bool ok] := by
  cases h : qs.find? fun q => q.pl == n with
  | none =>
    refine ⟨zero64, false, rfl, .inr ⟨rfl, rfl, fun r hr => ?_⟩, rfl⟩
    have := List.find?_eq_none.1 h r hr
    simpa using this
  | some q =>
    obtain ⟨hp, l1, l2, e, hno⟩ := List.find?_eq_some_iff_append.1 h
    refine ⟨q.q, true, hR.qlen (List.mem_of_find?_eq_some h), .inl ⟨rfl, l1.length, q, by rw [e]; simp, by simpa using hp, rfl, fun i r hi hr => ?_⟩, rfl⟩
    rw [e, List.getElem?_append_left hi] at hr
    have := hno r (List.mem_of_getElem? hr)
    simpa using this
set_option maxRecDepth 100000 in
set_option maxHeartbeats 4000000 in
theorem imageTables_any {w : World} {W H n : Int} {cv qv tv : Value} {cs : List Comp} {qs : List Quant} {ts : List Tag} (hR : RdImg w cv qv tv cs qs ts) (_hn : i64 n) :
    Calls Try.prog 4 #[.agg #[.int .i64 W, .int .i64 H, cv, qv, tv], .int .i64 n] w (Ret (.bool true) w) := by
  obtain ⟨cp, cc, qp, qc, tp, tc, rfl, rfl, rfl, hbox⟩ := boxed_img (W := W) (H := H) hR
  have HBX := Lib.hid hbox
  clear hbox hR
  go_enter Try.func4, Try.ntmps4
  go_wp2_with fail
  refine (awake11_any _).mono ?_
  rintro e w2 ⟨rfl, hB2⟩
  obtain ⟨bM, hI, hB⟩ := HBX.out w2 hB2
  obtain ⟨s0, ⟨m0, m1, m2, m3, m4⟩, _⟩ := blk5 bM
  have HI := Lib.hid hI; have HB := Lib.hid hB; have HB2 := Lib.hid hB2
  clear bM hI hB hB2
  by_cases hf : fewB 300 140000 cs qs ts = true
  · have HF := Lib.hid hf
    clear hf
    go_wp2_with fail
    refine (small_yes HI.out HF.out).mono ?_
    rintro e w3 ⟨rfl, hB3⟩
    obtain ⟨bM, hI, hB⟩ := HBX.out w3 (HB2.out.trans (hB3.mono HB2.out.size))
    obtain ⟨s0, ⟨m0, m1, m2, m3, m4⟩, _⟩ := blk5 bM
    have HB23 := Lib.hid (HB2.out.trans (hB3.mono HB2.out.size))
    have HI := Lib.hid hI; have HB := Lib.hid hB
    clear bM hI hB hB3
    go_wp2_with fail
    refine (table_any n HI.out.quants).mono ?_
    rintro e w4 ⟨rfl, hB4⟩
    obtain ⟨bM, hI, hB⟩ := HBX.out w4 (HB23.out.trans (hB4.mono HB23.out.size))
    obtain ⟨s0, ⟨m0, m1, m2, m3, m4⟩, _⟩ := blk5 bM
    have HI := Lib.hid hI; have HB := Lib.hid hB
    clear bM hI hB hB4
    obtain ⟨a, ok, hal, hok, htv⟩ := tab_cases HI.out n
    rw [htv]
    clear htv
    obtain ⟨w5, hw5⟩ : ∃ w5, w5 = w4.alloc (.cells (ints .u16 a).toArray 35) := ⟨_, rfl⟩
    have hB5 : Below w4.heap.size w4 w5 := by rw [hw5]; exact below_new _
    have HA := Lib.hid (show w5.rangeAt w4.heap.size 0 (ints .u16 a) from by rw [hw5]; exact rangeAt_new _ _ _)
    have H1 := Lib.hid (show (Try.prog.info? 35).map (·.size) = some (ints .u16 a).toArray.size from by rw [List.size_toArray, ints_length, hal]; exact size_u64)
    have H2 := Lib.hid (show 64 = (ints IntKind.u16 a).toArray.size from by rw [List.size_toArray, ints_length, hal])
    have H3 := Lib.hid (show (ints IntKind.u16 a).toArray.all (·.oneCell') = true from by simpa using ints_one .u16 a)
    have H4 := Lib.hid (show (Try.prog.info? 35).map (·.size) = some (ints .u16 a).length from by rw [ints_length, hal]; exact size_u64)
    have HOK := Lib.hid hok; have HAL := Lib.hid hal
    have m3' := old_cell hB5 m3
    have HI5 := Lib.hid (HI.out.below hB5)
    have HB5 := Lib.hid (HB.out.trans (hB5.mono HB.out.size))
    have hs5 : w.heap.size < w5.heap.size := lt_of_cell m3'
    clear hok hal hB5 m0 m1 m2 m3 m4
    go_wp2_with (refine wpList_store_new rfl 35 _ _ rfl w4 _ _ rfl rfl rfl H1.out H2.out H3.out ?_)
    rw [← hw5]
    clear hw5
    go_loopw [7] (fun i wr => ∃ k : Nat, k ≤ qs.length ∧ i = .int .i64 k ∧ Hid (∀ j r, j < k → qs[j]? = some r → r.pl ≠ n) ∧ w5 = wr) (fun i _ => qs.length - (intOf i).toNat)
    case atStart => exact ⟨0, Nat.zero_le _, rfl, fun j r hj => absurd hj (Nat.not_lt_zero _), rfl⟩
    case round =>
      obtain ⟨k, hk, rfl, HN, rfl⟩ := hrel
      have hql : qs.length ≤ 140737488355328 := by
        obtain ⟨_, _, _, _, ⟨_, h⟩, _⟩ := HI5.out.quants.form
        rw [List.length_map] at h
        exact h
      by_cases hlt : k < qs.length
      · obtain ⟨q, hq⟩ : ∃ q, qs[k]? = some q := ⟨_, List.getElem?_eq_getElem hlt⟩
        obtain ⟨b, o, rfl, hb, hr, h0⟩ := HI5.out.qrow rfl hq
        have hk1 : (k : Int) < (qs.length : Int) := by omega
        have hqq : q.q.length = 64 := HI5.out.qlen (List.mem_of_getElem? hq)
        by_cases he : q.pl = n
        · have hb1 : (q.pl == n) = true := by simp [he]
          have HE := Lib.hid he; have HQ := Lib.hid hq
          clear he hq
          obtain ⟨rfl, k', q', h1, h2, h3, h4⟩ | ⟨_, _, h3⟩ := HOK.out
          · have hkk : k' = k := by
              rcases Nat.lt_trichotomy k' k with h | h | h
              · exact absurd h2 (HN.out k' q' h h1)
              · exact h
              · exact absurd HE.out (h4 k q h HQ.out)
            subst hkk
            rw [HQ.out] at h1
            cases h1
            subst h3
            have HR := Lib.hid (rangeAt_tail hr)
            have HEQ := Lib.hid (show ∀ w', (binOp .eql 35 (.agg (ints .u16 q.q).toArray) (.agg (ints .u16 q.q).toArray)).run Try.prog w' = .ok (.bool true) w' from fun w' => by
              have := eql_u64 w' q.q q.q hqq hqq
              simpa using this)
            clear h2 h4 hr
            go_wp2_with fail
            refine wp_region_calm (by kernel_rfl) (by kernel_rfl) ?_
            repeat ((first | (refine calm_ex rfl ?_; apply Exists.intro; refine ⟨fun w' hC => ?_, ?_⟩; (focus (have hcc := old_cell hC m3'; go_simp; with_reducible rfl))) | (refine calm_load_mid rfl 35 _ rfl w4.heap.size 0 rfl (ints .u16 q.q) _ HA.out Try.underlying35 rfl H4.out ?_) | (refine calm_load_mid rfl 35 _ rfl b (o + k' * 65 + 1) rfl (ints .u16 q.q) _ HR.out Try.underlying35 rfl H4.out ?_) | (refine calm_eql_agg rfl 35 _ _ _ rfl _ _ rfl rfl true eqg_u64 (fun w' _ => HEQ.out w') ?_) | (refine calm_skip rfl ?_) | (refine calm_ex rfl ?_; apply Exists.intro; refine ⟨fun w' hC => ?_, ?_⟩; (focus (go_simp; with_reducible rfl)))); (try simp only [Act.put, List.setIfInBounds_toArray, List.set_cons_zero, List.set_cons_succ]))
            refine wpQuiet_nil ?_
            intro w' hB'
            go_wp2_with fail
            go_ret
            exact ⟨rfl, HB5.out.trans (hB'.mono HB5.out.size)⟩
          · exact absurd HE.out (h3 q (List.mem_of_getElem? HQ.out))
        · have hb1 : (q.pl == n) = false := by simp [he]
          have HE := Lib.hid he; have HQ := Lib.hid hq
          clear he hq hr
          go_wp2_with fail
          go_roundw
          case rel => exact ⟨k + 1, by omega, by go_num, fun j r hj hr => by
            by_cases h : j = k
            · subst h; rw [HQ.out] at hr; cases hr; exact HE.out
            · exact HN.out j r (by omega) hr, by first | rfl | trivial⟩
          case measure => simp [intOf]; omega
      · obtain rfl : k = qs.length := by omega
        obtain ⟨rfl, k', q', h1, h2, h3, h4⟩ | ⟨rfl, rfl, h3⟩ := HOK.out
        · exact absurd h2 (HN.out k' q' (List.getElem?_eq_some_iff.1 h1).1 h1)
        · have HEQ := Lib.hid (show ∀ w', (binOp .eql 35 (.agg (ints .u16 zero64).toArray) (.agg (ints .u16 zero64).toArray)).run Try.prog w' = .ok (.bool true) w' from fun w' => by
            have := eql_u64 w' zero64 zero64 rfl rfl
            simpa using this)
          clear h3
          go_wp2_with (first | (refine wpList_load_mid_g rfl 35 _ rfl w4.heap.size 0 rfl (ints .u16 zero64) _ HA.out Try.underlying35 rfl H4.out ?_) | (refine wpList_eql_agg_g rfl 35 _ _ _ rfl (ints .u16 zero64).toArray (ints .u16 zero64).toArray rfl rfl true eqg_u64 (HEQ.out _) ?_))
          go_ret
          exact ⟨rfl, HB5.out⟩
  · have HF := Lib.hid hf
    clear hf
    go_wp2_with fail
    refine (small_no HI.out HF.out).mono ?_
    rintro e w3 ⟨rfl, hB3⟩
    have HB3 := Lib.hid (HB.out.trans (hB3.mono HB.out.size))
    clear hB3
    go_wp2_with fail
    refine (awake11_any _).mono ?_
    rintro e w4 ⟨rfl, hB4⟩
    go_wp2_with fail
    go_ret
    exact ⟨rfl, HB3.out.trans (hB4.mono HB3.out.size)⟩
end Aq
end Go.Proofs.Ytaacpoadfdmfnaa
