/-
  What image.Blank answers.
-/
import Derived.Test.YtaacpoadfdmfnaaBlankL
import Derived.Test.YtaacpoadfdmfnaaRightM
import Derived.Deep.RegionHeld3
import Derived.Deep.DrawnRows
namespace Go.Proofs.Ytaacpoadfdmfnaa
open Go Go.RowKit Go.Shelf
namespace Aq
attribute [local go_sem ↓] Go.wp_at_zero Go.wp_at_succ
/-- A component whose plane is a blank grid. -/
def BlankC (gs : List Grid) (i : Nat) (c c' : Comp) : Prop :=
  c'.id = c.id ∧ c'.h = c.h ∧ c'.v = c.v ∧ c'.q = c.q ∧ c'.cols = (gs.getD i noGrid).cols ∧ c'.rows = (gs.getD i noGrid).rows ∧ c'.bs = zeroRows ((gs.getD i noGrid).cols * (gs.getD i noGrid).rows).toNat
def BlankOf (gs : List Grid) (cs cs' : List Comp) : Prop := cs'.length = cs.length ∧ ∀ i c c', cs[i]? = some c → cs'[i]? = some c' → BlankC gs i c c'
def zeroImg : Value := .agg #[.int .i64 0, .int .i64 0, .slice none 0 0, .slice none 0 0, .slice none 0 0]
def BlankP (w : World) (W H : Int) (cs : List Comp) (qs : List Quant) (e : Ending) (w' : World) : Prop :=
  Below w.heap.size w w' ∧ ∃ cs', BlankOf (gsOf W H cs) cs cs' ∧
    ((imgErr W H cs' qs [] ≠ 0 ∧ e = .returned (.tuple #[zeroImg, .int .i64 (imgErr W H cs' qs [])])) ∨
     (imgErr W H cs' qs [] = 0 ∧ ∃ cv qv, e = .returned (.tuple #[.agg #[.int .i64 W, .int .i64 H, cv, qv, .slice none 0 0], .int .i64 0]) ∧ RdImg w' cv qv (.slice none 0 0) cs' qs []))
/-- The loop's state: the first k components are blank. -/
structure BlankI (w0 w4 w : World) (base g cap : Nat) (cs : List Comp) (gs : List Grid) (k : Nat) : Prop where
  below : Below base w0 w
  keep : ∀ b, b < w4.heap.size → b ≠ g → w.heap[b]? = w4.heap[b]?
  size : w4.heap.size ≤ w.heap.size
  rows : ∃ l : List Comp, l.length = cs.length ∧ w.ownsRow base 63 7 (.slice (some ⟨g, 0, none⟩) cs.length cap) cs.length (l.map compRow).flatten ∧
    ∀ i c c', cs[i]? = some c → l[i]? = some c' → (i < k → BlankC gs i c c' ∧ w.ownsRow w4.heap.size 57 64 c'.bv c'.bs.length (c'.bs.map blockRow).flatten) ∧ (k ≤ i → c' = c)
theorem comp_rows7 (l : List Comp) : ∀ x, x ∈ l.map compRow → x.length = 7 := fun x hx => by obtain ⟨y, _, rfl⟩ := List.mem_map.1 hx; rfl
theorem blankI_step {w0 w4 wr w7 : World} {base g cap k n : Nat} {cs : List Comp} {gs : List Grid} (hI : BlankI w0 w4 wr base g cap cs gs k) (hk : k < cs.length) (hbg : base ≤ g) (hb0 : base ≤ w0.heap.size) (hg4 : g < w4.heap.size) (hB7 : Below wr.heap.size wr w7)
    {G : Grid} (hG : gs.getD k noGrid = G) {pp : Option Addr} {pc B7 : Nat} (hn : (G.cols * G.rows).toNat = n) (hB : w4.heap.size ≤ B7) (hO7 : w7.ownsRow B7 57 64 (.slice pp (zeroRows n).length pc) (zeroRows n).length ((zeroRows n).map blockRow).flatten) :
    BlankI w0 w4 (((w7.setCell ⟨g, k * 7 + 4, none⟩ (.int .i64 G.cols)).setCell ⟨g, k * 7 + 4 + 1, none⟩ (.int .i64 G.rows)).setCell ⟨g, k * 7 + 4 + 2, none⟩ (.slice pp (zeroRows n).length pc)) base g cap cs gs (k + 1) := by
  obtain ⟨hb, hkeep, hsz, l, hll, hlo, hlp⟩ := hI
  have h7 : Below base w0 w7 := hb.trans (hB7.mono (by have := hb.size; omega))
  refine ⟨((h7.setCell hbg _).setCell hbg _).setCell hbg _, fun b hb4 hne => ?_, ?_, ?_⟩
  · rw [Below.heap_setCell _ _ _ b hne, Below.heap_setCell _ _ _ b hne, Below.heap_setCell _ _ _ b hne, hB7.block b (by omega)]
    exact hkeep b hb4 hne
  · simp only [World.setCell, Array.size_modify]
    exact Nat.le_trans hsz hB7.size
  · obtain ⟨c, hc⟩ : ∃ c, cs[k]? = some c := ⟨_, List.getElem?_eq_getElem hk⟩
    obtain ⟨c', hc'⟩ : ∃ c', l[k]? = some c' := ⟨_, List.getElem?_eq_getElem (by rw [hll]; exact hk)⟩
    have hcc := (hlp k c c' hc hc').2 (Nat.le_refl _)
    refine ⟨l.set k ⟨c'.id, c'.h, c'.v, c'.q, G.cols, G.rows, .slice pp (zeroRows n).length pc, zeroRows n⟩, by rw [List.length_set]; exact hll, ?_, ?_⟩
    · have r0 : (l.map compRow)[k]? = some (compRow c') := by simp [hc']
      have hlen : (l.map compRow).length = cs.length := by rw [List.length_map, hll]
      have h1 := owns_setCell (comp_rows7 l) hlen (ownsRow_below hlo hB7) (i := k) (j := 4) (o := k * 7 + 4) (.int .i64 G.cols) r0 (by decide) rfl
      have k1 := set_length_all (comp_rows7 l) r0 (j := 4) (.int .i64 G.cols)
      have r1 : ((l.map compRow).set k ((compRow c').set 4 (.int .i64 G.cols)))[k]? = some ((compRow c').set 4 (.int .i64 G.cols)) := List.getElem?_set_self (by rw [hlen]; exact hk)
      have h2 := owns_setCell k1 (by rw [List.length_set]; exact hlen) h1 (i := k) (j := 5) (o := k * 7 + 4 + 1) (.int .i64 G.rows) r1 (by decide) rfl
      have k2 := set_length_all k1 r1 (j := 5) (.int .i64 G.rows)
      rw [List.set_set] at h2 k2
      have r2 : ((l.map compRow).set k (((compRow c').set 4 (.int .i64 G.cols)).set 5 (.int .i64 G.rows)))[k]? = some (((compRow c').set 4 (.int .i64 G.cols)).set 5 (.int .i64 G.rows)) := List.getElem?_set_self (by rw [hlen]; exact hk)
      have h3 := owns_setCell k2 (by rw [List.length_set]; exact hlen) h2 (i := k) (j := 6) (o := k * 7 + 4 + 2) (.slice pp (zeroRows n).length pc) r2 (by decide) rfl
      rw [List.set_set] at h3
      rw [List.map_set]
      exact h3
    · intro i d d' hd hd'
      by_cases hik : i = k
      · subst hik
        rw [List.getElem?_set_self (by rw [hll]; exact hk)] at hd'
        cases hd'
        rw [hc] at hd
        cases hd
        refine ⟨fun _ => ⟨?_, ?_⟩, fun h => by omega⟩
        · subst hcc
          exact ⟨rfl, rfl, rfl, rfl, by rw [hG], by rw [hG], by rw [hG, hn]⟩
        · exact ownsRow_base (ownsRow_set (ownsRow_set (ownsRow_set hO7 (by omega) _) (by omega) _) (by omega) _) hB
      · rw [List.getElem?_set_ne (Ne.symm hik)] at hd'
        obtain ⟨h1, h2⟩ := hlp i d d' hd hd'
        refine ⟨fun h => ?_, fun h => h2 (by omega)⟩
        obtain ⟨h3, h4⟩ := h1 (by omega)
        exact ⟨h3, ownsRow_set (ownsRow_set (ownsRow_set (ownsRow_below h4 hB7) (by omega) _) (by omega) _) (by omega) _⟩
theorem blankI_end {w0 w4 wr : World} {base g cap R B1 : Nat} {cs : List Comp} {qs : List Quant} {gs : List Grid} {qv : Value} (hI : BlankI w0 w4 wr base g cap cs gs cs.length) (hlen : cs.length ≤ 20) (hqlen : qs.length ≤ 20) (hn : 1 ≤ cs.length)
    (hRg : R < g) (hR4 : R < w4.heap.size) (hRB : R < B1) (hQ : wr.ownsRow B1 39 65 qv qs.length (qs.map quantRow).flatten) (hQC : ∀ x, x ∈ qs.map quantRow → x.length = 65) (hQO : ∀ x, x ∈ qs.map quantRow → ∀ v, v ∈ x → v.oneCell' = true)
    (wfc : ∀ c, c ∈ cs → i64 c.id ∧ i64 c.h ∧ i64 c.v ∧ i64 c.q ∧ i64 c.cols ∧ i64 c.rows) (wfq : ∀ q, q ∈ qs → i64 q.pl ∧ ∀ n, n ∈ q.q → 0 ≤ n ∧ n ≤ 65535) (hgl : gs.length = cs.length) (hgb : ∀ g, g ∈ gs → 1 ≤ g.cols ∧ 1 ≤ g.rows ∧ g.cols * g.rows ≤ 16384 ∧ sizedErr g.cols g.rows = 0) :
    ∃ l, BlankOf gs cs l ∧ ∀ w', (∀ b, R < b → b < wr.heap.size → w'.heap[b]? = wr.heap[b]?) → RdImg w' (.slice (some ⟨g, 0, none⟩) cs.length cap) qv (.slice none 0 0) l qs [] := by
  obtain ⟨_, _, _, l, hll, hlo, hlp⟩ := hI
  have hat : ∀ c', c' ∈ l → ∃ i c, cs[i]? = some c ∧ l[i]? = some c' ∧ i < cs.length := fun c' hc' => by
    obtain ⟨i, hi, rfl⟩ := List.mem_iff_getElem.1 hc'
    exact ⟨i, cs[i]'(by omega), List.getElem?_eq_getElem (by omega), List.getElem?_eq_getElem hi, by omega⟩
  refine ⟨l, ⟨hll, fun i c c' h1 h2 => ((hlp i c c' h1 h2).1 (List.getElem?_eq_some_iff.1 h1).1).1⟩, fun w' hw' => ?_⟩
  have hown : ∀ c', c' ∈ l → w'.ownsRow w4.heap.size 57 64 c'.bv c'.bs.length (c'.bs.map blockRow).flatten := fun c' hc' => by
    obtain ⟨i, c, h1, h2, h3⟩ := hat c' hc'
    exact ownsRow_keep ((hlp i c c' h1 h2).1 h3).2 (fun b hb hlt => hw' b (by omega) hlt)
  have hblank : ∀ c', c' ∈ l → ∃ c G, c ∈ cs ∧ G ∈ gs ∧ c'.id = c.id ∧ c'.h = c.h ∧ c'.v = c.v ∧ c'.q = c.q ∧ c'.cols = G.cols ∧ c'.rows = G.rows ∧ c'.bs = zeroRows (G.cols * G.rows).toNat := fun c' hc' => by
    obtain ⟨i, c, h1, h2, h3⟩ := hat c' hc'
    obtain ⟨k1, k2, k3, k4, k5, k6, k7⟩ := ((hlp i c c' h1 h2).1 h3).1
    have hgi : gs[i]? = some (gs.getD i noGrid) := by
      rw [List.getD_eq_getElem?_getD, List.getElem?_eq_getElem (by omega)]
      rfl
    exact ⟨c, gs.getD i noGrid, List.mem_of_getElem? h1, List.mem_of_getElem? hgi, k1, k2, k3, k4, k5, k6, k7⟩
  have hzero : ∀ c', c' ∈ l → ∀ b, b ∈ c'.bs → b = zero64 := fun c' hc' b hb => by
    obtain ⟨c, G, _, _, _, _, _, _, _, _, e⟩ := hblank c' hc'
    rw [e] at hb
    exact List.eq_of_mem_replicate hb
  refine ⟨?_, fun c' hc' => ?_, ?_, RdL.nil _ _ _ _ (Nat.zero_le _), fun c' hc' => ?_, fun c' hc' b hb n hn => ?_, wfq, fun t ht => absurd ht List.not_mem_nil⟩
  · have h1 : (l.map compRow).length = cs.length := by rw [List.length_map, hll]
    obtain ⟨g', cap', cur, he, hb', hh, r⟩ := owns_open hlo (by omega)
    cases he
    have h2 : wr.ownsRow g 63 7 (.slice (some ⟨g, 0, none⟩) cs.length cap) cs.length (l.map compRow).flatten := by
      obtain ⟨hl, h | ⟨g', cap', cur', he, _, r'⟩⟩ := hlo
      · exact ⟨hl, .inl h⟩
      · cases he
        exact ⟨hl, .inr ⟨g, cap, cur', rfl, Nat.le_refl _, r'⟩⟩
    have h3 := ownsRow_keep h2 (fun b hb hlt => hw' b (by omega) hlt)
    rw [← h1] at h3 ⊢
    refine RdL.of_owns h3 (by omega) (comp_rows7 l) (fun x hx v hv => ?_)
    obtain ⟨c', hc', rfl⟩ := List.mem_map.1 hx
    obtain ⟨p, cap, e⟩ := ownsRow_slice (hown c' hc')
    simp only [compRow, List.mem_cons, List.not_mem_nil, or_false] at hv
    rcases hv with rfl | rfl | rfl | rfl | rfl | rfl | rfl
    all_goals first | rfl | (rw [e]; rfl)
  · have h1 := hown c' hc'
    obtain ⟨c, G, _, hG, _, _, _, _, _, _, e⟩ := hblank c' hc'
    have hl : (c'.bs.map blockRow).length = c'.bs.length := List.length_map ..
    rw [← hl] at h1
    refine RdL.of_owns h1 ?_ (fun x hx => ?_) (fun x hx v hv => ?_)
    · rw [hl, e]
      unfold zeroRows
      rw [List.length_replicate]
      have := (hgb G hG).2.2.1
      omega
    · obtain ⟨y, hy, rfl⟩ := List.mem_map.1 hx
      rw [blockRow, ints_length, hzero c' hc' y hy]
      rfl
    · obtain ⟨y, hy, rfl⟩ := List.mem_map.1 hx
      exact ints_one _ _ v hv
  · have hl : (qs.map quantRow).length = qs.length := List.length_map ..
    rw [← hl] at hQ
    exact RdL.of_owns (ownsRow_keep hQ (fun b hb hlt => hw' b (by omega) hlt)) (by omega) hQC hQO
  · obtain ⟨c, G, hc, hG, e1, e2, e3, e4, e5, e6, _⟩ := hblank c' hc'
    obtain ⟨b1, b2, b3, b4⟩ := hgb G hG
    obtain ⟨s1, s2, s3, s4, s5⟩ := sized_zero b4
    obtain ⟨f1, f2, f3, f4, _, _⟩ := wfc c hc
    rw [e1, e2, e3, e4, e5, e6]
    exact ⟨f1, f2, f3, f4, by unfold i64; omega, by unfold i64; omega⟩
  · rw [hzero c' hc' b hb] at hn
    have := List.eq_of_mem_replicate hn
    omega
theorem blank_none {W H : Int} {cs : List Comp} {qs : List Quant} (h : newErr W H (partsOf cs) ≠ 0) : ∃ cs', BlankOf (gsOf W H cs) cs cs' ∧ imgErr W H cs' qs [] = newErr W H (partsOf cs) := by
  refine ⟨cs.map fun c => ⟨c.id, c.h, c.v, c.q, 0, 0, .slice none 0 0, []⟩, ⟨List.length_map .., fun i c c' h1 h2 => ?_⟩, ?_⟩
  · rw [List.getElem?_map, h1] at h2
    cases h2
    unfold gsOf
    rw [if_neg h]
    exact ⟨rfl, rfl, rfl, rfl, rfl, rfl, rfl⟩
  · have hp : partsOf (cs.map fun c => (⟨c.id, c.h, c.v, c.q, 0, 0, .slice none 0 0, []⟩ : Comp)) = partsOf cs := by
      unfold partsOf
      rw [List.map_map]
      rfl
    unfold imgErr
    rw [firstE_some (k := 0) (by decide) (by show newErr W H (partsOf _) ≠ 0; rw [hp]; exact h) (fun i hi => absurd hi (Nat.not_lt_zero _))]
    show newErr W H (partsOf _) = _
    rw [hp]
theorem infoImg : (Try.prog.info? 26).map (·.size) = some 5 := by kernel_rfl
set_option maxRecDepth 100000 in
set_option maxHeartbeats 4000000 in
theorem blank_any {w : World} (W H : Int) {cv qv : Value} {cs : List Comp} {qs : List Quant} (hR : RdL w 7 cv (cs.map compRow)) (hQ : RdL w 65 qv (qs.map quantRow)) (hlen : cs.length ≤ 20) (hqlen : qs.length ≤ 20)
    (hbv : ∀ c, c ∈ cs → ∃ p n cap, c.bv = .slice p n cap) (wfc : ∀ c, c ∈ cs → i64 c.id ∧ i64 c.h ∧ i64 c.v ∧ i64 c.q ∧ i64 c.cols ∧ i64 c.rows) (wfq : ∀ q, q ∈ qs → i64 q.pl ∧ ∀ n, n ∈ q.q → 0 ≤ n ∧ n ≤ 65535) :
    Calls Try.prog 26 #[.int .i64 W, .int .i64 H, cv, qv] w (BlankP w W H cs qs) := by
  have HC := Lib.hid (show ∀ w', Below w.heap.size w w' → Calls Try.prog 71 #[cv] w' (RetP (fun v' w'' => w''.ownsRow w'.heap.size 63 7 v' (cs.map compRow).length (cs.map compRow).flatten) w') from fun w' hB => clone_Comp (hR.below hB) (by rw [List.length_map]; omega))
  have HQ := Lib.hid (show ∀ w', Below w.heap.size w w' → Calls Try.prog 72 #[qv] w' (RetP (fun v' w'' => w''.ownsRow w'.heap.size 39 65 v' (qs.map quantRow).length (qs.map quantRow).flatten) w') from fun w' hB => clone_Quant (hQ.below hB) (by rw [List.length_map]; omega))
  have HKC := Lib.hid hR.len; have HKO := Lib.hid hR.one
  have HQC := Lib.hid hQ.len; have HQO := Lib.hid hQ.one
  obtain ⟨cp, cc, rfl, _⟩ := hR.form
  obtain ⟨qp, qc, rfl, _⟩ := hQ.form
  rw [List.length_map] at HC HQ ⊢
  have HW := Lib.hid wfc; have HWQ := Lib.hid wfq; have HBV := Lib.hid hbv
  clear hR hQ wfc wfq hbv
  go_enter Try.func26, Try.ntmps26
  go_wp2_with fail
  refine (HC.out _ (below_new _)).mono ?_
  rintro e w1 ⟨v1, rfl, hO1, hB1⟩
  have hw1 : Below w.heap.size w w1 := (below_new _).trans (hB1.mono (by simp))
  obtain ⟨p1, cap1, rfl⟩ := ownsRow_slice hO1
  have HO1 := Lib.hid hO1; have HB1 := Lib.hid hB1; have HW1 := Lib.hid hw1
  clear hO1 hB1 hw1 HC
  go_wp2_with fail
  refine (HQ.out _ HW1.out).mono ?_
  rintro e w2 ⟨v2, rfl, hO2, hB2⟩
  obtain ⟨p2, cap2, rfl⟩ := ownsRow_slice hO2
  have HO2 := Lib.hid hO2; have HB2 := Lib.hid hB2
  have HW2 := Lib.hid (HW1.out.trans (hB2.mono HW1.out.size))
  clear hO2 hB2 HQ

  have hR2 : RdL w2 7 (.slice p1 cs.length cap1) (cs.map compRow) := RdL.of_owns (ownsRow_below (by rw [List.length_map]; exact HO1.out) HB2.out) (by rw [List.length_map]; omega) HKC.out HKO.out
  have hQ2 : RdL w2 65 (.slice p2 qs.length cap2) (qs.map quantRow) := RdL.of_owns (by rw [List.length_map]; exact HO2.out) (by rw [List.length_map]; omega) HQC.out HQO.out
  go_wp2_with fail
  obtain ⟨w3, hw3⟩ : ∃ w3, w3 = w2.alloc (.cells #[.int .i64 W, .int .i64 H, .slice p1 cs.length cap1, .slice p2 qs.length cap2, .slice none 0 0] 26) := ⟨_, rfl⟩
  rw [← hw3]
  have hB3 : Below w2.heap.size w2 w3 := by rw [hw3]; exact below_new _
  have BM : w3.heap[w2.heap.size]? = some (.cells #[.int .i64 W, .int .i64 H, .slice p1 cs.length cap1, .slice p2 qs.length cap2, .slice none 0 0] 26 (0, 0)) := by rw [hw3]; exact heap_alloc_new _ _
  have HS3 := Lib.hid (show w3.heap.size = w2.heap.size + 1 from by rw [hw3]; simp)
  have HW3 := Lib.hid (HW2.out.trans (hB3.mono HW2.out.size))
  have HB3 := Lib.hid hB3
  have BR : w3.heap[w.heap.size]? = some (.cells #[.int .i64 0, .int .i64 0, .slice none 0 0, .slice none 0 0, .slice none 0 0] 26 (0, 0)) := blk_below (blk_below (blk_below (heap_alloc_new _ _) HB1.out) HB2.out) hB3
  have HBM := Lib.hid BM; have HBR := Lib.hid BR
  have HR3 := Lib.hid (hR2.below hB3); have HQ3 := Lib.hid (hQ2.below hB3)
  clear hw3 hB3 BM BR hR2 hQ2
  refine (frame_any (W := W) (H := H) (qv := .slice p2 qs.length cap2) (tv := .slice none 0 0) HR3.out (by omega) HBV.out).mono ?_
  rintro e w4 ⟨hB4, ⟨hne, rfl⟩ | ⟨h0, F, hF, rfl, hRF⟩⟩
  · have HV := Lib.hid (show ∃ cs', BlankOf (gsOf W H cs) cs cs' ∧ imgErr W H cs' qs [] = newErr W H (partsOf cs) from blank_none hne)
    have hb : (newErr W H (partsOf cs) != 0) = true := by simp [hne]
    obtain ⟨s0, ⟨a0, a1, a2, a3, a4⟩, f0, f1, f2, f3, f4⟩ := blk5 (blk_below HBR.out hB4)
    have HBR4 := Lib.hid (blk_below HBR.out hB4)
    have HW4 := Lib.hid (HW3.out.trans (hB4.mono HW3.out.size))
    have HNE := Lib.hid hne
    clear hne hB4
    generalize newErr W H (partsOf cs) = er at *
    go_wp2_with fail
    refine bodyPost_ret (ret_cell_tmp rfl _ _ w.heap.size 0 [.int .i64 0, .int .i64 0, .slice none 0 0, .slice none 0 0, .slice none 0 0] _ rfl (blk_range (blk_fill5 HBR4.out _ _ _ _ _)) Try.underlying26 rfl infoImg) rfl ?_
    obtain ⟨cs', h1, h2⟩ := HV.out
    exact ⟨below_fill5 HW4.out (Nat.le_refl _) _ _ _ _ _, cs', h1, .inl ⟨by rw [h2]; exact HNE.out, by rw [h2]; rfl⟩⟩
  · have hb : ((0 : Int) != 0) = false := rfl
    obtain ⟨hg1, hg2⟩ := new_grids h0
    obtain ⟨_, _, _, _, hl1, hl2, _⟩ := rightErr_zero (newErr_zero h0).1
    have hgs : gsOf W H cs = gridsOf W H (fixP (partsOf cs)) := by unfold gsOf; rw [if_pos h0]
    have HFV := Lib.hid (show ∀ w', (∀ b, w3.heap.size ≤ b → b < w4.heap.size → w'.heap[b]? = w4.heap[b]?) → RdFV w' (.pointer (some ⟨F, 0, none⟩)) (gsOf W H cs) from fun w' hw' => by rw [hgs]; exact .some F W H _ (hRF w' hw'))
    have hpl : (partsOf cs).length = cs.length := by unfold partsOf; rw [List.length_map]
    rw [hpl] at hg1 hl1 hl2
    rw [← hgs] at hg1 hg2
    obtain ⟨g, cap, cur, he, hgb, hgc, _⟩ := owns_open HO1.out (by omega)
    cases he
    have hW4 := HW3.out.trans (hB4.mono HW3.out.size)
    have hgs1 : g < w1.heap.size := blk_lt hgc
    have hgR : w.heap.size < g := by simp at hgb; omega
    have hs12 : w1.heap.size ≤ w2.heap.size := HB2.out.size
    have hs23 : w3.heap.size = w2.heap.size + 1 := HS3.out
    have hs34 : w3.heap.size ≤ w4.heap.size := hB4.size
    have hgw3 : g < w3.heap.size := by omega
    have hI : BlankI w w4 w4 w.heap.size g cap1 cs (gsOf W H cs) 0 := by
      refine ⟨hW4, fun _ _ _ => rfl, Nat.le_refl _, cs, rfl, ?_, fun i c c' h1 h2 => ⟨fun h => by omega, fun _ => by rw [h1] at h2; exact (Option.some.inj h2).symm⟩⟩
      exact ownsRow_base (ownsRow_below (ownsRow_below (ownsRow_below HO1.out HB2.out) HB3.out) hB4) (by simp)
    have HI := Lib.hid hI
    have HBM4 := Lib.hid (blk_below HBM.out hB4)
    have HQ4 := Lib.hid (ownsRow_below (ownsRow_below HO2.out HB3.out) hB4)
    have HG1 := Lib.hid hg1; have HG2 := Lib.hid hg2
    obtain ⟨s0, ⟨a0, a1, a2, a3, a4⟩, f0, f1, f2, f3, f4⟩ := blk5 HBM4.out
    have HBR4 := Lib.hid (blk_below HBR.out hB4)
    have HMB : w.heap.size < w2.heap.size := by have := HB1.out.size; simp at this; omega
    clear hB4 hF hRF h0 hg1 hg2 hgs hpl hgc hgb hW4 hI HR3 HO1 HB1 HB2 HO2 HW3 HBM HBR HB3 HS3 HQ3 hs23
    go_wp2_with fail
    go_loopw [13, 14, 15, 16, 17, 38] (fun _ _ _ _ _ i wr => ∃ k : Nat, k ≤ cs.length ∧ i = .int .i64 k ∧ Hid (BlankI w w4 wr w.heap.size g cap1 cs (gsOf W H cs) k)) (fun _ _ _ _ _ i _ => cs.length - (intOf i).toNat)
    case atStart => exact ⟨0, Nat.zero_le _, rfl, HI.out⟩
    case round =>
      obtain ⟨k, hk, rfl, HIr⟩ := hrel
      have hs4r : w4.heap.size ≤ wr.heap.size := HIr.out.size
      by_cases hlt : k < cs.length
      · have hGlt : k < (gsOf W H cs).length := by rw [HG1.out]; exact hlt
        obtain ⟨G, hG⟩ : ∃ G, (gsOf W H cs)[k]? = some G := ⟨_, List.getElem?_eq_getElem hGlt⟩
        have hGD : (gsOf W H cs).getD k noGrid = G := by simp [List.getD_eq_getElem?_getD, hG]
        obtain ⟨q1, q2, q3, q4⟩ := HG2.out G (List.mem_of_getElem? hG)
        have hGC := grid_any (HFV.out wr (fun b h1 h2 => HIr.out.keep b h2 (by omega))) k (by omega)
        rw [hGD] at hGC
        have HGC := Lib.hid hGC; have HGD := Lib.hid hGD; have Q4 := Lib.hid q4
        clear hGlt hG hGD hGC q4
        go_wp2_with fail
        refine HGC.out.mono ?_
        rintro e w5 ⟨rfl, hB5⟩
        simp only [gridRow]
        have HB5 := Lib.hid hB5
        clear hB5
        go_wp2_with fail
        refine (planeNew_any _ _ _).mono ?_
        rintro e w6 ⟨hB6, ⟨hne, rfl⟩ | ⟨_, F2, b2, hF2, hb2, rfl, hS⟩⟩
        · exact absurd Q4.out hne
        have hB56 : Below wr.heap.size wr w6 := (HB5.out.alloc HB5.out.size _).trans (hB6.mono (by have := HB5.out.size; simp; omega))
        have HB56 := Lib.hid hB56
        have HS := Lib.hid hS
        have i2 : w6.cell? ⟨w2.heap.size, 2, none⟩ = some (.slice (some ⟨g, 0, none⟩) cs.length cap1) := blk_cell (blk_below ((HIr.out.keep _ s0 (by omega)).trans HBM4.out) hB56) 2 rfl
        have hM6 : w2.heap.size < w6.heap.size := lt_of_cell i2
        obtain ⟨l, hll, hlo, hlp⟩ := HIr.out.rows
        obtain ⟨c, hc⟩ : ∃ c, cs[k]? = some c := ⟨_, List.getElem?_eq_getElem hlt⟩
        obtain ⟨c', hc'⟩ : ∃ c', l[k]? = some c' := ⟨_, List.getElem?_eq_getElem (by rw [hll]; exact hlt)⟩
        obtain rfl := (hlp k c c' hc hc').2 (Nat.le_refl _)
        have hlo6 := ownsRow_below hlo hB56
        obtain ⟨g', cap', cur6, he, _, hg6, hnc, hcs6, ht6⟩ := owns_open hlo6 (by omega)
        cases he
        have hrow : ∀ j v, j < 7 → (compRow c')[j]? = some v → cur6[k * 7 + j]? = some v := fun j v hj hv => by
          have h1 := flatten_get (k := 7) (rows := l.map compRow) (fun x hx => by obtain ⟨y, _, rfl⟩ := List.mem_map.1 hx; rfl) (i := k) (x := compRow c') (by simp [hc']) j hj
          rw [← ht6, List.getElem?_take_of_lt (by omega), hv] at h1
          simpa using h1
        have HCL := Lib.hid hlo6
        have HLP := Lib.hid hlp; have HLL := Lib.hid hll; have HC := Lib.hid hc; have HC' := Lib.hid hc'
        have HG6 := Lib.hid hg6; have HROW := Lib.hid hrow
        have hn16 : (zeroRows (G.cols * G.rows).toNat).length ≤ 100000 := by unfold zeroRows; rw [List.length_replicate]; omega
        have HSP := Lib.hid (show ∀ w', w'.heap = w6.heap → Calls Try.prog 75 #[.pointer (some ⟨F2, 0, none⟩)] w' (fun e w'' => ∃ v, e = .returned (.agg #[.int .i64 G.cols, .int .i64 G.rows, v]) ∧ w''.ownsRow w'.heap.size 57 64 v ((zeroRows (G.cols * G.rows).toNat).map blockRow).length ((zeroRows (G.cols * G.rows).toNat).map blockRow).flatten ∧ Below w'.heap.size w' w'') from fun w' hw => sheetPlane_any (RdSheet.of_heap hw hS) hn16 (fun x hx => by have := List.eq_of_mem_replicate hx; rw [this]; exact List.length_replicate))
        have hgw : g < w6.heap.size := blk_lt hg6
        have hMg : w2.heap.size ≠ g := by omega
        clear hB6 hS hB56 hll hlo hlp hc hc' hlo6 hg6 hnc hcs6 ht6 hrow hn16
        go_wp2_with fail
        go_region_held3 (fun w' => w'.cell? ⟨w2.heap.size, 2, none⟩ = some (.slice (some ⟨g, 0, none⟩) cs.length cap1)) (first | assumption | exact cell_set_other (cell_set_other (cell_set_other i27 hMg _) hMg _) hMg _ | go_keep) ((go_at_call 75; refine (HSP.out _ ?hw).mono ?_; (focus (rfl)); rintro e w7 ⟨v, rfl, hO7, hB7⟩; (have hB7' : Below w6.heap.size w6 w7 := ⟨hB7.os, hB7.tape, hB7.output, hB7.size, hB7.block⟩); (have i27 := old_cell hB7' i2); (have BG := blk_below HG6.out hB7'); (have j4 := blk_cell BG _ (HROW.out 4 _ (by decide) rfl)); (have j5 := blk_cell BG _ (HROW.out 5 _ (by decide) rfl)); (have j6 := blk_cell BG _ (HROW.out 6 _ (by decide) rfl)); (have z4 := blk_frozen BG (k * 7 + 4)); (have z5 := blk_frozen BG (k * 7 + 5)); (have z6 := blk_frozen BG (k * 7 + 6)); obtain ⟨pp, pc, rfl⟩ := ownsRow_slice hO7; (have HO7 := Lib.hid hO7); (have HB7 := Lib.hid hB7'); clear hO7 hB7 hB7' BG))
        go_wp2_with fail
        go_roundw
        case rel =>
          refine ⟨k + 1, by omega, by go_num, ?_⟩
          refine blankI_step HIr.out hlt (by omega) (Nat.le_refl _) (by omega) (HB56.out.trans (HB7.out.mono HB56.out.size)) HGD.out rfl (B7 := w6.heap.size) ?_ ?_
          · exact Nat.le_trans hs4r HB56.out.size
          · have := HO7.out
            rw [List.length_map] at this
            exact this
        case measure => simp [intOf]; omega
      · obtain rfl : k = cs.length := by omega
        have hQr := ownsRow_keep HQ4.out (fun b hb hlt => HIr.out.keep b hlt (by omega))
        obtain ⟨l, hbl, himg⟩ := blankI_end (R := w.heap.size) HIr.out hlen hqlen (by omega) hgR (by omega) (by omega) hQr HQC.out HQO.out HW.out HWQ.out HG1.out HG2.out
        have HIM := Lib.hid himg; have HBL := Lib.hid hbl
        have hrt := right_main (W := W) (H := H) (himg wr (fun _ _ _ => rfl)) (by have := hbl.1; omega)
        obtain ⟨er, her⟩ : ∃ er, er = imgErr W H l qs [] := ⟨_, rfl⟩
        rw [← her] at hrt
        have HRT := Lib.hid hrt; have HER := Lib.hid her
        have hBMr := (HIr.out.keep _ s0 (by omega)).trans HBM4.out
        have HBMr := Lib.hid hBMr
        have HBRr := Lib.hid ((HIr.out.keep _ (by omega) (by omega)).trans HBR4.out)
        obtain ⟨s0r, ⟨m0, m1, m2, m3, m4⟩, _⟩ := blk5 hBMr
        clear hQr himg hbl hBMr hlt hrt her
        by_cases he : er = 0
        · have hbr : (er != 0) = false := by simp [he]
          have HE := Lib.hid he
          clear he
          go_wp2_with fail
          refine HRT.out.mono ?_
          rintro e w8 ⟨rfl, hB8⟩
          obtain ⟨s08, ⟨m0, m1, m2, m3, m4⟩, _⟩ := blk5 (blk_below HBMr.out hB8)
          obtain ⟨t0, ⟨d0, d1, d2, d3, d4⟩, z0, z1, z2, z3, z4⟩ := blk5 (blk_below HBRr.out hB8)
          have HB8 := Lib.hid (HIr.out.below.trans (hB8.mono HIr.out.below.size))
          have HBR8 := Lib.hid (blk_below HBRr.out hB8)
          have HB8' := Lib.hid hB8
          clear hB8
          go_wp2_with fail
          refine bodyPost_ret (ret_cell_tmp rfl _ _ w.heap.size 0 [.int .i64 W, .int .i64 H, .slice (some ⟨g, 0, none⟩) cs.length cap1, .slice p2 qs.length cap2, .slice none 0 0] _ rfl (blk_range (blk_fill5 HBR8.out _ _ _ _ _)) Try.underlying26 rfl infoImg) rfl ?_
          refine ⟨below_fill5 HB8.out (Nat.le_refl _) _ _ _ _ _, l, HBL.out, .inr ⟨by rw [← HER.out]; exact HE.out, _, _, by rw [HE.out]; rfl, HIM.out _ fun b hb hlt => ?_⟩⟩
          rw [heap_fill5 _ (by omega)]
          exact HB8'.out.block b hlt
        · have hbr : (er != 0) = true := by simp [he]
          have HE := Lib.hid he
          clear he
          go_wp2_with fail
          refine HRT.out.mono ?_
          rintro e w8 ⟨rfl, hB8⟩
          obtain ⟨t0, ⟨d0, d1, d2, d3, d4⟩, z0, z1, z2, z3, z4⟩ := blk5 (blk_below HBRr.out hB8)
          have HB8 := Lib.hid (HIr.out.below.trans (hB8.mono HIr.out.below.size))
          have HBR8 := Lib.hid (blk_below HBRr.out hB8)
          clear hB8
          go_wp2_with fail
          refine bodyPost_ret (ret_cell_tmp rfl _ _ w.heap.size 0 [.int .i64 0, .int .i64 0, .slice none 0 0, .slice none 0 0, .slice none 0 0] _ rfl (blk_range (blk_fill5 HBR8.out _ _ _ _ _)) Try.underlying26 rfl infoImg) rfl ?_
          exact ⟨below_fill5 HB8.out (Nat.le_refl _) _ _ _ _ _, l, HBL.out, .inl ⟨by rw [← HER.out]; exact HE.out, by rw [← HER.out]; rfl⟩⟩
end Aq
end Go.Proofs.Ytaacpoadfdmfnaa
