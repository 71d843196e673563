/-
  What slices.Clone answers over rows: a slice of the call's own that holds the same rows.
-/
import Derived.Test.YtaacpoadfdmfnaaTypes
namespace Go.Proofs.Ytaacpoadfdmfnaa
open Go Go.RowKit
namespace Aq

theorem infoz_Comp : (Try.prog.info? 63).map (fun i => (i.zero, i.size, i.bytes)) = some (some (.agg #[.int .i64 0, .int .i64 0, .int .i64 0, .int .i64 0, .int .i64 0, .int .i64 0, .slice none 0 0]), 7, 72) := by kernel_rfl
set_option maxHeartbeats 400000 in
theorem clone_Comp {w : World} {v : Value} {rows : List (List Value)} (hR : RdL w 7 v rows) (hsz : rows.length * 72 ≤ 140737488355328) :
    Calls Try.prog 71 #[v] w (RetP (fun v' w' => w'.ownsRow w.heap.size 63 7 v' rows.length rows.flatten) w) := by
  obtain ⟨⟨p, cap, rfl, hcap, hcm, hx⟩, hk, ho⟩ := hR
  have hs := fun (w : World) (a : Option Addr) (n c : Nat) => Lib.run_eql_slice_nil (P := Try.prog) w 22 63 a n c 0 0 Try.underlying22
  by_cases hne : rows = []
  · subst hne
    cases p with
    | none =>
      clear hx
      go_enter Try.func71, Try.ntmps71
      go_wp2_with fail
      go_ret
      exact ⟨_, rfl, ⟨rfl, .inl ⟨rfl, rfl⟩⟩, Below.refl _ _⟩
    | some a =>
      clear hx
      obtain ⟨i0, hi, hz0, hz1, hz2⟩ := info_parts infoz_Comp
      have hown : (w.alloc (.cells #[] 63)).ownsRow w.heap.size 63 7 (.slice (some ⟨w.heap.size, 0, none⟩) 0 0) 0 [] :=
        ⟨rfl, .inr ⟨w.heap.size, 0, #[], rfl, Nat.le_refl _, heap_alloc_new _ _, Nat.le_refl _, Nat.zero_le _, rfl, rfl⟩⟩
      have HO := Lib.hid hown; clear hown
      go_enter Try.func71, Try.ntmps71
      go_wp2_with (at_builtin; refine wpList_append_own _ rfl _ _ 22 rfl w.heap.size 63 i0 (.agg #[.int .i64 0, .int .i64 0, .int .i64 0, .int .i64 0, .int .i64 0, .int .i64 0, .slice none 0 0]) 7 72 Try.underlying22 hi hz0 hz1 hz2 rfl (by decide) _ _ _ rfl HO.out a 0 cap [] rfl rfl (fun j u h => by simp at h) (fun u h => by simp at h) (by decide) (by decide) (by simp) ?_; intro v' w1 hown' hgrow _)
      go_ret
      exact ⟨_, rfl, hown', ((Below.refl _ w).alloc (Nat.le_refl _) _).grown hgrow (by simp) (fun k e => by cases e; exact Nat.le_refl _)⟩
  · obtain ⟨b, o, rfl, hx1⟩ := hx hne
    clear hx
    obtain ⟨i0, hi, hz0, hz1, hz2⟩ := info_parts infoz_Comp
    have hbb : b < w.heap.size := by
      cases rows with
      | nil => exact absurd rfl hne
      | cons x r =>
        have hl := hk x (List.mem_cons_self ..)
        exact lt_of_cell (hx1 0 x rfl 0 _ (List.getElem?_eq_getElem (by omega)))
    have hfl := flatten_length hk
    have hfc : ∀ j u, rows.flatten[j]? = some u → (w.alloc (.cells #[] 63)).cell? ((⟨b, o, none⟩ : Addr).add j) = some u := fun j u hu => by
      rw [Addr.add_mid]
      have h := flatten_cells hk hx1 j u hu
      have hB : Below w.heap.size w (w.alloc (.cells #[] 63)) := (Below.refl _ w).alloc (Nat.le_refl _) _
      rw [hB.cell (p := ⟨b, o + j, none⟩) hbb]
      exact h
    have hone := mem_flatten_one ho
    have hown : (w.alloc (.cells #[] 63)).ownsRow w.heap.size 63 7 (.slice (some ⟨w.heap.size, 0, none⟩) 0 0) 0 [] :=
      ⟨rfl, .inr ⟨w.heap.size, 0, #[], rfl, Nat.le_refl _, heap_alloc_new _ _, Nat.le_refl _, Nat.zero_le _, rfl, rfl⟩⟩
    have h63 : 0 + rows.length ≤ maxLen := by have := maxLen_big; omega
    have hby : (0 + rows.length) * 72 ≤ 140737488355328 := by omega
    have HO := Lib.hid hown; have HFL := Lib.hid hfl; have HFC := Lib.hid hfc; have HONE := Lib.hid hone; have H63 := Lib.hid h63; have HBY := Lib.hid hby
    clear hown hfl hfc hone h63 hby hx1 hk ho hne hcap hcm hsz
    go_enter Try.func71, Try.ntmps71
    go_wp2_with (at_builtin; refine wpList_append_own _ rfl _ _ 22 rfl w.heap.size 63 i0 (.agg #[.int .i64 0, .int .i64 0, .int .i64 0, .int .i64 0, .int .i64 0, .int .i64 0, .slice none 0 0]) 7 72 Try.underlying22 hi hz0 hz1 hz2 rfl (by decide) _ _ _ rfl HO.out ⟨b, o, none⟩ rows.length cap rows.flatten rfl HFL.out HFC.out HONE.out H63.out HBY.out (by simp) ?_; intro v' w1 hown' hgrow _; rw [Nat.zero_add, List.nil_append] at hown')
    go_ret
    exact ⟨_, rfl, hown', ((Below.refl _ w).alloc (Nat.le_refl _) _).grown hgrow (by simp) (fun k e => by cases e; exact Nat.le_refl _)⟩

theorem infoz_Quant : (Try.prog.info? 39).map (fun i => (i.zero, i.size, i.bytes)) = some (some (.agg #[.int .i64 0, .int .u16 0, .int .u16 0, .int .u16 0, .int .u16 0, .int .u16 0, .int .u16 0, .int .u16 0, .int .u16 0, .int .u16 0, .int .u16 0, .int .u16 0, .int .u16 0, .int .u16 0, .int .u16 0, .int .u16 0, .int .u16 0, .int .u16 0, .int .u16 0, .int .u16 0, .int .u16 0, .int .u16 0, .int .u16 0, .int .u16 0, .int .u16 0, .int .u16 0, .int .u16 0, .int .u16 0, .int .u16 0, .int .u16 0, .int .u16 0, .int .u16 0, .int .u16 0, .int .u16 0, .int .u16 0, .int .u16 0, .int .u16 0, .int .u16 0, .int .u16 0, .int .u16 0, .int .u16 0, .int .u16 0, .int .u16 0, .int .u16 0, .int .u16 0, .int .u16 0, .int .u16 0, .int .u16 0, .int .u16 0, .int .u16 0, .int .u16 0, .int .u16 0, .int .u16 0, .int .u16 0, .int .u16 0, .int .u16 0, .int .u16 0, .int .u16 0, .int .u16 0, .int .u16 0, .int .u16 0, .int .u16 0, .int .u16 0, .int .u16 0, .int .u16 0]), 65, 136) := by kernel_rfl
set_option maxHeartbeats 400000 in
theorem clone_Quant {w : World} {v : Value} {rows : List (List Value)} (hR : RdL w 65 v rows) (hsz : rows.length * 136 ≤ 140737488355328) :
    Calls Try.prog 72 #[v] w (RetP (fun v' w' => w'.ownsRow w.heap.size 39 65 v' rows.length rows.flatten) w) := by
  obtain ⟨⟨p, cap, rfl, hcap, hcm, hx⟩, hk, ho⟩ := hR
  have hs := fun (w : World) (a : Option Addr) (n c : Nat) => Lib.run_eql_slice_nil (P := Try.prog) w 23 39 a n c 0 0 Try.underlying23
  by_cases hne : rows = []
  · subst hne
    cases p with
    | none =>
      clear hx
      go_enter Try.func72, Try.ntmps72
      go_wp2_with fail
      go_ret
      exact ⟨_, rfl, ⟨rfl, .inl ⟨rfl, rfl⟩⟩, Below.refl _ _⟩
    | some a =>
      clear hx
      obtain ⟨i0, hi, hz0, hz1, hz2⟩ := info_parts infoz_Quant
      have hown : (w.alloc (.cells #[] 39)).ownsRow w.heap.size 39 65 (.slice (some ⟨w.heap.size, 0, none⟩) 0 0) 0 [] :=
        ⟨rfl, .inr ⟨w.heap.size, 0, #[], rfl, Nat.le_refl _, heap_alloc_new _ _, Nat.le_refl _, Nat.zero_le _, rfl, rfl⟩⟩
      have HO := Lib.hid hown; clear hown
      go_enter Try.func72, Try.ntmps72
      go_wp2_with (at_builtin; refine wpList_append_own _ rfl _ _ 23 rfl w.heap.size 39 i0 (.agg #[.int .i64 0, .int .u16 0, .int .u16 0, .int .u16 0, .int .u16 0, .int .u16 0, .int .u16 0, .int .u16 0, .int .u16 0, .int .u16 0, .int .u16 0, .int .u16 0, .int .u16 0, .int .u16 0, .int .u16 0, .int .u16 0, .int .u16 0, .int .u16 0, .int .u16 0, .int .u16 0, .int .u16 0, .int .u16 0, .int .u16 0, .int .u16 0, .int .u16 0, .int .u16 0, .int .u16 0, .int .u16 0, .int .u16 0, .int .u16 0, .int .u16 0, .int .u16 0, .int .u16 0, .int .u16 0, .int .u16 0, .int .u16 0, .int .u16 0, .int .u16 0, .int .u16 0, .int .u16 0, .int .u16 0, .int .u16 0, .int .u16 0, .int .u16 0, .int .u16 0, .int .u16 0, .int .u16 0, .int .u16 0, .int .u16 0, .int .u16 0, .int .u16 0, .int .u16 0, .int .u16 0, .int .u16 0, .int .u16 0, .int .u16 0, .int .u16 0, .int .u16 0, .int .u16 0, .int .u16 0, .int .u16 0, .int .u16 0, .int .u16 0, .int .u16 0, .int .u16 0]) 65 136 Try.underlying23 hi hz0 hz1 hz2 rfl (by decide) _ _ _ rfl HO.out a 0 cap [] rfl rfl (fun j u h => by simp at h) (fun u h => by simp at h) (by decide) (by decide) (by simp) ?_; intro v' w1 hown' hgrow _)
      go_ret
      exact ⟨_, rfl, hown', ((Below.refl _ w).alloc (Nat.le_refl _) _).grown hgrow (by simp) (fun k e => by cases e; exact Nat.le_refl _)⟩
  · obtain ⟨b, o, rfl, hx1⟩ := hx hne
    clear hx
    obtain ⟨i0, hi, hz0, hz1, hz2⟩ := info_parts infoz_Quant
    have hbb : b < w.heap.size := by
      cases rows with
      | nil => exact absurd rfl hne
      | cons x r =>
        have hl := hk x (List.mem_cons_self ..)
        exact lt_of_cell (hx1 0 x rfl 0 _ (List.getElem?_eq_getElem (by omega)))
    have hfl := flatten_length hk
    have hfc : ∀ j u, rows.flatten[j]? = some u → (w.alloc (.cells #[] 39)).cell? ((⟨b, o, none⟩ : Addr).add j) = some u := fun j u hu => by
      rw [Addr.add_mid]
      have h := flatten_cells hk hx1 j u hu
      have hB : Below w.heap.size w (w.alloc (.cells #[] 39)) := (Below.refl _ w).alloc (Nat.le_refl _) _
      rw [hB.cell (p := ⟨b, o + j, none⟩) hbb]
      exact h
    have hone := mem_flatten_one ho
    have hown : (w.alloc (.cells #[] 39)).ownsRow w.heap.size 39 65 (.slice (some ⟨w.heap.size, 0, none⟩) 0 0) 0 [] :=
      ⟨rfl, .inr ⟨w.heap.size, 0, #[], rfl, Nat.le_refl _, heap_alloc_new _ _, Nat.le_refl _, Nat.zero_le _, rfl, rfl⟩⟩
    have h63 : 0 + rows.length ≤ maxLen := by have := maxLen_big; omega
    have hby : (0 + rows.length) * 136 ≤ 140737488355328 := by omega
    have HO := Lib.hid hown; have HFL := Lib.hid hfl; have HFC := Lib.hid hfc; have HONE := Lib.hid hone; have H63 := Lib.hid h63; have HBY := Lib.hid hby
    clear hown hfl hfc hone h63 hby hx1 hk ho hne hcap hcm hsz
    go_enter Try.func72, Try.ntmps72
    go_wp2_with (at_builtin; refine wpList_append_own _ rfl _ _ 23 rfl w.heap.size 39 i0 (.agg #[.int .i64 0, .int .u16 0, .int .u16 0, .int .u16 0, .int .u16 0, .int .u16 0, .int .u16 0, .int .u16 0, .int .u16 0, .int .u16 0, .int .u16 0, .int .u16 0, .int .u16 0, .int .u16 0, .int .u16 0, .int .u16 0, .int .u16 0, .int .u16 0, .int .u16 0, .int .u16 0, .int .u16 0, .int .u16 0, .int .u16 0, .int .u16 0, .int .u16 0, .int .u16 0, .int .u16 0, .int .u16 0, .int .u16 0, .int .u16 0, .int .u16 0, .int .u16 0, .int .u16 0, .int .u16 0, .int .u16 0, .int .u16 0, .int .u16 0, .int .u16 0, .int .u16 0, .int .u16 0, .int .u16 0, .int .u16 0, .int .u16 0, .int .u16 0, .int .u16 0, .int .u16 0, .int .u16 0, .int .u16 0, .int .u16 0, .int .u16 0, .int .u16 0, .int .u16 0, .int .u16 0, .int .u16 0, .int .u16 0, .int .u16 0, .int .u16 0, .int .u16 0, .int .u16 0, .int .u16 0, .int .u16 0, .int .u16 0, .int .u16 0, .int .u16 0, .int .u16 0]) 65 136 Try.underlying23 hi hz0 hz1 hz2 rfl (by decide) _ _ _ rfl HO.out ⟨b, o, none⟩ rows.length cap rows.flatten rfl HFL.out HFC.out HONE.out H63.out HBY.out (by simp) ?_; intro v' w1 hown' hgrow _; rw [Nat.zero_add, List.nil_append] at hown')
    go_ret
    exact ⟨_, rfl, hown', ((Below.refl _ w).alloc (Nat.le_refl _) _).grown hgrow (by simp) (fun k e => by cases e; exact Nat.le_refl _)⟩

theorem infoz_Block : (Try.prog.info? 57).map (fun i => (i.zero, i.size, i.bytes)) = some (some (.agg #[.int .i16 0, .int .i16 0, .int .i16 0, .int .i16 0, .int .i16 0, .int .i16 0, .int .i16 0, .int .i16 0, .int .i16 0, .int .i16 0, .int .i16 0, .int .i16 0, .int .i16 0, .int .i16 0, .int .i16 0, .int .i16 0, .int .i16 0, .int .i16 0, .int .i16 0, .int .i16 0, .int .i16 0, .int .i16 0, .int .i16 0, .int .i16 0, .int .i16 0, .int .i16 0, .int .i16 0, .int .i16 0, .int .i16 0, .int .i16 0, .int .i16 0, .int .i16 0, .int .i16 0, .int .i16 0, .int .i16 0, .int .i16 0, .int .i16 0, .int .i16 0, .int .i16 0, .int .i16 0, .int .i16 0, .int .i16 0, .int .i16 0, .int .i16 0, .int .i16 0, .int .i16 0, .int .i16 0, .int .i16 0, .int .i16 0, .int .i16 0, .int .i16 0, .int .i16 0, .int .i16 0, .int .i16 0, .int .i16 0, .int .i16 0, .int .i16 0, .int .i16 0, .int .i16 0, .int .i16 0, .int .i16 0, .int .i16 0, .int .i16 0, .int .i16 0]), 64, 128) := by kernel_rfl
set_option maxHeartbeats 400000 in
theorem clone_Block {w : World} {v : Value} {rows : List (List Value)} (hR : RdL w 64 v rows) (hsz : rows.length * 128 ≤ 140737488355328) :
    Calls Try.prog 83 #[v] w (RetP (fun v' w' => w'.ownsRow w.heap.size 57 64 v' rows.length rows.flatten) w) := by
  obtain ⟨⟨p, cap, rfl, hcap, hcm, hx⟩, hk, ho⟩ := hR
  have hs := fun (w : World) (a : Option Addr) (n c : Nat) => Lib.run_eql_slice_nil (P := Try.prog) w 59 57 a n c 0 0 Try.underlying59
  by_cases hne : rows = []
  · subst hne
    cases p with
    | none =>
      clear hx
      go_enter Try.func83, Try.ntmps83
      go_wp2_with fail
      go_ret
      exact ⟨_, rfl, ⟨rfl, .inl ⟨rfl, rfl⟩⟩, Below.refl _ _⟩
    | some a =>
      clear hx
      obtain ⟨i0, hi, hz0, hz1, hz2⟩ := info_parts infoz_Block
      have hown : (w.alloc (.cells #[] 57)).ownsRow w.heap.size 57 64 (.slice (some ⟨w.heap.size, 0, none⟩) 0 0) 0 [] :=
        ⟨rfl, .inr ⟨w.heap.size, 0, #[], rfl, Nat.le_refl _, heap_alloc_new _ _, Nat.le_refl _, Nat.zero_le _, rfl, rfl⟩⟩
      have HO := Lib.hid hown; clear hown
      go_enter Try.func83, Try.ntmps83
      go_wp2_with (at_builtin; refine wpList_append_own _ rfl _ _ 59 rfl w.heap.size 57 i0 (.agg #[.int .i16 0, .int .i16 0, .int .i16 0, .int .i16 0, .int .i16 0, .int .i16 0, .int .i16 0, .int .i16 0, .int .i16 0, .int .i16 0, .int .i16 0, .int .i16 0, .int .i16 0, .int .i16 0, .int .i16 0, .int .i16 0, .int .i16 0, .int .i16 0, .int .i16 0, .int .i16 0, .int .i16 0, .int .i16 0, .int .i16 0, .int .i16 0, .int .i16 0, .int .i16 0, .int .i16 0, .int .i16 0, .int .i16 0, .int .i16 0, .int .i16 0, .int .i16 0, .int .i16 0, .int .i16 0, .int .i16 0, .int .i16 0, .int .i16 0, .int .i16 0, .int .i16 0, .int .i16 0, .int .i16 0, .int .i16 0, .int .i16 0, .int .i16 0, .int .i16 0, .int .i16 0, .int .i16 0, .int .i16 0, .int .i16 0, .int .i16 0, .int .i16 0, .int .i16 0, .int .i16 0, .int .i16 0, .int .i16 0, .int .i16 0, .int .i16 0, .int .i16 0, .int .i16 0, .int .i16 0, .int .i16 0, .int .i16 0, .int .i16 0, .int .i16 0]) 64 128 Try.underlying59 hi hz0 hz1 hz2 rfl (by decide) _ _ _ rfl HO.out a 0 cap [] rfl rfl (fun j u h => by simp at h) (fun u h => by simp at h) (by decide) (by decide) (by simp) ?_; intro v' w1 hown' hgrow _)
      go_ret
      exact ⟨_, rfl, hown', ((Below.refl _ w).alloc (Nat.le_refl _) _).grown hgrow (by simp) (fun k e => by cases e; exact Nat.le_refl _)⟩
  · obtain ⟨b, o, rfl, hx1⟩ := hx hne
    clear hx
    obtain ⟨i0, hi, hz0, hz1, hz2⟩ := info_parts infoz_Block
    have hbb : b < w.heap.size := by
      cases rows with
      | nil => exact absurd rfl hne
      | cons x r =>
        have hl := hk x (List.mem_cons_self ..)
        exact lt_of_cell (hx1 0 x rfl 0 _ (List.getElem?_eq_getElem (by omega)))
    have hfl := flatten_length hk
    have hfc : ∀ j u, rows.flatten[j]? = some u → (w.alloc (.cells #[] 57)).cell? ((⟨b, o, none⟩ : Addr).add j) = some u := fun j u hu => by
      rw [Addr.add_mid]
      have h := flatten_cells hk hx1 j u hu
      have hB : Below w.heap.size w (w.alloc (.cells #[] 57)) := (Below.refl _ w).alloc (Nat.le_refl _) _
      rw [hB.cell (p := ⟨b, o + j, none⟩) hbb]
      exact h
    have hone := mem_flatten_one ho
    have hown : (w.alloc (.cells #[] 57)).ownsRow w.heap.size 57 64 (.slice (some ⟨w.heap.size, 0, none⟩) 0 0) 0 [] :=
      ⟨rfl, .inr ⟨w.heap.size, 0, #[], rfl, Nat.le_refl _, heap_alloc_new _ _, Nat.le_refl _, Nat.zero_le _, rfl, rfl⟩⟩
    have h63 : 0 + rows.length ≤ maxLen := by have := maxLen_big; omega
    have hby : (0 + rows.length) * 128 ≤ 140737488355328 := by omega
    have HO := Lib.hid hown; have HFL := Lib.hid hfl; have HFC := Lib.hid hfc; have HONE := Lib.hid hone; have H63 := Lib.hid h63; have HBY := Lib.hid hby
    clear hown hfl hfc hone h63 hby hx1 hk ho hne hcap hcm hsz
    go_enter Try.func83, Try.ntmps83
    go_wp2_with (at_builtin; refine wpList_append_own _ rfl _ _ 59 rfl w.heap.size 57 i0 (.agg #[.int .i16 0, .int .i16 0, .int .i16 0, .int .i16 0, .int .i16 0, .int .i16 0, .int .i16 0, .int .i16 0, .int .i16 0, .int .i16 0, .int .i16 0, .int .i16 0, .int .i16 0, .int .i16 0, .int .i16 0, .int .i16 0, .int .i16 0, .int .i16 0, .int .i16 0, .int .i16 0, .int .i16 0, .int .i16 0, .int .i16 0, .int .i16 0, .int .i16 0, .int .i16 0, .int .i16 0, .int .i16 0, .int .i16 0, .int .i16 0, .int .i16 0, .int .i16 0, .int .i16 0, .int .i16 0, .int .i16 0, .int .i16 0, .int .i16 0, .int .i16 0, .int .i16 0, .int .i16 0, .int .i16 0, .int .i16 0, .int .i16 0, .int .i16 0, .int .i16 0, .int .i16 0, .int .i16 0, .int .i16 0, .int .i16 0, .int .i16 0, .int .i16 0, .int .i16 0, .int .i16 0, .int .i16 0, .int .i16 0, .int .i16 0, .int .i16 0, .int .i16 0, .int .i16 0, .int .i16 0, .int .i16 0, .int .i16 0, .int .i16 0, .int .i16 0]) 64 128 Try.underlying59 hi hz0 hz1 hz2 rfl (by decide) _ _ _ rfl HO.out ⟨b, o, none⟩ rows.length cap rows.flatten rfl HFL.out HFC.out HONE.out H63.out HBY.out (by simp) ?_; intro v' w1 hown' hgrow _; rw [Nat.zero_add, List.nil_append] at hown')
    go_ret
    exact ⟨_, rfl, hown', ((Below.refl _ w).alloc (Nat.le_refl _) _).grown hgrow (by simp) (fun k e => by cases e; exact Nat.le_refl _)⟩

theorem infoz_Tag : (Try.prog.info? 104).map (fun i => (i.zero, i.size, i.bytes)) = some (some (.agg #[.int .i64 0, .string ⟨#[]⟩]), 2, 24) := by kernel_rfl
set_option maxHeartbeats 400000 in
theorem clone_Tag {w : World} {v : Value} {rows : List (List Value)} (hR : RdL w 2 v rows) (hsz : rows.length * 24 ≤ 140737488355328) :
    Calls Try.prog 84 #[v] w (RetP (fun v' w' => w'.ownsRow w.heap.size 104 2 v' rows.length rows.flatten) w) := by
  obtain ⟨⟨p, cap, rfl, hcap, hcm, hx⟩, hk, ho⟩ := hR
  have hs := fun (w : World) (a : Option Addr) (n c : Nat) => Lib.run_eql_slice_nil (P := Try.prog) w 24 104 a n c 0 0 Try.underlying24
  by_cases hne : rows = []
  · subst hne
    cases p with
    | none =>
      clear hx
      go_enter Try.func84, Try.ntmps84
      go_wp2_with fail
      go_ret
      exact ⟨_, rfl, ⟨rfl, .inl ⟨rfl, rfl⟩⟩, Below.refl _ _⟩
    | some a =>
      clear hx
      obtain ⟨i0, hi, hz0, hz1, hz2⟩ := info_parts infoz_Tag
      have hown : (w.alloc (.cells #[] 104)).ownsRow w.heap.size 104 2 (.slice (some ⟨w.heap.size, 0, none⟩) 0 0) 0 [] :=
        ⟨rfl, .inr ⟨w.heap.size, 0, #[], rfl, Nat.le_refl _, heap_alloc_new _ _, Nat.le_refl _, Nat.zero_le _, rfl, rfl⟩⟩
      have HO := Lib.hid hown; clear hown
      go_enter Try.func84, Try.ntmps84
      go_wp2_with (at_builtin; refine wpList_append_own _ rfl _ _ 24 rfl w.heap.size 104 i0 (.agg #[.int .i64 0, .string ⟨#[]⟩]) 2 24 Try.underlying24 hi hz0 hz1 hz2 rfl (by decide) _ _ _ rfl HO.out a 0 cap [] rfl rfl (fun j u h => by simp at h) (fun u h => by simp at h) (by decide) (by decide) (by simp) ?_; intro v' w1 hown' hgrow _)
      go_ret
      exact ⟨_, rfl, hown', ((Below.refl _ w).alloc (Nat.le_refl _) _).grown hgrow (by simp) (fun k e => by cases e; exact Nat.le_refl _)⟩
  · obtain ⟨b, o, rfl, hx1⟩ := hx hne
    clear hx
    obtain ⟨i0, hi, hz0, hz1, hz2⟩ := info_parts infoz_Tag
    have hbb : b < w.heap.size := by
      cases rows with
      | nil => exact absurd rfl hne
      | cons x r =>
        have hl := hk x (List.mem_cons_self ..)
        exact lt_of_cell (hx1 0 x rfl 0 _ (List.getElem?_eq_getElem (by omega)))
    have hfl := flatten_length hk
    have hfc : ∀ j u, rows.flatten[j]? = some u → (w.alloc (.cells #[] 104)).cell? ((⟨b, o, none⟩ : Addr).add j) = some u := fun j u hu => by
      rw [Addr.add_mid]
      have h := flatten_cells hk hx1 j u hu
      have hB : Below w.heap.size w (w.alloc (.cells #[] 104)) := (Below.refl _ w).alloc (Nat.le_refl _) _
      rw [hB.cell (p := ⟨b, o + j, none⟩) hbb]
      exact h
    have hone := mem_flatten_one ho
    have hown : (w.alloc (.cells #[] 104)).ownsRow w.heap.size 104 2 (.slice (some ⟨w.heap.size, 0, none⟩) 0 0) 0 [] :=
      ⟨rfl, .inr ⟨w.heap.size, 0, #[], rfl, Nat.le_refl _, heap_alloc_new _ _, Nat.le_refl _, Nat.zero_le _, rfl, rfl⟩⟩
    have h63 : 0 + rows.length ≤ maxLen := by have := maxLen_big; omega
    have hby : (0 + rows.length) * 24 ≤ 140737488355328 := by omega
    have HO := Lib.hid hown; have HFL := Lib.hid hfl; have HFC := Lib.hid hfc; have HONE := Lib.hid hone; have H63 := Lib.hid h63; have HBY := Lib.hid hby
    clear hown hfl hfc hone h63 hby hx1 hk ho hne hcap hcm hsz
    go_enter Try.func84, Try.ntmps84
    go_wp2_with (at_builtin; refine wpList_append_own _ rfl _ _ 24 rfl w.heap.size 104 i0 (.agg #[.int .i64 0, .string ⟨#[]⟩]) 2 24 Try.underlying24 hi hz0 hz1 hz2 rfl (by decide) _ _ _ rfl HO.out ⟨b, o, none⟩ rows.length cap rows.flatten rfl HFL.out HFC.out HONE.out H63.out HBY.out (by simp) ?_; intro v' w1 hown' hgrow _; rw [Nat.zero_add, List.nil_append] at hown')
    go_ret
    exact ⟨_, rfl, hown', ((Below.refl _ w).alloc (Nat.le_refl _) _).grown hgrow (by simp) (fun k e => by cases e; exact Nat.le_refl _)⟩

theorem infoz_Part : (Try.prog.info? 154).map (fun i => (i.zero, i.size, i.bytes)) = some (some (.agg #[.int .i64 0, .int .i64 0]), 2, 16) := by kernel_rfl
set_option maxHeartbeats 400000 in
theorem clone_Part {w : World} {v : Value} {rows : List (List Value)} (hR : RdL w 2 v rows) (hsz : rows.length * 16 ≤ 140737488355328) :
    Calls Try.prog 138 #[v] w (RetP (fun v' w' => w'.ownsRow w.heap.size 154 2 v' rows.length rows.flatten) w) := by
  obtain ⟨⟨p, cap, rfl, hcap, hcm, hx⟩, hk, ho⟩ := hR
  have hs := fun (w : World) (a : Option Addr) (n c : Nat) => Lib.run_eql_slice_nil (P := Try.prog) w 153 154 a n c 0 0 Try.underlying153
  by_cases hne : rows = []
  · subst hne
    cases p with
    | none =>
      clear hx
      go_enter Try.func138, Try.ntmps138
      go_wp2_with fail
      go_ret
      exact ⟨_, rfl, ⟨rfl, .inl ⟨rfl, rfl⟩⟩, Below.refl _ _⟩
    | some a =>
      clear hx
      obtain ⟨i0, hi, hz0, hz1, hz2⟩ := info_parts infoz_Part
      have hown : (w.alloc (.cells #[] 154)).ownsRow w.heap.size 154 2 (.slice (some ⟨w.heap.size, 0, none⟩) 0 0) 0 [] :=
        ⟨rfl, .inr ⟨w.heap.size, 0, #[], rfl, Nat.le_refl _, heap_alloc_new _ _, Nat.le_refl _, Nat.zero_le _, rfl, rfl⟩⟩
      have HO := Lib.hid hown; clear hown
      go_enter Try.func138, Try.ntmps138
      go_wp2_with (at_builtin; refine wpList_append_own _ rfl _ _ 153 rfl w.heap.size 154 i0 (.agg #[.int .i64 0, .int .i64 0]) 2 16 Try.underlying153 hi hz0 hz1 hz2 rfl (by decide) _ _ _ rfl HO.out a 0 cap [] rfl rfl (fun j u h => by simp at h) (fun u h => by simp at h) (by decide) (by decide) (by simp) ?_; intro v' w1 hown' hgrow _)
      go_ret
      exact ⟨_, rfl, hown', ((Below.refl _ w).alloc (Nat.le_refl _) _).grown hgrow (by simp) (fun k e => by cases e; exact Nat.le_refl _)⟩
  · obtain ⟨b, o, rfl, hx1⟩ := hx hne
    clear hx
    obtain ⟨i0, hi, hz0, hz1, hz2⟩ := info_parts infoz_Part
    have hbb : b < w.heap.size := by
      cases rows with
      | nil => exact absurd rfl hne
      | cons x r =>
        have hl := hk x (List.mem_cons_self ..)
        exact lt_of_cell (hx1 0 x rfl 0 _ (List.getElem?_eq_getElem (by omega)))
    have hfl := flatten_length hk
    have hfc : ∀ j u, rows.flatten[j]? = some u → (w.alloc (.cells #[] 154)).cell? ((⟨b, o, none⟩ : Addr).add j) = some u := fun j u hu => by
      rw [Addr.add_mid]
      have h := flatten_cells hk hx1 j u hu
      have hB : Below w.heap.size w (w.alloc (.cells #[] 154)) := (Below.refl _ w).alloc (Nat.le_refl _) _
      rw [hB.cell (p := ⟨b, o + j, none⟩) hbb]
      exact h
    have hone := mem_flatten_one ho
    have hown : (w.alloc (.cells #[] 154)).ownsRow w.heap.size 154 2 (.slice (some ⟨w.heap.size, 0, none⟩) 0 0) 0 [] :=
      ⟨rfl, .inr ⟨w.heap.size, 0, #[], rfl, Nat.le_refl _, heap_alloc_new _ _, Nat.le_refl _, Nat.zero_le _, rfl, rfl⟩⟩
    have h63 : 0 + rows.length ≤ maxLen := by have := maxLen_big; omega
    have hby : (0 + rows.length) * 16 ≤ 140737488355328 := by omega
    have HO := Lib.hid hown; have HFL := Lib.hid hfl; have HFC := Lib.hid hfc; have HONE := Lib.hid hone; have H63 := Lib.hid h63; have HBY := Lib.hid hby
    clear hown hfl hfc hone h63 hby hx1 hk ho hne hcap hcm hsz
    go_enter Try.func138, Try.ntmps138
    go_wp2_with (at_builtin; refine wpList_append_own _ rfl _ _ 153 rfl w.heap.size 154 i0 (.agg #[.int .i64 0, .int .i64 0]) 2 16 Try.underlying153 hi hz0 hz1 hz2 rfl (by decide) _ _ _ rfl HO.out ⟨b, o, none⟩ rows.length cap rows.flatten rfl HFL.out HFC.out HONE.out H63.out HBY.out (by simp) ?_; intro v' w1 hown' hgrow _; rw [Nat.zero_add, List.nil_append] at hown')
    go_ret
    exact ⟨_, rfl, hown', ((Below.refl _ w).alloc (Nat.le_refl _) _).grown hgrow (by simp) (fun k e => by cases e; exact Nat.le_refl _)⟩

end Aq
end Go.Proofs.Ytaacpoadfdmfnaa
