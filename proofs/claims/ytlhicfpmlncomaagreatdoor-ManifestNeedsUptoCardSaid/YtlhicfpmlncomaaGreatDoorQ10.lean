/-
 Layer 6: the walk of the program's reader of values.
-/
import Derived.Test.YtlhicfpmlncomaaGreatDoorQ09
import Derived.Test.YtlhicfpmlncomaaGreatDoorQ03
namespace Go.Proofs.YtlhicfpmlncomaaGreatDoor
open Go.RowKit
set_option linter.unusedSimpArgs false
set_option maxRecDepth 20000 in
set_option maxHeartbeats 12800000 in
/-- The reader of values, where its readers of lists and of objects keep their word. -/
theorem value_of (deep : Nat) (val : Option (Nat → Nat → JR (JV × Nat × Nat))) (w : World) (g : Nat) (A : Option Addr) (n c p m B : Nat) (b : List UInt8) (hL : LibsAt B w) (hh : w.heap[g]? = some (.cells (rdrL A n c p m).toArray 127 (0, 0))) (hg : B ≤ g) (hB : B ≤ w.heap.size) (hn : n ≤ 65536) (hnc : n ≤ c) (hp : p ≤ n) (hm : m ≤ 4096) (hr : Rd w (· < B) A 1 n (b.map bv))
  (hl5 : ∀ w', p < n → m < 4096 → LibsAt B w' → w'.heap[g]? = some (.cells (rdrL A n c p (m + 1)).toArray 127 (0, 0)) → B ≤ w'.heap.size → Rd w' (· < B) A 1 n (b.map bv) → Calls Tryz.prog 89 #[.pointer (some ⟨g, 0, none⟩), .int .i64 5, .int .u8 93, .int .i64 (deep : Int)] w' (JEndP w' g (jMany b 5 93 val p (m + 1)) (ToldV w' g A n c)))
  (hl6 : ∀ w', p < n → m < 4096 → LibsAt B w' → w'.heap[g]? = some (.cells (rdrL A n c p (m + 1)).toArray 127 (0, 0)) → B ≤ w'.heap.size → Rd w' (· < B) A 1 n (b.map bv) → Calls Tryz.prog 89 #[.pointer (some ⟨g, 0, none⟩), .int .i64 6, .int .u8 125, .int .i64 (deep : Int)] w' (JEndP w' g (jMany b 6 125 val p (m + 1)) (ToldV w' g A n c))) :
  Calls Tryz.prog 64 #[.pointer (some ⟨g, 0, none⟩), .int .i64 (deep : Int)] w (JEndP w g (jValueW b val p m) (ToldV w g A n c)) := by
 have hl := box hr.bytes_len
 have hF0 := Fr.one hh
 clear hh
 cases hx : b[p]? with
 | none =>
  have hend : Box (jValueW b val p m = .error (n, 9)) := box (by unfold jValueW; rw [hx, hl.out])
  have hnx := box (fun g1 w' (hF : Fr [g] w w' [.blk g1 76 vl0, .blk g 127 (rdrL A n c p m)]) => next_x hx (hF.blk (i := 1) rfl) (hF.rdB hg hB hr))
  rw [hl.out] at hnx
  clear hx hl5 hl6
  go_enter Tryz.func64, Tryz.ntmps64
  go_wp2_with (first | ((with_reducible refine lst (by with_unfolding_all rfl) (wp_falloc hF0 (cs := vl0) (z := .agg (List.toArray (vl0))) rfl (by kernel_rfl) (by with_unfolding_all rfl) ?_)); intro w1 g1 hF1 hz1))
  refine (hnx.out _ _ hF1).mono ?_
  rintro e w6 ⟨rfl, hb6⟩
  have hF6 := hF1.call hb6
  dsimp only [flt]
  go_wp2
  exact ⟨rfl, by unfold JEndP; rw [hend.out]; exact ⟨rfl, hF6.grown⟩⟩
 | some x =>
  have hxb := x.toNat_lt
  have hplt := (List.getElem?_eq_some_iff.1 hx).1
  rw [hl.out] at hplt
  have hJ : jValueW b val p m = jValueW b val p m := rfl
  conv at hJ => rhs; unfold jValueW
  rw [hx] at hJ
  simp only [] at hJ
  have hnx := box (fun g1 w' (hF : Fr [g] w w' [.blk g1 76 vl0, .blk g 127 (rdrL A n c p m)]) => next_q hx (hF.blk (i := 1) rfl) (hF.rdB hg hB hr) 0)
  by_cases hm4 : m = 4096
  ·rw [if_pos hm4] at hJ
   have hend := box hJ
   have hfl := box (fun v w => fail_any v p 8 w)
   have hm5 : ((m : Int) == 4096) = true := by rw [hm4]; rfl
   clear hJ hx hl5 hl6 hm4
   replace hm := box hm
   go_enter Tryz.func64, Tryz.ntmps64
   go_wp2_with (first | ((with_reducible refine lst (by with_unfolding_all rfl) (wp_falloc hF0 (cs := vl0) (z := .agg (List.toArray (vl0))) rfl (by kernel_rfl) (by with_unfolding_all rfl) ?_)); intro w1 g1 hF1 hz1))
   refine (hnx.out _ _ hF1).mono ?_
   rintro e w2 ⟨rfl, q2, rfl⟩
   have hF2 := hF1.drewN q2
   go_wp2_with (first | (with_reducible refine lst (by with_unfolding_all rfl) (wp_fld1 hF2 Tryz.underlying3 rfl (by with_unfolding_all exact ⟨_, rfl, rfl⟩) rfl ?_)))
   refine (hfl.out _ _).mono ?_
   rintro e w3 ⟨rfl, rfl⟩
   dsimp only [flt]
   go_wp2
   exact ⟨rfl, by unfold JEndP; rw [hend.out]; exact ⟨rfl, hF2.grown⟩⟩
  ·rw [if_neg hm4] at hJ
   have hm5 : ((m : Int) == 4096) = false := by rw [beq_eq_false_iff_ne]; omega
   have hmlt : m < 4096 := by omega
   clear hm4
   replace hx := box hx
   by_cases hx110 : x = 110
   ·subst hx110
    rw [if_pos rfl] at hJ
    have hwd := box (fun g1 w' (hF : Fr [g] w w' [.blk g1 76 vl0, .blk g 127 (rdrL A n c p (m + 1))]) => word_any g A n c p (m + 1) B b ⟨#[110, 117, 108, 108]⟩ w' (hF.blk (i := 1) rfl) hg (Nat.le_trans hB hF.size) (by omega) hp (by decide) (hF.rdB hg hB hr))
    rw [show ((⟨#[110, 117, 108, 108]⟩ : ByteArray).data.toList) = [110, 117, 108, 108] from rfl] at hwd
    unfold jLit at hJ
    cases hW : jWord b [110, 117, 108, 108] p with
    | error z =>
     rw [hW] at hJ hwd
     have hend := box hJ
     unfold JPost at hwd
     simp only [] at hwd hend
     clear hJ hW
     go_enter Tryz.func64, Tryz.ntmps64
     go_wp2_with (first | ((with_reducible refine lst (by with_unfolding_all rfl) (wp_falloc hF0 (cs := vl0) (z := .agg (List.toArray (vl0))) rfl (by kernel_rfl) (by with_unfolding_all rfl) ?_)); intro w1 g1 hF1 hz1))
     refine (hnx.out _ _ hF1).mono ?_
     rintro e w2 ⟨rfl, q2, rfl⟩
     have hF2 := hF1.drewN q2
     clear hF1 hnx
     go_wp2_with (first | (with_reducible refine lst (by with_unfolding_all rfl) (wp_fld1 hF2 Tryz.underlying3 rfl (by with_unfolding_all exact ⟨_, rfl, rfl⟩) rfl ?_)) | ((with_reducible refine lst (by with_unfolding_all rfl) (wp_fst1 hF2 (by with_unfolding_all exact ⟨_, _, rfl, rfl, rfl⟩) (by kernel_rfl) rfl rfl (by rw [rdrL_len]; decide) (rdrL_it (q := m + 1) (by omega)) ?_)); intro w3 hF3 hz3))
     clear hF2
     refine (hwd.out _ _ hF3).mono ?_
     rintro e w5 ⟨rfl, hg5⟩
     dsimp only [flt]
     go_wp2
     exact ⟨rfl, by unfold JEndP; rw [hend.out]; exact ⟨rfl, grown_trans hF3.grown hg5⟩⟩
    | ok q =>
     rw [hW] at hJ hwd
     have hend := box hJ
     unfold JPost at hwd
     simp only [] at hwd hend
     clear hJ hW
     go_enter Tryz.func64, Tryz.ntmps64
     go_wp2_with (first | ((with_reducible refine lst (by with_unfolding_all rfl) (wp_falloc hF0 (cs := vl0) (z := .agg (List.toArray (vl0))) rfl (by kernel_rfl) (by with_unfolding_all rfl) ?_)); intro w1 g1 hF1 hz1))
     refine (hnx.out _ _ hF1).mono ?_
     rintro e w2 ⟨rfl, q2, rfl⟩
     have hF2 := hF1.drewN q2
     clear hF1 hnx
     go_wp2_with (first | (with_reducible refine lst (by with_unfolding_all rfl) (wp_fld1 hF2 Tryz.underlying3 rfl (by with_unfolding_all exact ⟨_, rfl, rfl⟩) rfl ?_)) | ((with_reducible refine lst (by with_unfolding_all rfl) (wp_fst1 hF2 (by with_unfolding_all exact ⟨_, _, rfl, rfl, rfl⟩) (by kernel_rfl) rfl rfl (by rw [rdrL_len]; decide) (rdrL_it (q := m + 1) (by omega)) ?_)); intro w3 hF3 hz3))
     clear hF2
     refine (hwd.out _ _ hF3).mono ?_
     rintro e w5 ⟨rfl, h5⟩
     have hF5 := hF3.putF (i := 1) rfl h5
     simp only [List.set_cons_succ, List.set_cons_zero] at hF5
     clear hwd h5 hF3
     go_wp2_with (first | (with_reducible refine lst (by with_unfolding_all rfl) (wp_fbuild Tryz.underlying76 (z := .agg (List.toArray vl0)) (by kernel_rfl) (pl := vlP) (by kernel_rfl) (cs := (vlL 0 0 ⟨#[]⟩ (.slice none 0 0) (.slice none 0 0))) rfl (vs := []) (by with_unfolding_all rfl) (by with_unfolding_all rfl) ?_)) | ((with_reducible refine lst (by with_unfolding_all rfl) (wp_fstA0 hF5 (by with_unfolding_all exact ⟨_, _, rfl, rfl, rfl⟩) (by rw [vlL_len]; kernel_rfl) vlL_one vlL_fit vlL_spl ?_)); intro w6 hF6 hz6))
     exact bodyPost_ret (results_cellF rfl _ hF6 (i := 0) rfl rfl Tryz.underlying76 rfl (by rw [vlL_len]; kernel_rfl)) rfl (by
      unfold JEndP
      rw [hend.out]
      refine ⟨_, _, rfl, VT.leaf, ?_⟩
      exact ((hF6.tail.pushNone 5).pushNone 1).picks [2, 0, 1] rfl (by decide))
   ·rw [if_neg hx110] at hJ
    have n110 : ((x.toNat : Int) == 110) = false := u8_ne hx110
    clear hx110
    by_cases hx102 : x = 102
    ·subst hx102
     rw [if_pos rfl] at hJ
     have hwd := box (fun g1 w' (hF : Fr [g] w w' [.blk g1 76 vl0, .blk g 127 (rdrL A n c p (m + 1))]) => word_any g A n c p (m + 1) B b ⟨#[102, 97, 108, 115, 101]⟩ w' (hF.blk (i := 1) rfl) hg (Nat.le_trans hB hF.size) (by omega) hp (by decide) (hF.rdB hg hB hr))
     rw [show ((⟨#[102, 97, 108, 115, 101]⟩ : ByteArray).data.toList) = [102, 97, 108, 115, 101] from rfl] at hwd
     unfold jLit at hJ
     cases hW : jWord b [102, 97, 108, 115, 101] p with
     | error z =>
      rw [hW] at hJ hwd
      have hend := box hJ
      unfold JPost at hwd
      simp only [] at hwd hend
      clear hJ hW
      go_enter Tryz.func64, Tryz.ntmps64
      go_wp2_with (first | ((with_reducible refine lst (by with_unfolding_all rfl) (wp_falloc hF0 (cs := vl0) (z := .agg (List.toArray (vl0))) rfl (by kernel_rfl) (by with_unfolding_all rfl) ?_)); intro w1 g1 hF1 hz1))
      refine (hnx.out _ _ hF1).mono ?_
      rintro e w2 ⟨rfl, q2, rfl⟩
      have hF2 := hF1.drewN q2
      clear hF1 hnx
      go_wp2_with (first | (with_reducible refine lst (by with_unfolding_all rfl) (wp_fld1 hF2 Tryz.underlying3 rfl (by with_unfolding_all exact ⟨_, rfl, rfl⟩) rfl ?_)) | ((with_reducible refine lst (by with_unfolding_all rfl) (wp_fst1 hF2 (by with_unfolding_all exact ⟨_, _, rfl, rfl, rfl⟩) (by kernel_rfl) rfl rfl (by rw [rdrL_len]; decide) (rdrL_it (q := m + 1) (by omega)) ?_)); intro w3 hF3 hz3))
      clear hF2
      refine (hwd.out _ _ hF3).mono ?_
      rintro e w5 ⟨rfl, hg5⟩
      dsimp only [flt]
      go_wp2
      exact ⟨rfl, by unfold JEndP; rw [hend.out]; exact ⟨rfl, grown_trans hF3.grown hg5⟩⟩
     | ok q =>
      rw [hW] at hJ hwd
      have hend := box hJ
      unfold JPost at hwd
      simp only [] at hwd hend
      clear hJ hW
      go_enter Tryz.func64, Tryz.ntmps64
      go_wp2_with (first | ((with_reducible refine lst (by with_unfolding_all rfl) (wp_falloc hF0 (cs := vl0) (z := .agg (List.toArray (vl0))) rfl (by kernel_rfl) (by with_unfolding_all rfl) ?_)); intro w1 g1 hF1 hz1))
      refine (hnx.out _ _ hF1).mono ?_
      rintro e w2 ⟨rfl, q2, rfl⟩
      have hF2 := hF1.drewN q2
      clear hF1 hnx
      go_wp2_with (first | (with_reducible refine lst (by with_unfolding_all rfl) (wp_fld1 hF2 Tryz.underlying3 rfl (by with_unfolding_all exact ⟨_, rfl, rfl⟩) rfl ?_)) | ((with_reducible refine lst (by with_unfolding_all rfl) (wp_fst1 hF2 (by with_unfolding_all exact ⟨_, _, rfl, rfl, rfl⟩) (by kernel_rfl) rfl rfl (by rw [rdrL_len]; decide) (rdrL_it (q := m + 1) (by omega)) ?_)); intro w3 hF3 hz3))
      clear hF2
      refine (hwd.out _ _ hF3).mono ?_
      rintro e w5 ⟨rfl, h5⟩
      have hF5 := hF3.putF (i := 1) rfl h5
      simp only [List.set_cons_succ, List.set_cons_zero] at hF5
      clear hwd h5 hF3
      go_wp2_with (first | (with_reducible refine lst (by with_unfolding_all rfl) (wp_fbuild Tryz.underlying76 (z := .agg (List.toArray vl0)) (by kernel_rfl) (pl := vlP) (by kernel_rfl) (cs := (vlL 1 0 ⟨#[]⟩ (.slice none 0 0) (.slice none 0 0))) rfl (vs := [(0, .int .i64 1)]) (by with_unfolding_all rfl) (by with_unfolding_all rfl) ?_)) | ((with_reducible refine lst (by with_unfolding_all rfl) (wp_fstA0 hF5 (by with_unfolding_all exact ⟨_, _, rfl, rfl, rfl⟩) (by rw [vlL_len]; kernel_rfl) vlL_one vlL_fit vlL_spl ?_)); intro w6 hF6 hz6))
      exact bodyPost_ret (results_cellF rfl _ hF6 (i := 0) rfl rfl Tryz.underlying76 rfl (by rw [vlL_len]; kernel_rfl)) rfl (by
       unfold JEndP
       rw [hend.out]
       refine ⟨_, _, rfl, VT.leaf, ?_⟩
       exact ((hF6.tail.pushNone 5).pushNone 1).picks [2, 0, 1] rfl (by decide))
    ·rw [if_neg hx102] at hJ
     have n102 : ((x.toNat : Int) == 102) = false := u8_ne hx102
     clear hx102
     by_cases hx116 : x = 116
     ·subst hx116
      rw [if_pos rfl] at hJ
      have hwd := box (fun g1 w' (hF : Fr [g] w w' [.blk g1 76 vl0, .blk g 127 (rdrL A n c p (m + 1))]) => word_any g A n c p (m + 1) B b ⟨#[116, 114, 117, 101]⟩ w' (hF.blk (i := 1) rfl) hg (Nat.le_trans hB hF.size) (by omega) hp (by decide) (hF.rdB hg hB hr))
      rw [show ((⟨#[116, 114, 117, 101]⟩ : ByteArray).data.toList) = [116, 114, 117, 101] from rfl] at hwd
      unfold jLit at hJ
      cases hW : jWord b [116, 114, 117, 101] p with
      | error z =>
       rw [hW] at hJ hwd
       have hend := box hJ
       unfold JPost at hwd
       simp only [] at hwd hend
       clear hJ hW
       go_enter Tryz.func64, Tryz.ntmps64
       go_wp2_with (first | ((with_reducible refine lst (by with_unfolding_all rfl) (wp_falloc hF0 (cs := vl0) (z := .agg (List.toArray (vl0))) rfl (by kernel_rfl) (by with_unfolding_all rfl) ?_)); intro w1 g1 hF1 hz1))
       refine (hnx.out _ _ hF1).mono ?_
       rintro e w2 ⟨rfl, q2, rfl⟩
       have hF2 := hF1.drewN q2
       clear hF1 hnx
       go_wp2_with (first | (with_reducible refine lst (by with_unfolding_all rfl) (wp_fld1 hF2 Tryz.underlying3 rfl (by with_unfolding_all exact ⟨_, rfl, rfl⟩) rfl ?_)) | ((with_reducible refine lst (by with_unfolding_all rfl) (wp_fst1 hF2 (by with_unfolding_all exact ⟨_, _, rfl, rfl, rfl⟩) (by kernel_rfl) rfl rfl (by rw [rdrL_len]; decide) (rdrL_it (q := m + 1) (by omega)) ?_)); intro w3 hF3 hz3))
       clear hF2
       refine (hwd.out _ _ hF3).mono ?_
       rintro e w5 ⟨rfl, hg5⟩
       dsimp only [flt]
       go_wp2
       exact ⟨rfl, by unfold JEndP; rw [hend.out]; exact ⟨rfl, grown_trans hF3.grown hg5⟩⟩
      | ok q =>
       rw [hW] at hJ hwd
       have hend := box hJ
       unfold JPost at hwd
       simp only [] at hwd hend
       clear hJ hW
       go_enter Tryz.func64, Tryz.ntmps64
       go_wp2_with (first | ((with_reducible refine lst (by with_unfolding_all rfl) (wp_falloc hF0 (cs := vl0) (z := .agg (List.toArray (vl0))) rfl (by kernel_rfl) (by with_unfolding_all rfl) ?_)); intro w1 g1 hF1 hz1))
       refine (hnx.out _ _ hF1).mono ?_
       rintro e w2 ⟨rfl, q2, rfl⟩
       have hF2 := hF1.drewN q2
       clear hF1 hnx
       go_wp2_with (first | (with_reducible refine lst (by with_unfolding_all rfl) (wp_fld1 hF2 Tryz.underlying3 rfl (by with_unfolding_all exact ⟨_, rfl, rfl⟩) rfl ?_)) | ((with_reducible refine lst (by with_unfolding_all rfl) (wp_fst1 hF2 (by with_unfolding_all exact ⟨_, _, rfl, rfl, rfl⟩) (by kernel_rfl) rfl rfl (by rw [rdrL_len]; decide) (rdrL_it (q := m + 1) (by omega)) ?_)); intro w3 hF3 hz3))
       clear hF2
       refine (hwd.out _ _ hF3).mono ?_
       rintro e w5 ⟨rfl, h5⟩
       have hF5 := hF3.putF (i := 1) rfl h5
       simp only [List.set_cons_succ, List.set_cons_zero] at hF5
       clear hwd h5 hF3
       go_wp2_with (first | (with_reducible refine lst (by with_unfolding_all rfl) (wp_fbuild Tryz.underlying76 (z := .agg (List.toArray vl0)) (by kernel_rfl) (pl := vlP) (by kernel_rfl) (cs := (vlL 2 0 ⟨#[]⟩ (.slice none 0 0) (.slice none 0 0))) rfl (vs := [(0, .int .i64 2)]) (by with_unfolding_all rfl) (by with_unfolding_all rfl) ?_)) | ((with_reducible refine lst (by with_unfolding_all rfl) (wp_fstA0 hF5 (by with_unfolding_all exact ⟨_, _, rfl, rfl, rfl⟩) (by rw [vlL_len]; kernel_rfl) vlL_one vlL_fit vlL_spl ?_)); intro w6 hF6 hz6))
       exact bodyPost_ret (results_cellF rfl _ hF6 (i := 0) rfl rfl Tryz.underlying76 rfl (by rw [vlL_len]; kernel_rfl)) rfl (by
        unfold JEndP
        rw [hend.out]
        refine ⟨_, _, rfl, VT.leaf, ?_⟩
        exact ((hF6.tail.pushNone 5).pushNone 1).picks [2, 0, 1] rfl (by decide))
     ·rw [if_neg hx116] at hJ
      have n116 : ((x.toNat : Int) == 116) = false := u8_ne hx116
      clear hx116
      by_cases hnm : x = 45 ∨ jDig x = true
      ·rw [if_pos hnm] at hJ
       have hcd : ((x.toNat : Int) == 45) = true ∨ ((x.toNat : Int) == 45) = false ∧ decide ((48 : Int) ≤ (x.toNat : Int)) = true ∧ decide ((x.toNat : Int) ≤ 57) = true := by
        by_cases h45 : x = 45
        ·left; rw [h45]; rfl
        ·right; have := dig_char (hnm.resolve_left h45); exact ⟨u8_ne h45, decide_eq_true (by omega), decide_eq_true (by omega)⟩
       clear hnm 
       rcases hcd with hcd | ⟨hcd, hcd1, hcd2⟩
       ·have hnb := box (fun g1 w' (hF : Fr [g] w w' [.blk g1 76 vl0, .blk g 127 (rdrL A n c p (m + 1))]) => number_any g A n c p (m + 1) B b w' (hL.on (hF.belowG hg hB)) (hF.blk (i := 1) rfl) hg (Nat.le_trans hB hF.size) hn hnc hp (hF.rdB hg hB hr))
        cases hM : jNumber b p with
        | error z =>
         rw [hM] at hJ hnb
         have hend := box hJ
         unfold JEndP at hnb
         simp only [] at hnb hend
         clear hJ hM
         go_enter Tryz.func64, Tryz.ntmps64
         go_wp2_with (first | ((with_reducible refine lst (by with_unfolding_all rfl) (wp_falloc hF0 (cs := vl0) (z := .agg (List.toArray (vl0))) rfl (by kernel_rfl) (by with_unfolding_all rfl) ?_)); intro w1 g1 hF1 hz1))
         refine (hnx.out _ _ hF1).mono ?_
         rintro e w2 ⟨rfl, q2, rfl⟩
         have hF2 := hF1.drewN q2
         clear hF1 hnx
         go_wp2_with (first | (with_reducible refine lst (by with_unfolding_all rfl) (wp_fld1 hF2 Tryz.underlying3 rfl (by with_unfolding_all exact ⟨_, rfl, rfl⟩) rfl ?_)) | ((with_reducible refine lst (by with_unfolding_all rfl) (wp_fst1 hF2 (by with_unfolding_all exact ⟨_, _, rfl, rfl, rfl⟩) (by kernel_rfl) rfl rfl (by rw [rdrL_len]; decide) (rdrL_it (q := m + 1) (by omega)) ?_)); intro w3 hF3 hz3))
         clear hF2
         refine (hnb.out _ _ hF3).mono ?_
         rintro e w5 ⟨rfl, hg5⟩
         dsimp only [flt]
         go_wp2
         exact ⟨rfl, by unfold JEndP; rw [hend.out]; exact ⟨rfl, grown_trans hF3.grown hg5⟩⟩
        | ok y =>
         obtain ⟨v, q⟩ := y
         rw [hM] at hJ hnb
         have hend := box hJ
         unfold JEndP ToldN at hnb
         simp only [] at hnb hend
         clear hJ hM
         go_enter Tryz.func64, Tryz.ntmps64
         go_wp2_with (first | ((with_reducible refine lst (by with_unfolding_all rfl) (wp_falloc hF0 (cs := vl0) (z := .agg (List.toArray (vl0))) rfl (by kernel_rfl) (by with_unfolding_all rfl) ?_)); intro w1 g1 hF1 hz1))
         refine (hnx.out _ _ hF1).mono ?_
         rintro e w2 ⟨rfl, q2, rfl⟩
         have hF2 := hF1.drewN q2
         clear hF1 hnx
         go_wp2_with (first | (with_reducible refine lst (by with_unfolding_all rfl) (wp_fld1 hF2 Tryz.underlying3 rfl (by with_unfolding_all exact ⟨_, rfl, rfl⟩) rfl ?_)) | ((with_reducible refine lst (by with_unfolding_all rfl) (wp_fst1 hF2 (by with_unfolding_all exact ⟨_, _, rfl, rfl, rfl⟩) (by kernel_rfl) rfl rfl (by rw [rdrL_len]; decide) (rdrL_it (q := m + 1) (by omega)) ?_)); intro w3 hF3 hz3))
         clear hF2
         refine (hnb.out _ _ hF3).mono ?_
         rintro e w5 ⟨rfl, h5⟩
         have hF5 := hF3.putF (i := 1) rfl h5
         simp only [List.set_cons_succ, List.set_cons_zero] at hF5
         clear hnb h5 hF3
         go_wp2_with (first | ((with_reducible refine lst (by with_unfolding_all rfl) (wp_fstA0 hF5 (by with_unfolding_all exact ⟨_, _, rfl, rfl, rfl⟩) (by rw [vlL_len]; kernel_rfl) vlL_one vlL_fit vlL_spl ?_)); intro w6 hF6 hz6))
         exact bodyPost_ret (results_cellF rfl _ hF6 (i := 0) rfl rfl Tryz.underlying76 rfl (by rw [vlL_len]; kernel_rfl)) rfl (by
          unfold JEndP
          rw [hend.out]
          refine ⟨_, _, rfl, VT.leaf, ?_⟩
          exact ((hF6.tail.pushNone 5).pushNone 1).picks [2, 0, 1] rfl (by decide))
       ·have hnb := box (fun g1 w' (hF : Fr [g] w w' [.blk g1 76 vl0, .blk g 127 (rdrL A n c p (m + 1))]) => number_any g A n c p (m + 1) B b w' (hL.on (hF.belowG hg hB)) (hF.blk (i := 1) rfl) hg (Nat.le_trans hB hF.size) hn hnc hp (hF.rdB hg hB hr))
        cases hM : jNumber b p with
        | error z =>
         rw [hM] at hJ hnb
         have hend := box hJ
         unfold JEndP at hnb
         simp only [] at hnb hend
         clear hJ hM
         go_enter Tryz.func64, Tryz.ntmps64
         go_wp2_with (first | ((with_reducible refine lst (by with_unfolding_all rfl) (wp_falloc hF0 (cs := vl0) (z := .agg (List.toArray (vl0))) rfl (by kernel_rfl) (by with_unfolding_all rfl) ?_)); intro w1 g1 hF1 hz1))
         refine (hnx.out _ _ hF1).mono ?_
         rintro e w2 ⟨rfl, q2, rfl⟩
         have hF2 := hF1.drewN q2
         clear hF1 hnx
         go_wp2_with (first | (with_reducible refine lst (by with_unfolding_all rfl) (wp_fld1 hF2 Tryz.underlying3 rfl (by with_unfolding_all exact ⟨_, rfl, rfl⟩) rfl ?_)) | ((with_reducible refine lst (by with_unfolding_all rfl) (wp_fst1 hF2 (by with_unfolding_all exact ⟨_, _, rfl, rfl, rfl⟩) (by kernel_rfl) rfl rfl (by rw [rdrL_len]; decide) (rdrL_it (q := m + 1) (by omega)) ?_)); intro w3 hF3 hz3))
         clear hF2
         refine (hnb.out _ _ hF3).mono ?_
         rintro e w5 ⟨rfl, hg5⟩
         dsimp only [flt]
         go_wp2
         exact ⟨rfl, by unfold JEndP; rw [hend.out]; exact ⟨rfl, grown_trans hF3.grown hg5⟩⟩
        | ok y =>
         obtain ⟨v, q⟩ := y
         rw [hM] at hJ hnb
         have hend := box hJ
         unfold JEndP ToldN at hnb
         simp only [] at hnb hend
         clear hJ hM
         go_enter Tryz.func64, Tryz.ntmps64
         go_wp2_with (first | ((with_reducible refine lst (by with_unfolding_all rfl) (wp_falloc hF0 (cs := vl0) (z := .agg (List.toArray (vl0))) rfl (by kernel_rfl) (by with_unfolding_all rfl) ?_)); intro w1 g1 hF1 hz1))
         refine (hnx.out _ _ hF1).mono ?_
         rintro e w2 ⟨rfl, q2, rfl⟩
         have hF2 := hF1.drewN q2
         clear hF1 hnx
         go_wp2_with (first | (with_reducible refine lst (by with_unfolding_all rfl) (wp_fld1 hF2 Tryz.underlying3 rfl (by with_unfolding_all exact ⟨_, rfl, rfl⟩) rfl ?_)) | ((with_reducible refine lst (by with_unfolding_all rfl) (wp_fst1 hF2 (by with_unfolding_all exact ⟨_, _, rfl, rfl, rfl⟩) (by kernel_rfl) rfl rfl (by rw [rdrL_len]; decide) (rdrL_it (q := m + 1) (by omega)) ?_)); intro w3 hF3 hz3))
         clear hF2
         refine (hnb.out _ _ hF3).mono ?_
         rintro e w5 ⟨rfl, h5⟩
         have hF5 := hF3.putF (i := 1) rfl h5
         simp only [List.set_cons_succ, List.set_cons_zero] at hF5
         clear hnb h5 hF3
         go_wp2_with (first | ((with_reducible refine lst (by with_unfolding_all rfl) (wp_fstA0 hF5 (by with_unfolding_all exact ⟨_, _, rfl, rfl, rfl⟩) (by rw [vlL_len]; kernel_rfl) vlL_one vlL_fit vlL_spl ?_)); intro w6 hF6 hz6))
         exact bodyPost_ret (results_cellF rfl _ hF6 (i := 0) rfl rfl Tryz.underlying76 rfl (by rw [vlL_len]; kernel_rfl)) rfl (by
          unfold JEndP
          rw [hend.out]
          refine ⟨_, _, rfl, VT.leaf, ?_⟩
          exact ((hF6.tail.pushNone 5).pushNone 1).picks [2, 0, 1] rfl (by decide))
      ·rw [if_neg hnm] at hJ
       have nd : (((x.toNat : Int) == 45) = false) ∧ (decide ((48 : Int) ≤ (x.toNat : Int)) = false ∨ decide ((48 : Int) ≤ (x.toNat : Int)) = true ∧ decide ((x.toNat : Int) ≤ 57) = false) := by
        refine ⟨u8_ne (fun h => hnm (.inl h)), ?_⟩
        by_cases h48 : 48 ≤ x.toNat
        ·right; refine ⟨decide_eq_true (by omega), decide_eq_false (fun h => hnm (.inr ?_))⟩; simp [jDig]; omega
        ·left; exact decide_eq_false (by omega)
       obtain ⟨n45, nd⟩ := nd
       clear hnm
       by_cases hx34 : x = 34
       ·subst hx34
        rw [if_pos rfl] at hJ
        have htx := box (fun g1 w' (hF : Fr [g] w w' [.blk g1 76 vl0, .blk g 127 (rdrL A n c p (m + 1))]) => text_any g A n c p (m + 1) B b w' (hL.on (hF.belowG hg hB)) (hF.blk (i := 1) rfl) hg (Nat.le_trans hB hF.size) hn hnc hp (hF.rdB hg hB hr))
        cases hM : jText b p with
        | error z =>
         rw [hM] at hJ htx
         have hend := box hJ
         unfold JEndP at htx
         simp only [] at htx hend
         clear hJ hM
         go_enter Tryz.func64, Tryz.ntmps64
         go_wp2_with (first | ((with_reducible refine lst (by with_unfolding_all rfl) (wp_falloc hF0 (cs := vl0) (z := .agg (List.toArray (vl0))) rfl (by kernel_rfl) (by with_unfolding_all rfl) ?_)); intro w1 g1 hF1 hz1))
         refine (hnx.out _ _ hF1).mono ?_
         rintro e w2 ⟨rfl, q2, rfl⟩
         have hF2 := hF1.drewN q2
         clear hF1 hnx
         go_wp2_with (first | (with_reducible refine lst (by with_unfolding_all rfl) (wp_fld1 hF2 Tryz.underlying3 rfl (by with_unfolding_all exact ⟨_, rfl, rfl⟩) rfl ?_)) | ((with_reducible refine lst (by with_unfolding_all rfl) (wp_fst1 hF2 (by with_unfolding_all exact ⟨_, _, rfl, rfl, rfl⟩) (by kernel_rfl) rfl rfl (by rw [rdrL_len]; decide) (rdrL_it (q := m + 1) (by omega)) ?_)); intro w3 hF3 hz3))
         clear hF2
         refine (htx.out _ _ hF3).mono ?_
         rintro e w5 ⟨rfl, hg5⟩
         dsimp only [flt]
         go_wp2
         exact ⟨rfl, by unfold JEndP; rw [hend.out]; exact ⟨rfl, grown_trans hF3.grown hg5⟩⟩
        | ok y =>
         obtain ⟨s, q⟩ := y
         rw [hM] at hJ htx
         have hend := box hJ
         unfold JEndP ToldS at htx
         simp only [] at htx hend
         clear hJ hM
         go_enter Tryz.func64, Tryz.ntmps64
         go_wp2_with (first | ((with_reducible refine lst (by with_unfolding_all rfl) (wp_falloc hF0 (cs := vl0) (z := .agg (List.toArray (vl0))) rfl (by kernel_rfl) (by with_unfolding_all rfl) ?_)); intro w1 g1 hF1 hz1))
         refine (hnx.out _ _ hF1).mono ?_
         rintro e w2 ⟨rfl, q2, rfl⟩
         have hF2 := hF1.drewN q2
         clear hF1 hnx
         go_wp2_with (first | (with_reducible refine lst (by with_unfolding_all rfl) (wp_fld1 hF2 Tryz.underlying3 rfl (by with_unfolding_all exact ⟨_, rfl, rfl⟩) rfl ?_)) | ((with_reducible refine lst (by with_unfolding_all rfl) (wp_fst1 hF2 (by with_unfolding_all exact ⟨_, _, rfl, rfl, rfl⟩) (by kernel_rfl) rfl rfl (by rw [rdrL_len]; decide) (rdrL_it (q := m + 1) (by omega)) ?_)); intro w3 hF3 hz3))
         clear hF2
         refine (htx.out _ _ hF3).mono ?_
         rintro e w5 ⟨rfl, h5⟩
         have hF5 := hF3.putF (i := 1) rfl h5
         simp only [List.set_cons_succ, List.set_cons_zero] at hF5
         clear htx h5 hF3
         go_wp2_with (first | (with_reducible refine lst (by with_unfolding_all rfl) (wp_fbuild Tryz.underlying76 (z := .agg (List.toArray vl0)) (by kernel_rfl) (pl := vlP) (by kernel_rfl) (cs := (vlL 4 0 ⟨s.toArray⟩ (.slice none 0 0) (.slice none 0 0))) rfl (vs := [(0, .int .i64 4), (2, .string ⟨s.toArray⟩)]) (by with_unfolding_all rfl) (by with_unfolding_all rfl) ?_)) | ((with_reducible refine lst (by with_unfolding_all rfl) (wp_fstA0 hF5 (by with_unfolding_all exact ⟨_, _, rfl, rfl, rfl⟩) (by rw [vlL_len]; kernel_rfl) vlL_one vlL_fit vlL_spl ?_)); intro w6 hF6 hz6))
         exact bodyPost_ret (results_cellF rfl _ hF6 (i := 0) rfl rfl Tryz.underlying76 rfl (by rw [vlL_len]; kernel_rfl)) rfl (by
          unfold JEndP
          rw [hend.out]
          refine ⟨_, _, rfl, VT.leaf, ?_⟩
          exact ((hF6.tail.pushNone 5).pushNone 1).picks [2, 0, 1] rfl (by decide))
       ·rw [if_neg hx34] at hJ
        have n34 : ((x.toNat : Int) == 34) = false := u8_ne hx34
        clear hx34
        by_cases hx91 : x = 91
        ·subst hx91
         rw [if_pos rfl] at hJ
         have hmn := box (fun g1 w' (hF : Fr [g] w w' [.blk g1 76 vl0, .blk g 127 (rdrL A n c p (m + 1))]) => hl5 _ hplt hmlt (hL.on (hF.belowG hg hB)) (hF.blk (i := 1) rfl) (Nat.le_trans hB hF.size) (hF.rdB hg hB hr))
         cases hM : jMany b 5 93 val p (m + 1) with
         | error z =>
          rw [hM] at hJ hmn
          have hend := box hJ
          unfold JEndP at hmn
          simp only [] at hmn hend
          clear hJ hM hl5 hl6
          go_enter Tryz.func64, Tryz.ntmps64
          go_wp2_with (first | ((with_reducible refine lst (by with_unfolding_all rfl) (wp_falloc hF0 (cs := vl0) (z := .agg (List.toArray (vl0))) rfl (by kernel_rfl) (by with_unfolding_all rfl) ?_)); intro w1 g1 hF1 hz1))
          refine (hnx.out _ _ hF1).mono ?_
          rintro e w2 ⟨rfl, q2, rfl⟩
          have hF2 := hF1.drewN q2
          clear hF1 hnx
          go_wp2_with (first | (with_reducible refine lst (by with_unfolding_all rfl) (wp_fld1 hF2 Tryz.underlying3 rfl (by with_unfolding_all exact ⟨_, rfl, rfl⟩) rfl ?_)) | ((with_reducible refine lst (by with_unfolding_all rfl) (wp_fst1 hF2 (by with_unfolding_all exact ⟨_, _, rfl, rfl, rfl⟩) (by kernel_rfl) rfl rfl (by rw [rdrL_len]; decide) (rdrL_it (q := m + 1) (by omega)) ?_)); intro w3 hF3 hz3))
          clear hF2
          refine (hmn.out _ _ hF3).mono ?_
          rintro e w5 ⟨rfl, hg5⟩
          dsimp only [flt]
          go_wp2
          exact ⟨rfl, by unfold JEndP; rw [hend.out]; exact ⟨rfl, grown_trans hF3.grown hg5⟩⟩
         | ok y =>
          obtain ⟨v, q, m'⟩ := y
          rw [hM] at hJ hmn
          have hend := box hJ
          unfold JEndP ToldV at hmn
          simp only [] at hmn hend
          clear hJ hM hl5 hl6
          go_enter Tryz.func64, Tryz.ntmps64
          go_wp2_with (first | ((with_reducible refine lst (by with_unfolding_all rfl) (wp_falloc hF0 (cs := vl0) (z := .agg (List.toArray (vl0))) rfl (by kernel_rfl) (by with_unfolding_all rfl) ?_)); intro w1 g1 hF1 hz1))
          refine (hnx.out _ _ hF1).mono ?_
          rintro e w2 ⟨rfl, q2, rfl⟩
          have hF2 := hF1.drewN q2
          clear hF1 hnx
          go_wp2_with (first | (with_reducible refine lst (by with_unfolding_all rfl) (wp_fld1 hF2 Tryz.underlying3 rfl (by with_unfolding_all exact ⟨_, rfl, rfl⟩) rfl ?_)) | ((with_reducible refine lst (by with_unfolding_all rfl) (wp_fst1 hF2 (by with_unfolding_all exact ⟨_, _, rfl, rfl, rfl⟩) (by kernel_rfl) rfl rfl (by rw [rdrL_len]; decide) (rdrL_it (q := m + 1) (by omega)) ?_)); intro w3 hF3 hz3))
          clear hF2
          refine (hmn.out _ _ hF3).mono ?_
          rintro e w5 ⟨cs, es, rfl, hvt, h5⟩
          have hF5 := hF3.putG (i := 1) rfl h5
          simp only [List.set_cons_succ, List.set_cons_zero, List.cons_append, List.nil_append] at hF5
          clear hmn h5 hF3
          have hvl := box hvt.len
          have hvo := hvt.one
          replace hvt := box hvt
          replace hvo := box hvo
          go_wp2_with (first | ((with_reducible refine lst (by with_unfolding_all rfl) (wp_fstA0 hF5 (by with_unfolding_all exact ⟨_, _, rfl, rfl, rfl⟩) (by rw [hvl.out]; kernel_rfl) hvo.out (by rw [hvl.out, vlL_len]; decide) (spl_all (by rw [hvl.out, vlL_len])) ?_)); intro w6 hF6 hz6))
          exact bodyPost_ret (results_cellF rfl _ hF6 (i := 0) rfl rfl Tryz.underlying76 rfl (by rw [hvl.out]; kernel_rfl)) rfl (by
           unfold JEndP
           rw [hend.out]
           exact ⟨_, _, rfl, hvt.out, hF6.tail⟩)
        ·rw [if_neg hx91] at hJ
         have n91 : ((x.toNat : Int) == 91) = false := u8_ne hx91
         clear hx91
         by_cases hx123 : x = 123
         ·subst hx123
          rw [if_pos rfl] at hJ
          have hmn := box (fun g1 w' (hF : Fr [g] w w' [.blk g1 76 vl0, .blk g 127 (rdrL A n c p (m + 1))]) => hl6 _ hplt hmlt (hL.on (hF.belowG hg hB)) (hF.blk (i := 1) rfl) (Nat.le_trans hB hF.size) (hF.rdB hg hB hr))
          cases hM : jMany b 6 125 val p (m + 1) with
          | error z =>
           rw [hM] at hJ hmn
           have hend := box hJ
           unfold JEndP at hmn
           simp only [] at hmn hend
           clear hJ hM hl5 hl6
           go_enter Tryz.func64, Tryz.ntmps64
           go_wp2_with (first | ((with_reducible refine lst (by with_unfolding_all rfl) (wp_falloc hF0 (cs := vl0) (z := .agg (List.toArray (vl0))) rfl (by kernel_rfl) (by with_unfolding_all rfl) ?_)); intro w1 g1 hF1 hz1))
           refine (hnx.out _ _ hF1).mono ?_
           rintro e w2 ⟨rfl, q2, rfl⟩
           have hF2 := hF1.drewN q2
           clear hF1 hnx
           go_wp2_with (first | (with_reducible refine lst (by with_unfolding_all rfl) (wp_fld1 hF2 Tryz.underlying3 rfl (by with_unfolding_all exact ⟨_, rfl, rfl⟩) rfl ?_)) | ((with_reducible refine lst (by with_unfolding_all rfl) (wp_fst1 hF2 (by with_unfolding_all exact ⟨_, _, rfl, rfl, rfl⟩) (by kernel_rfl) rfl rfl (by rw [rdrL_len]; decide) (rdrL_it (q := m + 1) (by omega)) ?_)); intro w3 hF3 hz3))
           clear hF2
           refine (hmn.out _ _ hF3).mono ?_
           rintro e w5 ⟨rfl, hg5⟩
           dsimp only [flt]
           go_wp2
           exact ⟨rfl, by unfold JEndP; rw [hend.out]; exact ⟨rfl, grown_trans hF3.grown hg5⟩⟩
          | ok y =>
           obtain ⟨v, q, m'⟩ := y
           rw [hM] at hJ hmn
           have hend := box hJ
           unfold JEndP ToldV at hmn
           simp only [] at hmn hend
           clear hJ hM hl5 hl6
           go_enter Tryz.func64, Tryz.ntmps64
           go_wp2_with (first | ((with_reducible refine lst (by with_unfolding_all rfl) (wp_falloc hF0 (cs := vl0) (z := .agg (List.toArray (vl0))) rfl (by kernel_rfl) (by with_unfolding_all rfl) ?_)); intro w1 g1 hF1 hz1))
           refine (hnx.out _ _ hF1).mono ?_
           rintro e w2 ⟨rfl, q2, rfl⟩
           have hF2 := hF1.drewN q2
           clear hF1 hnx
           go_wp2_with (first | (with_reducible refine lst (by with_unfolding_all rfl) (wp_fld1 hF2 Tryz.underlying3 rfl (by with_unfolding_all exact ⟨_, rfl, rfl⟩) rfl ?_)) | ((with_reducible refine lst (by with_unfolding_all rfl) (wp_fst1 hF2 (by with_unfolding_all exact ⟨_, _, rfl, rfl, rfl⟩) (by kernel_rfl) rfl rfl (by rw [rdrL_len]; decide) (rdrL_it (q := m + 1) (by omega)) ?_)); intro w3 hF3 hz3))
           clear hF2
           refine (hmn.out _ _ hF3).mono ?_
           rintro e w5 ⟨cs, es, rfl, hvt, h5⟩
           have hF5 := hF3.putG (i := 1) rfl h5
           simp only [List.set_cons_succ, List.set_cons_zero, List.cons_append, List.nil_append] at hF5
           clear hmn h5 hF3
           have hvl := box hvt.len
           have hvo := hvt.one
           replace hvt := box hvt
           replace hvo := box hvo
           go_wp2_with (first | ((with_reducible refine lst (by with_unfolding_all rfl) (wp_fstA0 hF5 (by with_unfolding_all exact ⟨_, _, rfl, rfl, rfl⟩) (by rw [hvl.out]; kernel_rfl) hvo.out (by rw [hvl.out, vlL_len]; decide) (spl_all (by rw [hvl.out, vlL_len])) ?_)); intro w6 hF6 hz6))
           exact bodyPost_ret (results_cellF rfl _ hF6 (i := 0) rfl rfl Tryz.underlying76 rfl (by rw [hvl.out]; kernel_rfl)) rfl (by
            unfold JEndP
            rw [hend.out]
            exact ⟨_, _, rfl, hvt.out, hF6.tail⟩)
         ·rw [if_neg hx123] at hJ
          have n123 : ((x.toNat : Int) == 123) = false := u8_ne hx123
          clear hx123
          have hend := box hJ
          have hfl := box (fun v w => fail_any v p 10 w)
          clear hJ hl5 hl6
          rcases nd with nd | ⟨nd, nd2⟩
          ·go_enter Tryz.func64, Tryz.ntmps64
           go_wp2_with (first | ((with_reducible refine lst (by with_unfolding_all rfl) (wp_falloc hF0 (cs := vl0) (z := .agg (List.toArray (vl0))) rfl (by kernel_rfl) (by with_unfolding_all rfl) ?_)); intro w1 g1 hF1 hz1))
           refine (hnx.out _ _ hF1).mono ?_
           rintro e w2 ⟨rfl, q2, rfl⟩
           have hF2 := hF1.drewN q2
           clear hF1 hnx
           go_wp2_with (first | (with_reducible refine lst (by with_unfolding_all rfl) (wp_fld1 hF3 Tryz.underlying3 rfl (by with_unfolding_all exact ⟨_, rfl, rfl⟩) rfl ?_)) | (with_reducible refine lst (by with_unfolding_all rfl) (wp_fld1 hF2 Tryz.underlying3 rfl (by with_unfolding_all exact ⟨_, rfl, rfl⟩) rfl ?_)) | ((with_reducible refine lst (by with_unfolding_all rfl) (wp_fst1 hF2 (by with_unfolding_all exact ⟨_, _, rfl, rfl, rfl⟩) (by kernel_rfl) rfl rfl (by rw [rdrL_len]; decide) (rdrL_it (q := m + 1) (by omega)) ?_)); intro w3 hF3 hz3))
           clear hF2
           refine (hfl.out _ _).mono ?_
           rintro e w4 ⟨rfl, rfl⟩
           dsimp only [flt]
           go_wp2
           exact ⟨rfl, by unfold JEndP; rw [hend.out]; exact ⟨rfl, hF3.grown⟩⟩
          ·go_enter Tryz.func64, Tryz.ntmps64
           go_wp2_with (first | ((with_reducible refine lst (by with_unfolding_all rfl) (wp_falloc hF0 (cs := vl0) (z := .agg (List.toArray (vl0))) rfl (by kernel_rfl) (by with_unfolding_all rfl) ?_)); intro w1 g1 hF1 hz1))
           refine (hnx.out _ _ hF1).mono ?_
           rintro e w2 ⟨rfl, q2, rfl⟩
           have hF2 := hF1.drewN q2
           clear hF1 hnx
           go_wp2_with (first | (with_reducible refine lst (by with_unfolding_all rfl) (wp_fld1 hF3 Tryz.underlying3 rfl (by with_unfolding_all exact ⟨_, rfl, rfl⟩) rfl ?_)) | (with_reducible refine lst (by with_unfolding_all rfl) (wp_fld1 hF2 Tryz.underlying3 rfl (by with_unfolding_all exact ⟨_, rfl, rfl⟩) rfl ?_)) | ((with_reducible refine lst (by with_unfolding_all rfl) (wp_fst1 hF2 (by with_unfolding_all exact ⟨_, _, rfl, rfl, rfl⟩) (by kernel_rfl) rfl rfl (by rw [rdrL_len]; decide) (rdrL_it (q := m + 1) (by omega)) ?_)); intro w3 hF3 hz3))
           clear hF2
           refine (hfl.out _ _).mono ?_
           rintro e w4 ⟨rfl, rfl⟩
           dsimp only [flt]
           go_wp2
           exact ⟨rfl, by unfold JEndP; rw [hend.out]; exact ⟨rfl, hF3.grown⟩⟩
theorem value_any : ∀ (d deep : Nat), deep + d = 16 → ValueOk d deep
 | 0, deep, hd => fun w g A n c p m B b hL hh hg hB hn hnc hp hm hr => by
  obtain rfl : deep = 16 := by omega
  exact value_of 16 none w g A n c p m B b hL hh hg hB hn hnc hp hm hr (fun w' _ _ _ hh' _ _ => many_deep g A n c p (m + 1) b 5 93 w' hh') (fun w' _ _ _ hh' _ _ => many_deep g A n c p (m + 1) b 6 125 w' hh')
 | d + 1, deep, hd => fun w g A n c p m B b hL hh hg hB hn hnc hp hm hr =>
  value_of deep (some (jValue b d)) w g A n c p m B b hL hh hg hB hn hnc hp hm hr
   (fun w' h1 h2 h3 hh' h4 h5 => many_5 d deep (value_any d (deep + 1) (by omega)) (by omega) g A n c p (m + 1) B b w' h3 hh' hg h4 hn hnc h1 (by omega) h5)
   (fun w' h1 h2 h3 hh' h4 h5 => many_6 d deep (value_any d (deep + 1) (by omega)) (by omega) g A n c p (m + 1) B b w' h3 hh' hg h4 hn hnc h1 (by omega) h5)
end Go.Proofs.YtlhicfpmlncomaaGreatDoor
