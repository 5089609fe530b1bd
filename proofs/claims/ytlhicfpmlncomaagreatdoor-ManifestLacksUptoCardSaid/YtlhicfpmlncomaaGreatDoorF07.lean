/-
 Layer 6: the walk of the program's reader of values.
 Layer 6: the walk of the program's Parse: faults are caught.
 Layer 6: Parse within a frame.
 Layer 6: values that are read, short laws.
 Layer 6: the walk of the program's has.
 Layer 6: which values are right, in plain words; the walk of the program's right.
 Layer 6, plain: a member is smaller than the value.
 A text appended to bytes that the call owns, over a frame of known blocks. No program is named here.
 A sign of a text, by its place: the laws of the operation. No program is named here.
 Layer 6: what is written, in plain words; the walk of the program's quoted.
 Layer 6: values as they are written: in plain words; the walk of the program's written.
 Layer 6: the walk of the program's right: lists and objects.
-/
import Derived.Test.YtlhicfpmlncomaaGreatDoorF06
import Derived.Test.YtlhicfpmlncomaaGreatDoorF02
import Derived.Defers
import Derived.Recover
import Derived.Test.YtlhicfpmlncomaaGreatDoorF01
import Derived.Test.YtlhicfpmlncomaaGreatDoorF04
import Derived.Lib.AppendStr
import Derived.Test.YtlhicfpmlncomaaGreatDoorF00
set_option linter.unusedSimpArgs false
set_option linter.unusedVariables false
namespace Go.Proofs.YtlhicfpmlncomaaGreatDoor
open Go.RowKit
set_option maxRecDepth 20000 in
set_option maxHeartbeats 12800000 in
theorem value_of (deep : Nat) (val : Option (Nat → Nat → JR (JV × Nat × Nat))) (w : World) (g : Nat) (A : Option Addr) (n c p m B : Nat) (b : List UInt8) (hL : LibsAt B w) (hh : w.heap[g]? = some (.cells (rdrL A n c p m).toArray 127 (0, 0))) (hg : B ≤ g) (hB : B ≤ w.heap.size) (hn : n ≤ 65536) (hnc : n ≤ c) (hp : p ≤ n) (hm : m ≤ 4096) (hr : Rd w (· < B) A 1 n (b.map bv))
  (hl5 : ∀ w', p < n → m < 4096 → LibsAt B w' → w'.heap[g]? = some (.cells (rdrL A n c p (m + 1)).toArray 127 (0, 0)) → B ≤ w'.heap.size → Rd w' (· < B) A 1 n (b.map bv) → Calls Tryz.prog 89 #[.pointer (some ⟨g, 0, none⟩), .int .i64 5, .int .u8 93, .int .i64 (deep : Int)] w' (JEndP w' g (jMany b 5 93 val p (m + 1)) (ToldV w' g A n c)))
  (hl6 : ∀ w', p < n → m < 4096 → LibsAt B w' → w'.heap[g]? = some (.cells (rdrL A n c p (m + 1)).toArray 127 (0, 0)) → B ≤ w'.heap.size → Rd w' (· < B) A 1 n (b.map bv) → Calls Tryz.prog 89 #[.pointer (some ⟨g, 0, none⟩), .int .i64 6, .int .u8 125, .int .i64 (deep : Int)] w' (JEndP w' g (jMany b 6 125 val p (m + 1)) (ToldV w' g A n c))) :
  Calls Tryz.prog 64 #[.pointer (some ⟨g, 0, none⟩), .int .i64 (deep : Int)] w (JEndP w g (jValueW b val p m) (ToldV w g A n c)) := by
 have hl := box hr.bytes_len
 have hF0 := Fr.one hh
 clear hh
 cases hx : b[p]? with
 | none =>
  have hend : Box (jValueW b val p m = .error (n, 9)) := box (by unfold jValueW; rw [hx, hl.out])
  have hnx := box (fun g1 w' (hF : Fr [g] w w' [.blk g1 76 vl0, .blk g 127 (rdrL A n c p m)]) => next_x hx (hF.blk (i := 1) rfl) (hF.rdB hg hB hr))
  rw [hl.out] at hnx
  clear hx hl5 hl6
  go_enter Tryz.func64, Tryz.ntmps64
  go_wp2_with (first | ((with_reducible refine lsx (wp_falloc hF0 (cs := vl0) (z := .agg (List.toArray (vl0))) rfl (by kernel_rfl) (by with_unfolding_all rfl) ?_)); intro w1 g1 hF1 hz1))
  refine (hnx.out _ _ hF1).mono ?_
  rintro e w6 ⟨rfl, hb6⟩
  have hF6 := hF1.call hb6
  dsimp only [flt]
  go_wp2
  exact ⟨rfl, by unfold JEndP; rw [hend.out]; exact ⟨rfl, hF6.grown⟩⟩
 | some x =>
  have hxb := x.toNat_lt
  have hplt := (List.getElem?_eq_some_iff.1 hx).1
  rw [hl.out] at hplt
  have hJ : jValueW b val p m = jValueW b val p m := rfl
  conv at hJ => rhs; unfold jValueW
  rw [hx] at hJ
  simp only [] at hJ
  have hnx := box (fun g1 w' (hF : Fr [g] w w' [.blk g1 76 vl0, .blk g 127 (rdrL A n c p m)]) => next_q hx (hF.blk (i := 1) rfl) (hF.rdB hg hB hr) 0)
  by_cases hm4 : m = 4096
  ·rw [if_pos hm4] at hJ
   have hend := box hJ
   have hfl := box (fun v w => fail_any v p 8 w)
   have hm5 : ((m : Int) == 4096) = true := by rw [hm4]; rfl
   clear hJ hx hl5 hl6 hm4
   replace hm := box hm
   go_enter Tryz.func64, Tryz.ntmps64
   go_wp2_with (first | ((with_reducible refine lsx (wp_falloc hF0 (cs := vl0) (z := .agg (List.toArray (vl0))) rfl (by kernel_rfl) (by with_unfolding_all rfl) ?_)); intro w1 g1 hF1 hz1))
   refine (hnx.out _ _ hF1).mono ?_
   rintro e w2 ⟨rfl, q2, rfl⟩
   have hF2 := hF1.drewN q2
   go_wp2_with (first | (with_reducible refine lsx (wp_fld1 hF2 uq3 rfl (by with_unfolding_all exact ⟨_, rfl, rfl⟩) rfl ?_)))
   refine (hfl.out _ _).mono ?_
   rintro e w3 ⟨rfl, rfl⟩
   dsimp only [flt]
   go_wp2
   exact ⟨rfl, by unfold JEndP; rw [hend.out]; exact ⟨rfl, hF2.grown⟩⟩
  ·rw [if_neg hm4] at hJ
   have hm5 : ((m : Int) == 4096) = false := by rw [beq_eq_false_iff_ne]; omega
   have hmlt : m < 4096 := by omega
   clear hm4
   replace hx := box hx
   by_cases hx110 : x = 110
   ·subst hx110
    rw [if_pos rfl] at hJ
    have hwd := box (fun g1 w' (hF : Fr [g] w w' [.blk g1 76 vl0, .blk g 127 (rdrL A n c p (m + 1))]) => word_any g A n c p (m + 1) B b ⟨#[110, 117, 108, 108]⟩ w' (hF.blk (i := 1) rfl) hg (Nat.le_trans hB hF.size) (by omega) hp (by decide) (hF.rdB hg hB hr))
    rw [show ((⟨#[110, 117, 108, 108]⟩ : ByteArray).data.toList) = [110, 117, 108, 108] from rfl] at hwd
    unfold jLit at hJ
    cases hW : jWord b [110, 117, 108, 108] p with
    | error z =>
     rw [hW] at hJ hwd
     have hend := box hJ
     unfold JPost at hwd
     simp only [] at hwd hend
     clear hJ hW
     go_enter Tryz.func64, Tryz.ntmps64
     go_wp2_with (first | ((with_reducible refine lsx (wp_falloc hF0 (cs := vl0) (z := .agg (List.toArray (vl0))) rfl (by kernel_rfl) (by with_unfolding_all rfl) ?_)); intro w1 g1 hF1 hz1))
     refine (hnx.out _ _ hF1).mono ?_
     rintro e w2 ⟨rfl, q2, rfl⟩
     have hF2 := hF1.drewN q2
     clear hF1 hnx
     go_wp2_with (first | (with_reducible refine lsx (wp_fld1 hF2 uq3 rfl (by with_unfolding_all exact ⟨_, rfl, rfl⟩) rfl ?_)) | ((with_reducible refine lsx (wp_fst1 hF2 (by with_unfolding_all exact ⟨_, _, rfl, rfl, rfl⟩) (by kernel_rfl) rfl rfl (by rw [rdrL_len]; decide) (rdrL_it (q := m + 1) (by omega)) ?_)); intro w3 hF3 hz3))
     clear hF2
     refine (hwd.out _ _ hF3).mono ?_
     rintro e w5 ⟨rfl, hg5⟩
     dsimp only [flt]
     go_wp2
     exact ⟨rfl, by unfold JEndP; rw [hend.out]; exact ⟨rfl, grown_trans hF3.grown hg5⟩⟩
    | ok q =>
     rw [hW] at hJ hwd
     have hend := box hJ
     unfold JPost at hwd
     simp only [] at hwd hend
     clear hJ hW
     go_enter Tryz.func64, Tryz.ntmps64
     go_wp2_with (first | ((with_reducible refine lsx (wp_falloc hF0 (cs := vl0) (z := .agg (List.toArray (vl0))) rfl (by kernel_rfl) (by with_unfolding_all rfl) ?_)); intro w1 g1 hF1 hz1))
     refine (hnx.out _ _ hF1).mono ?_
     rintro e w2 ⟨rfl, q2, rfl⟩
     have hF2 := hF1.drewN q2
     clear hF1 hnx
     go_wp2_with (first | (with_reducible refine lsx (wp_fld1 hF2 uq3 rfl (by with_unfolding_all exact ⟨_, rfl, rfl⟩) rfl ?_)) | ((with_reducible refine lsx (wp_fst1 hF2 (by with_unfolding_all exact ⟨_, _, rfl, rfl, rfl⟩) (by kernel_rfl) rfl rfl (by rw [rdrL_len]; decide) (rdrL_it (q := m + 1) (by omega)) ?_)); intro w3 hF3 hz3))
     clear hF2
     refine (hwd.out _ _ hF3).mono ?_
     rintro e w5 ⟨rfl, h5⟩
     have hF5 := hF3.putF (i := 1) rfl h5
     simp only [zN, zZ] at hF5
     clear hwd h5 hF3
     go_wp2_with (first | (with_reducible refine lsx (wp_fbuild uq76 (z := .agg (List.toArray vl0)) (by kernel_rfl) (pl := vlP) (by kernel_rfl) (cs := (vlL 0 0 ⟨#[]⟩ (.slice none 0 0) (.slice none 0 0))) rfl (vs := []) (by with_unfolding_all rfl) (by with_unfolding_all rfl) ?_)) | ((with_reducible refine lsx (wp_fstA0 hF5 (by with_unfolding_all exact ⟨_, _, rfl, rfl, rfl⟩) (by rw [vlL_len]; kernel_rfl) vlL_one vlL_fit vlL_spl ?_)); intro w6 hF6 hz6))
     exact bodyPost_ret (results_cellF rfl _ hF6 (i := 0) rfl rfl uq76 rfl (by rw [vlL_len]; kernel_rfl)) rfl (by
      unfold JEndP
      rw [hend.out]
      refine ⟨_, _, rfl, VT.leaf, ?_⟩
      exact ((hF6.tail.pushNone 5).pushNone 1).picks [2, 0, 1] rfl (by decide))
   ·rw [if_neg hx110] at hJ
    have n110 : ((x.toNat : Int) == 110) = false := u8_ne hx110
    clear hx110
    by_cases hx102 : x = 102
    ·subst hx102
     rw [if_pos rfl] at hJ
     have hwd := box (fun g1 w' (hF : Fr [g] w w' [.blk g1 76 vl0, .blk g 127 (rdrL A n c p (m + 1))]) => word_any g A n c p (m + 1) B b ⟨#[102, 97, 108, 115, 101]⟩ w' (hF.blk (i := 1) rfl) hg (Nat.le_trans hB hF.size) (by omega) hp (by decide) (hF.rdB hg hB hr))
     rw [show ((⟨#[102, 97, 108, 115, 101]⟩ : ByteArray).data.toList) = [102, 97, 108, 115, 101] from rfl] at hwd
     unfold jLit at hJ
     cases hW : jWord b [102, 97, 108, 115, 101] p with
     | error z =>
      rw [hW] at hJ hwd
      have hend := box hJ
      unfold JPost at hwd
      simp only [] at hwd hend
      clear hJ hW
      go_enter Tryz.func64, Tryz.ntmps64
      go_wp2_with (first | ((with_reducible refine lsx (wp_falloc hF0 (cs := vl0) (z := .agg (List.toArray (vl0))) rfl (by kernel_rfl) (by with_unfolding_all rfl) ?_)); intro w1 g1 hF1 hz1))
      refine (hnx.out _ _ hF1).mono ?_
      rintro e w2 ⟨rfl, q2, rfl⟩
      have hF2 := hF1.drewN q2
      clear hF1 hnx
      go_wp2_with (first | (with_reducible refine lsx (wp_fld1 hF2 uq3 rfl (by with_unfolding_all exact ⟨_, rfl, rfl⟩) rfl ?_)) | ((with_reducible refine lsx (wp_fst1 hF2 (by with_unfolding_all exact ⟨_, _, rfl, rfl, rfl⟩) (by kernel_rfl) rfl rfl (by rw [rdrL_len]; decide) (rdrL_it (q := m + 1) (by omega)) ?_)); intro w3 hF3 hz3))
      clear hF2
      refine (hwd.out _ _ hF3).mono ?_
      rintro e w5 ⟨rfl, hg5⟩
      dsimp only [flt]
      go_wp2
      exact ⟨rfl, by unfold JEndP; rw [hend.out]; exact ⟨rfl, grown_trans hF3.grown hg5⟩⟩
     | ok q =>
      rw [hW] at hJ hwd
      have hend := box hJ
      unfold JPost at hwd
      simp only [] at hwd hend
      clear hJ hW
      go_enter Tryz.func64, Tryz.ntmps64
      go_wp2_with (first | ((with_reducible refine lsx (wp_falloc hF0 (cs := vl0) (z := .agg (List.toArray (vl0))) rfl (by kernel_rfl) (by with_unfolding_all rfl) ?_)); intro w1 g1 hF1 hz1))
      refine (hnx.out _ _ hF1).mono ?_
      rintro e w2 ⟨rfl, q2, rfl⟩
      have hF2 := hF1.drewN q2
      clear hF1 hnx
      go_wp2_with (first | (with_reducible refine lsx (wp_fld1 hF2 uq3 rfl (by with_unfolding_all exact ⟨_, rfl, rfl⟩) rfl ?_)) | ((with_reducible refine lsx (wp_fst1 hF2 (by with_unfolding_all exact ⟨_, _, rfl, rfl, rfl⟩) (by kernel_rfl) rfl rfl (by rw [rdrL_len]; decide) (rdrL_it (q := m + 1) (by omega)) ?_)); intro w3 hF3 hz3))
      clear hF2
      refine (hwd.out _ _ hF3).mono ?_
      rintro e w5 ⟨rfl, h5⟩
      have hF5 := hF3.putF (i := 1) rfl h5
      simp only [zN, zZ] at hF5
      clear hwd h5 hF3
      go_wp2_with (first | (with_reducible refine lsx (wp_fbuild uq76 (z := .agg (List.toArray vl0)) (by kernel_rfl) (pl := vlP) (by kernel_rfl) (cs := (vlL 1 0 ⟨#[]⟩ (.slice none 0 0) (.slice none 0 0))) rfl (vs := [(0, .int .i64 1)]) (by with_unfolding_all rfl) (by with_unfolding_all rfl) ?_)) | ((with_reducible refine lsx (wp_fstA0 hF5 (by with_unfolding_all exact ⟨_, _, rfl, rfl, rfl⟩) (by rw [vlL_len]; kernel_rfl) vlL_one vlL_fit vlL_spl ?_)); intro w6 hF6 hz6))
      exact bodyPost_ret (results_cellF rfl _ hF6 (i := 0) rfl rfl uq76 rfl (by rw [vlL_len]; kernel_rfl)) rfl (by
       unfold JEndP
       rw [hend.out]
       refine ⟨_, _, rfl, VT.leaf, ?_⟩
       exact ((hF6.tail.pushNone 5).pushNone 1).picks [2, 0, 1] rfl (by decide))
    ·rw [if_neg hx102] at hJ
     have n102 : ((x.toNat : Int) == 102) = false := u8_ne hx102
     clear hx102
     by_cases hx116 : x = 116
     ·subst hx116
      rw [if_pos rfl] at hJ
      have hwd := box (fun g1 w' (hF : Fr [g] w w' [.blk g1 76 vl0, .blk g 127 (rdrL A n c p (m + 1))]) => word_any g A n c p (m + 1) B b ⟨#[116, 114, 117, 101]⟩ w' (hF.blk (i := 1) rfl) hg (Nat.le_trans hB hF.size) (by omega) hp (by decide) (hF.rdB hg hB hr))
      rw [show ((⟨#[116, 114, 117, 101]⟩ : ByteArray).data.toList) = [116, 114, 117, 101] from rfl] at hwd
      unfold jLit at hJ
      cases hW : jWord b [116, 114, 117, 101] p with
      | error z =>
       rw [hW] at hJ hwd
       have hend := box hJ
       unfold JPost at hwd
       simp only [] at hwd hend
       clear hJ hW
       go_enter Tryz.func64, Tryz.ntmps64
       go_wp2_with (first | ((with_reducible refine lsx (wp_falloc hF0 (cs := vl0) (z := .agg (List.toArray (vl0))) rfl (by kernel_rfl) (by with_unfolding_all rfl) ?_)); intro w1 g1 hF1 hz1))
       refine (hnx.out _ _ hF1).mono ?_
       rintro e w2 ⟨rfl, q2, rfl⟩
       have hF2 := hF1.drewN q2
       clear hF1 hnx
       go_wp2_with (first | (with_reducible refine lsx (wp_fld1 hF2 uq3 rfl (by with_unfolding_all exact ⟨_, rfl, rfl⟩) rfl ?_)) | ((with_reducible refine lsx (wp_fst1 hF2 (by with_unfolding_all exact ⟨_, _, rfl, rfl, rfl⟩) (by kernel_rfl) rfl rfl (by rw [rdrL_len]; decide) (rdrL_it (q := m + 1) (by omega)) ?_)); intro w3 hF3 hz3))
       clear hF2
       refine (hwd.out _ _ hF3).mono ?_
       rintro e w5 ⟨rfl, hg5⟩
       dsimp only [flt]
       go_wp2
       exact ⟨rfl, by unfold JEndP; rw [hend.out]; exact ⟨rfl, grown_trans hF3.grown hg5⟩⟩
      | ok q =>
       rw [hW] at hJ hwd
       have hend := box hJ
       unfold JPost at hwd
       simp only [] at hwd hend
       clear hJ hW
       go_enter Tryz.func64, Tryz.ntmps64
       go_wp2_with (first | ((with_reducible refine lsx (wp_falloc hF0 (cs := vl0) (z := .agg (List.toArray (vl0))) rfl (by kernel_rfl) (by with_unfolding_all rfl) ?_)); intro w1 g1 hF1 hz1))
       refine (hnx.out _ _ hF1).mono ?_
       rintro e w2 ⟨rfl, q2, rfl⟩
       have hF2 := hF1.drewN q2
       clear hF1 hnx
       go_wp2_with (first | (with_reducible refine lsx (wp_fld1 hF2 uq3 rfl (by with_unfolding_all exact ⟨_, rfl, rfl⟩) rfl ?_)) | ((with_reducible refine lsx (wp_fst1 hF2 (by with_unfolding_all exact ⟨_, _, rfl, rfl, rfl⟩) (by kernel_rfl) rfl rfl (by rw [rdrL_len]; decide) (rdrL_it (q := m + 1) (by omega)) ?_)); intro w3 hF3 hz3))
       clear hF2
       refine (hwd.out _ _ hF3).mono ?_
       rintro e w5 ⟨rfl, h5⟩
       have hF5 := hF3.putF (i := 1) rfl h5
       simp only [zN, zZ] at hF5
       clear hwd h5 hF3
       go_wp2_with (first | (with_reducible refine lsx (wp_fbuild uq76 (z := .agg (List.toArray vl0)) (by kernel_rfl) (pl := vlP) (by kernel_rfl) (cs := (vlL 2 0 ⟨#[]⟩ (.slice none 0 0) (.slice none 0 0))) rfl (vs := [(0, .int .i64 2)]) (by with_unfolding_all rfl) (by with_unfolding_all rfl) ?_)) | ((with_reducible refine lsx (wp_fstA0 hF5 (by with_unfolding_all exact ⟨_, _, rfl, rfl, rfl⟩) (by rw [vlL_len]; kernel_rfl) vlL_one vlL_fit vlL_spl ?_)); intro w6 hF6 hz6))
       exact bodyPost_ret (results_cellF rfl _ hF6 (i := 0) rfl rfl uq76 rfl (by rw [vlL_len]; kernel_rfl)) rfl (by
        unfold JEndP
        rw [hend.out]
        refine ⟨_, _, rfl, VT.leaf, ?_⟩
        exact ((hF6.tail.pushNone 5).pushNone 1).picks [2, 0, 1] rfl (by decide))
     ·rw [if_neg hx116] at hJ
      have n116 : ((x.toNat : Int) == 116) = false := u8_ne hx116
      clear hx116
      by_cases hnm : x = 45 ∨ jDig x = true
      ·rw [if_pos hnm] at hJ
       have hcd : ((x.toNat : Int) == 45) = true ∨ ((x.toNat : Int) == 45) = false ∧ decide ((48 : Int) ≤ (x.toNat : Int)) = true ∧ decide ((x.toNat : Int) ≤ 57) = true := by
        by_cases h45 : x = 45
        ·left; rw [h45]; rfl
        ·right; have := dig_char (hnm.resolve_left h45); exact ⟨u8_ne h45, decide_eq_true (by omega), decide_eq_true (by omega)⟩
       clear hnm 
       rcases hcd with hcd | ⟨hcd, hcd1, hcd2⟩
       ·have hnb := box (fun g1 w' (hF : Fr [g] w w' [.blk g1 76 vl0, .blk g 127 (rdrL A n c p (m + 1))]) => number_any g A n c p (m + 1) B b w' (hL.on (hF.belowG hg hB)) (hF.blk (i := 1) rfl) hg (Nat.le_trans hB hF.size) hn hnc hp (hF.rdB hg hB hr))
        cases hM : jNumber b p with
        | error z =>
         rw [hM] at hJ hnb
         have hend := box hJ
         unfold JEndP at hnb
         simp only [] at hnb hend
         clear hJ hM
         go_enter Tryz.func64, Tryz.ntmps64
         go_wp2_with (first | ((with_reducible refine lsx (wp_falloc hF0 (cs := vl0) (z := .agg (List.toArray (vl0))) rfl (by kernel_rfl) (by with_unfolding_all rfl) ?_)); intro w1 g1 hF1 hz1))
         refine (hnx.out _ _ hF1).mono ?_
         rintro e w2 ⟨rfl, q2, rfl⟩
         have hF2 := hF1.drewN q2
         clear hF1 hnx
         go_wp2_with (first | (with_reducible refine lsx (wp_fld1 hF2 uq3 rfl (by with_unfolding_all exact ⟨_, rfl, rfl⟩) rfl ?_)) | ((with_reducible refine lsx (wp_fst1 hF2 (by with_unfolding_all exact ⟨_, _, rfl, rfl, rfl⟩) (by kernel_rfl) rfl rfl (by rw [rdrL_len]; decide) (rdrL_it (q := m + 1) (by omega)) ?_)); intro w3 hF3 hz3))
         clear hF2
         refine (hnb.out _ _ hF3).mono ?_
         rintro e w5 ⟨rfl, hg5⟩
         dsimp only [flt]
         go_wp2
         exact ⟨rfl, by unfold JEndP; rw [hend.out]; exact ⟨rfl, grown_trans hF3.grown hg5⟩⟩
        | ok y =>
         obtain ⟨v, q⟩ := y
         rw [hM] at hJ hnb
         have hend := box hJ
         unfold JEndP ToldN at hnb
         simp only [] at hnb hend
         clear hJ hM
         go_enter Tryz.func64, Tryz.ntmps64
         go_wp2_with (first | ((with_reducible refine lsx (wp_falloc hF0 (cs := vl0) (z := .agg (List.toArray (vl0))) rfl (by kernel_rfl) (by with_unfolding_all rfl) ?_)); intro w1 g1 hF1 hz1))
         refine (hnx.out _ _ hF1).mono ?_
         rintro e w2 ⟨rfl, q2, rfl⟩
         have hF2 := hF1.drewN q2
         clear hF1 hnx
         go_wp2_with (first | (with_reducible refine lsx (wp_fld1 hF2 uq3 rfl (by with_unfolding_all exact ⟨_, rfl, rfl⟩) rfl ?_)) | ((with_reducible refine lsx (wp_fst1 hF2 (by with_unfolding_all exact ⟨_, _, rfl, rfl, rfl⟩) (by kernel_rfl) rfl rfl (by rw [rdrL_len]; decide) (rdrL_it (q := m + 1) (by omega)) ?_)); intro w3 hF3 hz3))
         clear hF2
         refine (hnb.out _ _ hF3).mono ?_
         rintro e w5 ⟨rfl, h5⟩
         have hF5 := hF3.putF (i := 1) rfl h5
         simp only [zN, zZ] at hF5
         clear hnb h5 hF3
         go_wp2_with (first | ((with_reducible refine lsx (wp_fstA0 hF5 (by with_unfolding_all exact ⟨_, _, rfl, rfl, rfl⟩) (by rw [vlL_len]; kernel_rfl) vlL_one vlL_fit vlL_spl ?_)); intro w6 hF6 hz6))
         exact bodyPost_ret (results_cellF rfl _ hF6 (i := 0) rfl rfl uq76 rfl (by rw [vlL_len]; kernel_rfl)) rfl (by
          unfold JEndP
          rw [hend.out]
          refine ⟨_, _, rfl, VT.leaf, ?_⟩
          exact ((hF6.tail.pushNone 5).pushNone 1).picks [2, 0, 1] rfl (by decide))
       ·have hnb := box (fun g1 w' (hF : Fr [g] w w' [.blk g1 76 vl0, .blk g 127 (rdrL A n c p (m + 1))]) => number_any g A n c p (m + 1) B b w' (hL.on (hF.belowG hg hB)) (hF.blk (i := 1) rfl) hg (Nat.le_trans hB hF.size) hn hnc hp (hF.rdB hg hB hr))
        cases hM : jNumber b p with
        | error z =>
         rw [hM] at hJ hnb
         have hend := box hJ
         unfold JEndP at hnb
         simp only [] at hnb hend
         clear hJ hM
         go_enter Tryz.func64, Tryz.ntmps64
         go_wp2_with (first | ((with_reducible refine lsx (wp_falloc hF0 (cs := vl0) (z := .agg (List.toArray (vl0))) rfl (by kernel_rfl) (by with_unfolding_all rfl) ?_)); intro w1 g1 hF1 hz1))
         refine (hnx.out _ _ hF1).mono ?_
         rintro e w2 ⟨rfl, q2, rfl⟩
         have hF2 := hF1.drewN q2
         clear hF1 hnx
         go_wp2_with (first | (with_reducible refine lsx (wp_fld1 hF2 uq3 rfl (by with_unfolding_all exact ⟨_, rfl, rfl⟩) rfl ?_)) | ((with_reducible refine lsx (wp_fst1 hF2 (by with_unfolding_all exact ⟨_, _, rfl, rfl, rfl⟩) (by kernel_rfl) rfl rfl (by rw [rdrL_len]; decide) (rdrL_it (q := m + 1) (by omega)) ?_)); intro w3 hF3 hz3))
         clear hF2
         refine (hnb.out _ _ hF3).mono ?_
         rintro e w5 ⟨rfl, hg5⟩
         dsimp only [flt]
         go_wp2
         exact ⟨rfl, by unfold JEndP; rw [hend.out]; exact ⟨rfl, grown_trans hF3.grown hg5⟩⟩
        | ok y =>
         obtain ⟨v, q⟩ := y
         rw [hM] at hJ hnb
         have hend := box hJ
         unfold JEndP ToldN at hnb
         simp only [] at hnb hend
         clear hJ hM
         go_enter Tryz.func64, Tryz.ntmps64
         go_wp2_with (first | ((with_reducible refine lsx (wp_falloc hF0 (cs := vl0) (z := .agg (List.toArray (vl0))) rfl (by kernel_rfl) (by with_unfolding_all rfl) ?_)); intro w1 g1 hF1 hz1))
         refine (hnx.out _ _ hF1).mono ?_
         rintro e w2 ⟨rfl, q2, rfl⟩
         have hF2 := hF1.drewN q2
         clear hF1 hnx
         go_wp2_with (first | (with_reducible refine lsx (wp_fld1 hF2 uq3 rfl (by with_unfolding_all exact ⟨_, rfl, rfl⟩) rfl ?_)) | ((with_reducible refine lsx (wp_fst1 hF2 (by with_unfolding_all exact ⟨_, _, rfl, rfl, rfl⟩) (by kernel_rfl) rfl rfl (by rw [rdrL_len]; decide) (rdrL_it (q := m + 1) (by omega)) ?_)); intro w3 hF3 hz3))
         clear hF2
         refine (hnb.out _ _ hF3).mono ?_
         rintro e w5 ⟨rfl, h5⟩
         have hF5 := hF3.putF (i := 1) rfl h5
         simp only [zN, zZ] at hF5
         clear hnb h5 hF3
         go_wp2_with (first | ((with_reducible refine lsx (wp_fstA0 hF5 (by with_unfolding_all exact ⟨_, _, rfl, rfl, rfl⟩) (by rw [vlL_len]; kernel_rfl) vlL_one vlL_fit vlL_spl ?_)); intro w6 hF6 hz6))
         exact bodyPost_ret (results_cellF rfl _ hF6 (i := 0) rfl rfl uq76 rfl (by rw [vlL_len]; kernel_rfl)) rfl (by
          unfold JEndP
          rw [hend.out]
          refine ⟨_, _, rfl, VT.leaf, ?_⟩
          exact ((hF6.tail.pushNone 5).pushNone 1).picks [2, 0, 1] rfl (by decide))
      ·rw [if_neg hnm] at hJ
       have nd : (((x.toNat : Int) == 45) = false) ∧ (decide ((48 : Int) ≤ (x.toNat : Int)) = false ∨ decide ((48 : Int) ≤ (x.toNat : Int)) = true ∧ decide ((x.toNat : Int) ≤ 57) = false) := by
        refine ⟨u8_ne (fun h => hnm (.inl h)), ?_⟩
        by_cases h48 : 48 ≤ x.toNat
        ·right; refine ⟨decide_eq_true (by omega), decide_eq_false (fun h => hnm (.inr ?_))⟩; simp [jDig]; omega
        ·left; exact decide_eq_false (by omega)
       obtain ⟨n45, nd⟩ := nd
       clear hnm
       by_cases hx34 : x = 34
       ·subst hx34
        rw [if_pos rfl] at hJ
        have htx := box (fun g1 w' (hF : Fr [g] w w' [.blk g1 76 vl0, .blk g 127 (rdrL A n c p (m + 1))]) => text_any g A n c p (m + 1) B b w' (hL.on (hF.belowG hg hB)) (hF.blk (i := 1) rfl) hg (Nat.le_trans hB hF.size) hn hnc hp (hF.rdB hg hB hr))
        cases hM : jText b p with
        | error z =>
         rw [hM] at hJ htx
         have hend := box hJ
         unfold JEndP at htx
         simp only [] at htx hend
         clear hJ hM
         go_enter Tryz.func64, Tryz.ntmps64
         go_wp2_with (first | ((with_reducible refine lsx (wp_falloc hF0 (cs := vl0) (z := .agg (List.toArray (vl0))) rfl (by kernel_rfl) (by with_unfolding_all rfl) ?_)); intro w1 g1 hF1 hz1))
         refine (hnx.out _ _ hF1).mono ?_
         rintro e w2 ⟨rfl, q2, rfl⟩
         have hF2 := hF1.drewN q2
         clear hF1 hnx
         go_wp2_with (first | (with_reducible refine lsx (wp_fld1 hF2 uq3 rfl (by with_unfolding_all exact ⟨_, rfl, rfl⟩) rfl ?_)) | ((with_reducible refine lsx (wp_fst1 hF2 (by with_unfolding_all exact ⟨_, _, rfl, rfl, rfl⟩) (by kernel_rfl) rfl rfl (by rw [rdrL_len]; decide) (rdrL_it (q := m + 1) (by omega)) ?_)); intro w3 hF3 hz3))
         clear hF2
         refine (htx.out _ _ hF3).mono ?_
         rintro e w5 ⟨rfl, hg5⟩
         dsimp only [flt]
         go_wp2
         exact ⟨rfl, by unfold JEndP; rw [hend.out]; exact ⟨rfl, grown_trans hF3.grown hg5⟩⟩
        | ok y =>
         obtain ⟨s, q⟩ := y
         rw [hM] at hJ htx
         have hend := box hJ
         unfold JEndP ToldS at htx
         simp only [] at htx hend
         clear hJ hM
         go_enter Tryz.func64, Tryz.ntmps64
         go_wp2_with (first | ((with_reducible refine lsx (wp_falloc hF0 (cs := vl0) (z := .agg (List.toArray (vl0))) rfl (by kernel_rfl) (by with_unfolding_all rfl) ?_)); intro w1 g1 hF1 hz1))
         refine (hnx.out _ _ hF1).mono ?_
         rintro e w2 ⟨rfl, q2, rfl⟩
         have hF2 := hF1.drewN q2
         clear hF1 hnx
         go_wp2_with (first | (with_reducible refine lsx (wp_fld1 hF2 uq3 rfl (by with_unfolding_all exact ⟨_, rfl, rfl⟩) rfl ?_)) | ((with_reducible refine lsx (wp_fst1 hF2 (by with_unfolding_all exact ⟨_, _, rfl, rfl, rfl⟩) (by kernel_rfl) rfl rfl (by rw [rdrL_len]; decide) (rdrL_it (q := m + 1) (by omega)) ?_)); intro w3 hF3 hz3))
         clear hF2
         refine (htx.out _ _ hF3).mono ?_
         rintro e w5 ⟨rfl, h5⟩
         have hF5 := hF3.putF (i := 1) rfl h5
         simp only [zN, zZ] at hF5
         clear htx h5 hF3
         go_wp2_with (first | (with_reducible refine lsx (wp_fbuild uq76 (z := .agg (List.toArray vl0)) (by kernel_rfl) (pl := vlP) (by kernel_rfl) (cs := (vlL 4 0 ⟨s.toArray⟩ (.slice none 0 0) (.slice none 0 0))) rfl (vs := [(0, .int .i64 4), (2, .string ⟨s.toArray⟩)]) (by with_unfolding_all rfl) (by with_unfolding_all rfl) ?_)) | ((with_reducible refine lsx (wp_fstA0 hF5 (by with_unfolding_all exact ⟨_, _, rfl, rfl, rfl⟩) (by rw [vlL_len]; kernel_rfl) vlL_one vlL_fit vlL_spl ?_)); intro w6 hF6 hz6))
         exact bodyPost_ret (results_cellF rfl _ hF6 (i := 0) rfl rfl uq76 rfl (by rw [vlL_len]; kernel_rfl)) rfl (by
          unfold JEndP
          rw [hend.out]
          refine ⟨_, _, rfl, VT.leaf, ?_⟩
          exact ((hF6.tail.pushNone 5).pushNone 1).picks [2, 0, 1] rfl (by decide))
       ·rw [if_neg hx34] at hJ
        have n34 : ((x.toNat : Int) == 34) = false := u8_ne hx34
        clear hx34
        by_cases hx91 : x = 91
        ·subst hx91
         rw [if_pos rfl] at hJ
         have hmn := box (fun g1 w' (hF : Fr [g] w w' [.blk g1 76 vl0, .blk g 127 (rdrL A n c p (m + 1))]) => hl5 _ hplt hmlt (hL.on (hF.belowG hg hB)) (hF.blk (i := 1) rfl) (Nat.le_trans hB hF.size) (hF.rdB hg hB hr))
         cases hM : jMany b 5 93 val p (m + 1) with
         | error z =>
          rw [hM] at hJ hmn
          have hend := box hJ
          unfold JEndP at hmn
          simp only [] at hmn hend
          clear hJ hM hl5 hl6
          go_enter Tryz.func64, Tryz.ntmps64
          go_wp2_with (first | ((with_reducible refine lsx (wp_falloc hF0 (cs := vl0) (z := .agg (List.toArray (vl0))) rfl (by kernel_rfl) (by with_unfolding_all rfl) ?_)); intro w1 g1 hF1 hz1))
          refine (hnx.out _ _ hF1).mono ?_
          rintro e w2 ⟨rfl, q2, rfl⟩
          have hF2 := hF1.drewN q2
          clear hF1 hnx
          go_wp2_with (first | (with_reducible refine lsx (wp_fld1 hF2 uq3 rfl (by with_unfolding_all exact ⟨_, rfl, rfl⟩) rfl ?_)) | ((with_reducible refine lsx (wp_fst1 hF2 (by with_unfolding_all exact ⟨_, _, rfl, rfl, rfl⟩) (by kernel_rfl) rfl rfl (by rw [rdrL_len]; decide) (rdrL_it (q := m + 1) (by omega)) ?_)); intro w3 hF3 hz3))
          clear hF2
          refine (hmn.out _ _ hF3).mono ?_
          rintro e w5 ⟨rfl, hg5⟩
          dsimp only [flt]
          go_wp2
          exact ⟨rfl, by unfold JEndP; rw [hend.out]; exact ⟨rfl, grown_trans hF3.grown hg5⟩⟩
         | ok y =>
          obtain ⟨v, q, m'⟩ := y
          rw [hM] at hJ hmn
          have hend := box hJ
          unfold JEndP ToldV at hmn
          simp only [] at hmn hend
          clear hJ hM hl5 hl6
          go_enter Tryz.func64, Tryz.ntmps64
          go_wp2_with (first | ((with_reducible refine lsx (wp_falloc hF0 (cs := vl0) (z := .agg (List.toArray (vl0))) rfl (by kernel_rfl) (by with_unfolding_all rfl) ?_)); intro w1 g1 hF1 hz1))
          refine (hnx.out _ _ hF1).mono ?_
          rintro e w2 ⟨rfl, q2, rfl⟩
          have hF2 := hF1.drewN q2
          clear hF1 hnx
          go_wp2_with (first | (with_reducible refine lsx (wp_fld1 hF2 uq3 rfl (by with_unfolding_all exact ⟨_, rfl, rfl⟩) rfl ?_)) | ((with_reducible refine lsx (wp_fst1 hF2 (by with_unfolding_all exact ⟨_, _, rfl, rfl, rfl⟩) (by kernel_rfl) rfl rfl (by rw [rdrL_len]; decide) (rdrL_it (q := m + 1) (by omega)) ?_)); intro w3 hF3 hz3))
          clear hF2
          refine (hmn.out _ _ hF3).mono ?_
          rintro e w5 ⟨cs, es, rfl, hvt, h5⟩
          have hF5 := hF3.putG (i := 1) rfl h5
          simp only [List.set_cons_succ, List.set_cons_zero, List.cons_append, List.nil_append] at hF5
          clear hmn h5 hF3
          have hvl := box hvt.len
          have hvo := hvt.one
          replace hvt := box hvt
          replace hvo := box hvo
          go_wp2_with (first | ((with_reducible refine lsx (wp_fstA0 hF5 (by with_unfolding_all exact ⟨_, _, rfl, rfl, rfl⟩) (by rw [hvl.out]; kernel_rfl) hvo.out (by rw [hvl.out, vlL_len]; decide) (spl_all (by rw [hvl.out, vlL_len])) ?_)); intro w6 hF6 hz6))
          exact bodyPost_ret (results_cellF rfl _ hF6 (i := 0) rfl rfl uq76 rfl (by rw [hvl.out]; kernel_rfl)) rfl (by
           unfold JEndP
           rw [hend.out]
           exact ⟨_, _, rfl, hvt.out, hF6.tail⟩)
        ·rw [if_neg hx91] at hJ
         have n91 : ((x.toNat : Int) == 91) = false := u8_ne hx91
         clear hx91
         by_cases hx123 : x = 123
         ·subst hx123
          rw [if_pos rfl] at hJ
          have hmn := box (fun g1 w' (hF : Fr [g] w w' [.blk g1 76 vl0, .blk g 127 (rdrL A n c p (m + 1))]) => hl6 _ hplt hmlt (hL.on (hF.belowG hg hB)) (hF.blk (i := 1) rfl) (Nat.le_trans hB hF.size) (hF.rdB hg hB hr))
          cases hM : jMany b 6 125 val p (m + 1) with
          | error z =>
           rw [hM] at hJ hmn
           have hend := box hJ
           unfold JEndP at hmn
           simp only [] at hmn hend
           clear hJ hM hl5 hl6
           go_enter Tryz.func64, Tryz.ntmps64
           go_wp2_with (first | ((with_reducible refine lsx (wp_falloc hF0 (cs := vl0) (z := .agg (List.toArray (vl0))) rfl (by kernel_rfl) (by with_unfolding_all rfl) ?_)); intro w1 g1 hF1 hz1))
           refine (hnx.out _ _ hF1).mono ?_
           rintro e w2 ⟨rfl, q2, rfl⟩
           have hF2 := hF1.drewN q2
           clear hF1 hnx
           go_wp2_with (first | (with_reducible refine lsx (wp_fld1 hF2 uq3 rfl (by with_unfolding_all exact ⟨_, rfl, rfl⟩) rfl ?_)) | ((with_reducible refine lsx (wp_fst1 hF2 (by with_unfolding_all exact ⟨_, _, rfl, rfl, rfl⟩) (by kernel_rfl) rfl rfl (by rw [rdrL_len]; decide) (rdrL_it (q := m + 1) (by omega)) ?_)); intro w3 hF3 hz3))
           clear hF2
           refine (hmn.out _ _ hF3).mono ?_
           rintro e w5 ⟨rfl, hg5⟩
           dsimp only [flt]
           go_wp2
           exact ⟨rfl, by unfold JEndP; rw [hend.out]; exact ⟨rfl, grown_trans hF3.grown hg5⟩⟩
          | ok y =>
           obtain ⟨v, q, m'⟩ := y
           rw [hM] at hJ hmn
           have hend := box hJ
           unfold JEndP ToldV at hmn
           simp only [] at hmn hend
           clear hJ hM hl5 hl6
           go_enter Tryz.func64, Tryz.ntmps64
           go_wp2_with (first | ((with_reducible refine lsx (wp_falloc hF0 (cs := vl0) (z := .agg (List.toArray (vl0))) rfl (by kernel_rfl) (by with_unfolding_all rfl) ?_)); intro w1 g1 hF1 hz1))
           refine (hnx.out _ _ hF1).mono ?_
           rintro e w2 ⟨rfl, q2, rfl⟩
           have hF2 := hF1.drewN q2
           clear hF1 hnx
           go_wp2_with (first | (with_reducible refine lsx (wp_fld1 hF2 uq3 rfl (by with_unfolding_all exact ⟨_, rfl, rfl⟩) rfl ?_)) | ((with_reducible refine lsx (wp_fst1 hF2 (by with_unfolding_all exact ⟨_, _, rfl, rfl, rfl⟩) (by kernel_rfl) rfl rfl (by rw [rdrL_len]; decide) (rdrL_it (q := m + 1) (by omega)) ?_)); intro w3 hF3 hz3))
           clear hF2
           refine (hmn.out _ _ hF3).mono ?_
           rintro e w5 ⟨cs, es, rfl, hvt, h5⟩
           have hF5 := hF3.putG (i := 1) rfl h5
           simp only [List.set_cons_succ, List.set_cons_zero, List.cons_append, List.nil_append] at hF5
           clear hmn h5 hF3
           have hvl := box hvt.len
           have hvo := hvt.one
           replace hvt := box hvt
           replace hvo := box hvo
           go_wp2_with (first | ((with_reducible refine lsx (wp_fstA0 hF5 (by with_unfolding_all exact ⟨_, _, rfl, rfl, rfl⟩) (by rw [hvl.out]; kernel_rfl) hvo.out (by rw [hvl.out, vlL_len]; decide) (spl_all (by rw [hvl.out, vlL_len])) ?_)); intro w6 hF6 hz6))
           exact bodyPost_ret (results_cellF rfl _ hF6 (i := 0) rfl rfl uq76 rfl (by rw [hvl.out]; kernel_rfl)) rfl (by
            unfold JEndP
            rw [hend.out]
            exact ⟨_, _, rfl, hvt.out, hF6.tail⟩)
         ·rw [if_neg hx123] at hJ
          have n123 : ((x.toNat : Int) == 123) = false := u8_ne hx123
          clear hx123
          have hend := box hJ
          have hfl := box (fun v w => fail_any v p 10 w)
          clear hJ hl5 hl6
          rcases nd with nd | ⟨nd, nd2⟩
          ·go_enter Tryz.func64, Tryz.ntmps64
           go_wp2_with (first | ((with_reducible refine lsx (wp_falloc hF0 (cs := vl0) (z := .agg (List.toArray (vl0))) rfl (by kernel_rfl) (by with_unfolding_all rfl) ?_)); intro w1 g1 hF1 hz1))
           refine (hnx.out _ _ hF1).mono ?_
           rintro e w2 ⟨rfl, q2, rfl⟩
           have hF2 := hF1.drewN q2
           clear hF1 hnx
           go_wp2_with (first | (with_reducible refine lsx (wp_fld1 hF3 uq3 rfl (by with_unfolding_all exact ⟨_, rfl, rfl⟩) rfl ?_)) | (with_reducible refine lsx (wp_fld1 hF2 uq3 rfl (by with_unfolding_all exact ⟨_, rfl, rfl⟩) rfl ?_)) | ((with_reducible refine lsx (wp_fst1 hF2 (by with_unfolding_all exact ⟨_, _, rfl, rfl, rfl⟩) (by kernel_rfl) rfl rfl (by rw [rdrL_len]; decide) (rdrL_it (q := m + 1) (by omega)) ?_)); intro w3 hF3 hz3))
           clear hF2
           refine (hfl.out _ _).mono ?_
           rintro e w4 ⟨rfl, rfl⟩
           dsimp only [flt]
           go_wp2
           exact ⟨rfl, by unfold JEndP; rw [hend.out]; exact ⟨rfl, hF3.grown⟩⟩
          ·go_enter Tryz.func64, Tryz.ntmps64
           go_wp2_with (first | ((with_reducible refine lsx (wp_falloc hF0 (cs := vl0) (z := .agg (List.toArray (vl0))) rfl (by kernel_rfl) (by with_unfolding_all rfl) ?_)); intro w1 g1 hF1 hz1))
           refine (hnx.out _ _ hF1).mono ?_
           rintro e w2 ⟨rfl, q2, rfl⟩
           have hF2 := hF1.drewN q2
           clear hF1 hnx
           go_wp2_with (first | (with_reducible refine lsx (wp_fld1 hF3 uq3 rfl (by with_unfolding_all exact ⟨_, rfl, rfl⟩) rfl ?_)) | (with_reducible refine lsx (wp_fld1 hF2 uq3 rfl (by with_unfolding_all exact ⟨_, rfl, rfl⟩) rfl ?_)) | ((with_reducible refine lsx (wp_fst1 hF2 (by with_unfolding_all exact ⟨_, _, rfl, rfl, rfl⟩) (by kernel_rfl) rfl rfl (by rw [rdrL_len]; decide) (rdrL_it (q := m + 1) (by omega)) ?_)); intro w3 hF3 hz3))
           clear hF2
           refine (hfl.out _ _).mono ?_
           rintro e w4 ⟨rfl, rfl⟩
           dsimp only [flt]
           go_wp2
           exact ⟨rfl, by unfold JEndP; rw [hend.out]; exact ⟨rfl, hF3.grown⟩⟩
theorem value_any : ∀ (d deep : Nat), deep + d = 16 → ValueOk d deep
 | 0, deep, hd => fun w g A n c p m B b hL hh hg hB hn hnc hp hm hr => by
  obtain rfl : deep = 16 := by omega
  exact value_of 16 none w g A n c p m B b hL hh hg hB hn hnc hp hm hr (fun w' _ _ _ hh' _ _ => many_deep g A n c p (m + 1) b 5 93 w' hh') (fun w' _ _ _ hh' _ _ => many_deep g A n c p (m + 1) b 6 125 w' hh')
 | d + 1, deep, hd => fun w g A n c p m B b hL hh hg hB hn hnc hp hm hr =>
  value_of deep (some (jValue b d)) w g A n c p m B b hL hh hg hB hn hnc hp hm hr
   (fun w' h1 h2 h3 hh' h4 h5 => many_5 d deep (value_any d (deep + 1) (by omega)) (by omega) g A n c p (m + 1) B b w' h3 hh' hg h4 hn hnc h1 (by omega) h5)
   (fun w' h1 h2 h3 hh' h4 h5 => many_6 d deep (value_any d (deep + 1) (by omega)) (by omega) g A n c p (m + 1) B b w' h3 hh' hg h4 hn hnc h1 (by omega) h5)
end Go.Proofs.YtlhicfpmlncomaaGreatDoor

namespace Go.Proofs.YtlhicfpmlncomaaGreatDoor
open Go.RowKit
section
variable {P : Program} {X : List Nat} {w0 w : World} {es : List Ent}
theorem run_loadF1 (hF : Fr X w0 w es) {i g : Nat} {t : TypeId} {u : Value} (hi : es[i]? = some (.blk g t [u])) {ty : TypeId} {d : TypeDesc} (hu : P.underlying ty = some d) (hd : aggT d = false) :
  (loadVar ty ⟨g, 0, none⟩).run P w = .ok u w := by
 have hcell : w.cell? ⟨g, 0, none⟩ = some u := by rw [cell_of_row w g 0 _ t (0, 0) (hF.blk hi)]; rfl
 have hagg := run_isAgg hu w
 rw [hd] at hagg
 simp [loadVar, hagg, hcell]
theorem results_cells3 {fn : Func} {p q r : Tmp} {t1 t2 t3 : TypeId} (h : fn.results = #[.cell p t1, .cell q t2, .cell r t3]) (tmps : Array Value) (hF : Fr X w0 w es) {i j k g1 g2 g3 : Nat} {s1 s2 s3 : TypeId} {cs : List Value} {u v : Value}
  (hi : es[i]? = some (.blk g1 s1 cs)) (hj : es[j]? = some (.blk g2 s2 [u])) (hk : es[k]? = some (.blk g3 s3 [v])) (hp : tmps.getD p undef = .pointer (some ⟨g1, 0, none⟩)) (hq : tmps.getD q undef = .pointer (some ⟨g2, 0, none⟩)) (hr : tmps.getD r undef = .pointer (some ⟨g3, 0, none⟩))
  {d1 d2 d3 : TypeDesc} (hu1 : P.underlying t1 = some d1) (hd1 : aggT d1 = true) (hs : (P.info? t1).map (·.size) = some cs.length) (hu2 : P.underlying t2 = some d2) (hd2 : aggT d2 = false) (hu3 : P.underlying t3 = some d3) (hd3 : aggT d3 = false) :
  (results fn tmps).run P w = .ok (.tuple #[.agg cs.toArray, u, v]) w := by
 have hp' : tmps[p]?.getD undef = .pointer (some ⟨g1, 0, none⟩) := by simpa using hp
 have hq' : tmps[q]?.getD undef = .pointer (some ⟨g2, 0, none⟩) := by simpa using hq
 have hr' : tmps[r]?.getD undef = .pointer (some ⟨g3, 0, none⟩) := by simpa using hr
 simp [results, h, hp', hq', hr', asAddr, run_loadF hF hi hu1 hd1 hs, run_loadF1 hF hj hu2 hd2, run_loadF1 hF hk hu3 hd3]
end
abbrev ft0 : List Value := [.int .i64 0, .int .i64 0]
theorem ft_one (a b : Int) : ∀ u ∈ [Value.int .i64 a, Value.int .i64 b], u.oneCell' = true := by
 intro u hu
 simp only [List.mem_cons, List.not_mem_nil, or_false] at hu
 rcases hu with rfl | rfl <;> rfl
theorem spl1 (u v : Value) : spl [u] 0 [v] = [v] := rfl
theorem ft_fit (a b : Int) : 0 + [Value.int .i64 a, Value.int .i64 b].length ≤ ft0.length := Nat.le_refl 2
theorem ft_spl (a b : Int) : spl ft0 0 [Value.int .i64 a, Value.int .i64 b] = [Value.int .i64 a, Value.int .i64 b] := rfl
theorem catch_idle (a b c : Value) (w : World) :
  CallsD Tryz.prog 62 #[a, b, c] .returning w fun e u' w' => e = .returned (.tuple #[]) ∧ u' = .returning ∧ w' = w := by
 refine callsD_of_wpS Tryz.func62 rfl fun c₀ cs hu => ?_
 apply wpS_seq
 apply wpS_region
 simp [wpOpsS, go_sem, recoverD, hu, Tryz.ntmps62, Exit.thenS]
 refine wpS_of_wp ?_
 simp only [Array.replicate, List.replicate, List.setIfInBounds_toArray, List.set_cons_zero, List.set_cons_succ, List.append_toArray, List.cons_append, List.nil_append]
 go_wp2
 cases c₀
 simp_all [bodyPostS, results, Tryz.results62]
set_option maxRecDepth 20000 in
set_option maxHeartbeats 3200000 in
theorem catch_flt (g1 g2 g3 : Nat) (x : Nat × Nat) (X : List Nat) (w0 w : World) (cs1 : List Value) (u v : Value) (rest : List Ent) (hl : cs1.length = 5)
  (hF : Fr X w0 w (.blk g1 76 cs1 :: .blk g2 3 [u] :: .blk g3 32 [v] :: rest)) :
  CallsD Tryz.prog 62 #[.pointer (some ⟨g1, 0, none⟩), .pointer (some ⟨g2, 0, none⟩), .pointer (some ⟨g3, 0, none⟩)] (.panicking [{ v := .iface 123 (.agg #[.int .i64 (x.1 : Int), .int .i64 (x.2 : Int)]), recovered := false }]) w fun e u' w' =>
   e = .returned (.tuple #[]) ∧ u' = .panicking [{ v := .iface 123 (.agg #[.int .i64 (x.1 : Int), .int .i64 (x.2 : Int)]), recovered := true }] ∧ Fr X w0 w' (.blk g1 76 vl0 :: .blk g2 3 [.int .i64 (x.1 : Int)] :: .blk g3 32 [.int .i64 (x.2 : Int)] :: rest) := by
 refine callsD_of_wpS Tryz.func62 rfl fun c₀ cs hu => ?_
 apply wpS_seq
 apply wpS_region
 simp [wpOpsS, go_sem, recoverD, hu, Tryz.ntmps62, Exit.thenS]
 have hta : ∀ (v : Value) (w : World), (Instr.typeAssert (.iface 123 v) 20 123 true).run Tryz.prog w = .ok (.tuple #[v, .bool true]) w := fun _ _ => rfl
 refine wpS_of_wp ?_
 simp only [Array.replicate, List.replicate, List.setIfInBounds_toArray, List.set_cons_zero, List.set_cons_succ, List.append_toArray, List.cons_append, List.nil_append]
 go_wp2_with (first | ((with_reducible refine lsx (wp_falloc hF (cs := ft0) (z := .agg (List.toArray (ft0))) rfl (by kernel_rfl) (by with_unfolding_all rfl) ?_)); intro w5 g5 hF5 hz5) | ((with_reducible refine lsx (wp_fstA0 hF5 (by with_unfolding_all exact ⟨_, _, rfl, rfl, rfl⟩) (by kernel_rfl) (ft_one _ _) (ft_fit _ _) (ft_spl _ _) ?_)); intro w6 hF6 hz6))
 have hsp : spl cs1 0 vl0 = vl0 := spl_all (by rw [hl]; rfl)
 have hFd := hF6.drew
 refine wp_region_held (S := fun w' => w'.heap[g5]? = some (.cells (List.toArray [.int .i64 (x.1 : Int), .int .i64 (x.2 : Int)]) 123 (0, 0))) (by kernel_rfl) ?_
 change wpAnyH _ _ _ _ _ _ _ _ (World.drew _)
 refine tkp 0 (hFd.blk (i := 0) rfl) ?_
 (try simp only [zP, zQ, zS, zZ, zN])
 refine tkp 1 (hFd.blk (i := 0) rfl) ?_
 (try simp only [zP, zQ, zS, zZ, zN])
 refine tky 2 (y := yi_fld (by with_unfolding_all rfl) (fun _ h => h) uq3 rfl (by with_unfolding_all exact ⟨_, rfl, rfl⟩) rfl) (s := (hFd.blk (i := 0) rfl)) (h := ?_)
 (try simp only [zP, zQ, zS, zZ, zN])
 refine tkp 3 (hFd.blk (i := 0) rfl) ?_
 (try simp only [zP, zQ, zS, zZ, zN])
 refine tky 4 (y := yi_fld (by with_unfolding_all rfl) (fun _ h => h) uq32 rfl (by with_unfolding_all exact ⟨_, rfl, rfl⟩) rfl) (s := (hFd.blk (i := 0) rfl)) (h := ?_)
 (try simp only [zP, zQ, zS, zZ, zN])
 refine rdy1 5 (fun K hK => ?_)
 refine stp (by with_unfolding_all rfl) (wp_fstA hFd (i := 1) rfl (ds := vl0) (by with_unfolding_all exact ⟨_, _, rfl, rfl, rfl⟩) (by kernel_rfl) vlL_one (by rw [vlL_len, hl]; decide) ?_)
 intro w11 hF11 hz11
 (try simp only [zZ, zN] at hF11)
 rw [hsp] at hF11
 refine hK.out _ _ ((hF11.blk (i := 0) rfl)) (fun _ => ?_)
 clear hK K
 (try simp only [zP, zQ, zS, zZ, zN])
 refine rdy1 6 (fun K hK => ?_)
 refine stp (by with_unfolding_all rfl) (wp_fst hF11 (i := 2) rfl (v := .int .i64 (x.1 : Int)) (by with_unfolding_all exact ⟨_, _, rfl, rfl, rfl⟩) (by kernel_rfl) rfl rfl (by simp) ?_)
 intro w12 hF12 hz12
 (try simp only [zZ, zN] at hF12)
 rw [spl1] at hF12
 refine hK.out _ _ ((hF12.blk (i := 0) rfl)) (fun _ => ?_)
 clear hK K
 (try simp only [zP, zQ, zS, zZ, zN])
 refine rdy1 7 (fun K hK => ?_)
 refine stp (by with_unfolding_all rfl) (wp_fst hF12 (i := 3) rfl (v := .int .i64 (x.2 : Int)) (by with_unfolding_all exact ⟨_, _, rfl, rfl, rfl⟩) (by kernel_rfl) rfl rfl (by simp) ?_)
 intro w13 hF13 hz13
 (try simp only [zZ, zN] at hF13)
 rw [spl1] at hF13
 refine hK.out _ _ ((hF13.blk (i := 0) rfl)) (fun _ => ?_)
 clear hK K
 (try simp only [zP, zQ, zS, zZ, zN])
 refine wpAnyH_done (by kernel_rfl) ?_ _
 go_wp2_with fail
 exact ⟨rfl, _, rfl, _, by simp [results, Tryz.results62], rfl, rfl, hF13.tail⟩
theorem Fr.lost {X : List Nat} {w0 w w' : World} {es : List Ent} {g : Nat} {t : TypeId} {cs : List Value} (hF : Fr X w0 w (.blk g t cs :: es)) (hg : w.grownBy w' (some g)) : Fr X w0 w' es :=
 hF.tail.step hg (fun i e he => by
  rcases hF.apart (i + 1) 0 e _ he rfl (by omega) with h | h
  ·exact .inl h
  ·exact .inr h) (fun k hk => by injection hk with hk; subst hk; exact hF.fresh 0 _ rfl _ rfl)
def ParseEnd (w : World) (r : JR JV) (e : Ending) (w' : World) : Prop :=
 match r with
 | .ok v => ∃ cs es, e = .returned (.tuple #[.agg cs.toArray, .int .i64 0, .int .i64 0]) ∧ VT v cs es ∧ Fr [] w w' es
 | .error x => e = .returned (.tuple #[.agg vl0.toArray, .int .i64 (x.1 : Int), .int .i64 (x.2 : Int)]) ∧ Below w.heap.size w w'
def rdrP : List (Nat × Nat) := [(0, 1), (1, 1), (2, 1)]
abbrev rdr0 : List Value := [.slice none 0 0, .int .i64 0, .int .i64 0]
set_option maxRecDepth 20000 in
set_option maxHeartbeats 6400000 in
theorem parse_any (A : Option Addr) (n c : Nat) (b : List UInt8) (w : World) (hL : LibsAt w.heap.size w) (hnc : n ≤ c) (hn47 : n ≤ 140737488355328) (hr : Rd w (· < w.heap.size) A 1 n (b.map bv)) :
  Calls Tryz.prog 30 #[.slice A n c] w (ParseEnd w (jParse b)) := by
 have hl := box hr.bytes_len
 have hmf : ∀ (fn : Fn) (first cap : Array Value) (w : World), (Instr.makeFunc fn first cap).run Tryz.prog w = .ok (.func fn first cap) w := fun _ _ _ _ => rfl
 have hF0 := Fr.nil w
 by_cases hbig : 65536 < n
 ·have hend : Box (jParse b = .error (0, 8)) := box (by unfold jParse; rw [if_pos (by rw [hl.out]; exact hbig)])
  have d1 : decide ((65536 : Int) < (n : Int)) = true := decide_eq_true (by omega)
  replace hn47 := box hn47
  replace hbig := box hbig
  go_enter_defers Tryz.func30, Tryz.ntmps30
  go_wp2_with (first | ((with_reducible refine lsx (wp_falloc hF0 (cs := vl0) (z := .agg (List.toArray (vl0))) rfl (by kernel_rfl) (by with_unfolding_all rfl) ?_)); intro w1 g1 hF1 hz1) | ((with_reducible refine lsx (wp_falloc hF1 (cs := [(.int .i64 0)]) (z := (.int .i64 0)) rfl (by kernel_rfl) (by with_unfolding_all rfl) ?_)); intro w2 g2 hF2 hz2) | ((with_reducible refine lsx (wp_falloc hF2 (cs := [(.int .i64 0)]) (z := (.int .i64 0)) rfl (by kernel_rfl) (by with_unfolding_all rfl) ?_)); intro w3 g3 hF3 hz3) | (with_reducible refine lsx (wp_fbuild uq76 (z := .agg (List.toArray vl0)) (by kernel_rfl) (pl := vlP) (by kernel_rfl) (cs := vl0) rfl (vs := []) (by with_unfolding_all rfl) (by with_unfolding_all rfl) ?_)) | ((with_reducible refine lsx (wp_fstA2 hF3 (by with_unfolding_all exact ⟨_, _, rfl, rfl, rfl⟩) (by rw [vlL_len]; kernel_rfl) vlL_one vlL_fit vlL_spl ?_)); intro w4 hF4 hz4) | ((with_reducible refine lsx (wp_fst1 hF4 (by with_unfolding_all exact ⟨_, _, rfl, rfl, rfl⟩) (by kernel_rfl) rfl rfl (by first | decide | (simp; done) | (simp; omega)) (spl1 _ (.int .i64 0)) ?_)); intro w5 hF5 hz5) | ((with_reducible refine lsx (wp_fst0 hF5 (by with_unfolding_all exact ⟨_, _, rfl, rfl, rfl⟩) (by kernel_rfl) rfl rfl (by first | decide | (simp; done) | (simp; omega)) (spl1 _ (.int .i64 8)) ?_)); intro w6 hF6 hz6))
  exact ⟨_, results_cells3 rfl _ hF6 (i := 2) (j := 1) (k := 0) rfl rfl rfl rfl rfl rfl uq76 rfl (by rw [vlL_len]; kernel_rfl) uq3 rfl uq32 rfl, by
   unfold ParseEnd
   rw [hend.out]
   exact ⟨rfl, hF6.below⟩⟩
 ·have d1 : decide ((65536 : Int) < (n : Int)) = false := decide_eq_false (by omega)
  have hJ : jParse b = match jValue b 16 (jBlanks b 0) 0 with
   | .error x => .error x
   | .ok (v, p, _) => if jBlanks b p < b.length then .error (jBlanks b p, 10) else .ok v := by unfold jParse; rw [if_neg (by rw [hl.out]; exact hbig)]; rfl
  replace hJ := box hJ
  have hn : n ≤ 65536 := by omega
  clear hn47 hbig
  have hb0 : jBlanks b 0 ≤ n := by have := jBlanks_le b (p := 0) (Nat.zero_le _); rw [hl.out] at this; exact this
  go_enter_defers Tryz.func30, Tryz.ntmps30
  go_wp2_with (first | ((with_reducible refine lsx (wp_falloc hF0 (cs := vl0) (z := .agg (List.toArray (vl0))) rfl (by kernel_rfl) (by with_unfolding_all rfl) ?_)); intro w1 g1 hF1 hz1) | ((with_reducible refine lsx (wp_falloc hF1 (cs := [(.int .i64 0)]) (z := (.int .i64 0)) rfl (by kernel_rfl) (by with_unfolding_all rfl) ?_)); intro w2 g2 hF2 hz2) | ((with_reducible refine lsx (wp_falloc hF2 (cs := [(.int .i64 0)]) (z := (.int .i64 0)) rfl (by kernel_rfl) (by with_unfolding_all rfl) ?_)); intro w3 g3 hF3 hz3) | (with_reducible refine lsx (wp_fbuild uq127 (z := .agg (List.toArray rdr0)) (by kernel_rfl) (pl := rdrP) (by kernel_rfl) (cs := (rdrL A n c 0 0)) rfl (vs := [(0, .slice A n c)]) (by with_unfolding_all rfl) (by with_unfolding_all rfl) ?_)) | ((with_reducible refine lsx (wp_fbox hF3 (cs := (rdrL A n c 0 0)) rfl (by with_unfolding_all rfl) (by with_unfolding_all rfl) ?_)); intro w4 g4 hF4 hz4))
  clear hF0 hF1 hF2 hF3
  have hg4 : w.heap.size ≤ g4 := by
   rcases hF4.fresh 0 _ rfl _ rfl with h | h
   ·exact h
   ·simp at h
  have hbl := box (blanks_any g4 A n c 0 0 w.heap.size b w4 (hF4.blk (i := 0) rfl) hg4 hF4.size (by omega) (Nat.zero_le _) (hr.below hF4.below))
  refine hbl.out.mono ?_
  rintro e w5 ⟨rfl, h5⟩
  have hF5 := hF4.putF (i := 0) rfl h5
  simp only [zN, zZ] at hF5
  clear hbl h5 hF4
  have hva := box (value_any 16 0 rfl w5 g4 A n c (jBlanks b 0) 0 w.heap.size b (hL.on hF5.below) (hF5.blk (i := 0) rfl) hg4 hF5.size hn hnc hb0 (by omega) (hr.below hF5.below))
  cases hv : jValue b 16 (jBlanks b 0) 0 with
  | error x =>
   have hend : Box (jParse b = .error x) := box (by rw [hJ.out, hv])
   rw [hv] at hva
   unfold JEndP at hva
   simp only [] at hva
   clear hv hJ
   go_wp2_with fail
   refine hva.out.mono ?_
   rintro e w6 ⟨rfl, hg6⟩
   have hF6 := (hF5.lost hg6).perm (es' := [.blk g1 76 vl0, .blk g2 3 [.int .i64 0], .blk g3 32 [.int .i64 0]]) (List.reverse_perm _).symm
   dsimp only [flt]
   go_wp2
   refine leaves_cons (f := 62) (args := #[.pointer (some ⟨g1, 0, none⟩), .pointer (some ⟨g2, 0, none⟩), .pointer (some ⟨g3, 0, none⟩)]) (by simp) (by simp [go_sem]) ?_
   refine (catch_flt g1 g2 g3 x [] w w6 _ _ _ [] rfl hF6).mono ?_
   rintro e u' w7 ⟨rfl, rfl, hF7⟩
   exact ⟨_, results_cells3 rfl _ hF7 (i := 0) (j := 1) (k := 2) rfl rfl rfl rfl rfl rfl uq76 rfl (by rw [vlL_len]; kernel_rfl) uq3 rfl uq32 rfl, by
    unfold ParseEnd
    rw [hend.out]
    exact ⟨rfl, hF7.below⟩⟩
  | ok y =>
   obtain ⟨v, q, m'⟩ := y
   have hq := (jValue_len 16 _ _ _ _ _ (by omega) hv).2.1
   rw [hl.out] at hq
   have hq1 : jBlanks b q ≤ n := by have := jBlanks_le b (p := q) (by rw [hl.out]; exact hq); rw [hl.out] at this; exact this
   have hJ2 := hJ.out
   rw [hv] at hJ2 hva
   simp only [] at hJ2
   replace hJ2 := box hJ2
   unfold JEndP ToldV at hva
   simp only [] at hva
   clear hv hJ
   go_wp2_with fail
   refine hva.out.mono ?_
   rintro e w6 ⟨cs, es, rfl, hvt, h6⟩
   have hF6 := hF5.putG (i := 0) rfl h6
   simp only [List.set_cons_succ, List.set_cons_zero, List.cons_append, List.nil_append] at hF6
   have hvl := box hvt.len
   have hvo := box hvt.one
   replace hvt := box hvt
   clear hva h6 hF5
   go_wp2_with (first | ((with_reducible refine lsx (wp_fstA3 hF6 (by with_unfolding_all exact ⟨_, _, rfl, rfl, rfl⟩) (by rw [hvl.out]; kernel_rfl) hvo.out (by rw [hvl.out, vlL_len]; decide) (spl_all (by rw [hvl.out, vlL_len])) ?_)); intro w7 hF7 hz7))
   clear hF6
   have hbl := box (blanks_any g4 A n c q m' w.heap.size b w7 (hF7.blk (i := 0) rfl) hg4 hF7.size (by omega) hq (hr.below hF7.below))
   refine hbl.out.mono ?_
   rintro e w8 ⟨rfl, h8⟩
   have hF8 := hF7.putF (i := 0) rfl h8
   simp only [zN, zZ] at hF8
   clear hbl h8 hF7
   by_cases hlt : jBlanks b q < n
   ·have hend : Box (jParse b = .error (jBlanks b q, 10)) := box (by rw [hJ2.out, if_pos (by rw [hl.out]; exact hlt)])
    have hfl := box (fun v w => fail_any v (jBlanks b q) 10 w)
    clear hJ2
    go_wp2_with (first | (with_reducible refine lsx (wp_fld0 hF8 uq3 rfl (by with_unfolding_all exact ⟨_, rfl, rfl⟩) rfl ?_)))
    refine (hfl.out _ _).mono ?_
    rintro e w9 ⟨rfl, rfl⟩
    have hF9 := (hF8.tail.sub (es' := [.blk g3 32 [.int .i64 0], .blk g2 3 [.int .i64 0], .blk g1 76 cs]) (((List.nil_sublist _).cons_cons _).cons_cons _ |>.cons_cons _)).perm (es' := [.blk g1 76 cs, .blk g2 3 [.int .i64 0], .blk g3 32 [.int .i64 0]]) (List.reverse_perm _).symm
    dsimp only [flt]
    go_wp2
    refine leaves_cons (f := 62) (args := #[.pointer (some ⟨g1, 0, none⟩), .pointer (some ⟨g2, 0, none⟩), .pointer (some ⟨g3, 0, none⟩)]) (by simp) (by simp [go_sem]) ?_
    refine (catch_flt g1 g2 g3 (jBlanks b q, 10) [] w _ _ _ _ [] hvl.out hF9).mono ?_
    rintro e u' w10 ⟨rfl, rfl, hF10⟩
    exact ⟨_, results_cells3 rfl _ hF10 (i := 0) (j := 1) (k := 2) rfl rfl rfl rfl rfl rfl uq76 rfl (by rw [vlL_len]; kernel_rfl) uq3 rfl uq32 rfl, by
     unfold ParseEnd
     rw [hend.out]
     exact ⟨rfl, hF10.below⟩⟩
   ·have hend : Box (jParse b = .ok v) := box (by rw [hJ2.out, if_neg (by rw [hl.out]; exact hlt)])
    clear hJ2
    go_wp2_with (first | (with_reducible refine lsx (wp_fld0 hF8 uq3 rfl (by with_unfolding_all exact ⟨_, rfl, rfl⟩) rfl ?_)) | (with_reducible refine lsx (wp_fldA3 hF8 uq76 rfl (by with_unfolding_all exact ⟨_, rfl, rfl⟩) (ds := cs) (by rw [hvl.out]; kernel_rfl) (take_all _) ?_)) | ((with_reducible refine lsx (wp_fstA3 hF8 (by with_unfolding_all exact ⟨_, _, rfl, rfl, rfl⟩) (by rw [hvl.out]; kernel_rfl) hvo.out (by rw [hvl.out]; decide) (spl_all rfl) ?_)); intro w9 hF9 hz9) | ((with_reducible refine lsx (wp_fst2 hF9 (by with_unfolding_all exact ⟨_, _, rfl, rfl, rfl⟩) (by kernel_rfl) rfl rfl (by first | decide | (simp; done) | (simp; omega)) (spl1 _ (.int .i64 0)) ?_)); intro w10 hF10 hz10) | ((with_reducible refine lsx (wp_fst1 hF10 (by with_unfolding_all exact ⟨_, _, rfl, rfl, rfl⟩) (by kernel_rfl) rfl rfl (by first | decide | (simp; done) | (simp; omega)) (spl1 _ (.int .i64 0)) ?_)); intro w11 hF11 hz11))
    refine leaves_cons (f := 62) (args := #[.pointer (some ⟨g1, 0, none⟩), .pointer (some ⟨g2, 0, none⟩), .pointer (some ⟨g3, 0, none⟩)]) (by simp) (by simp [go_sem]) ?_
    refine (catch_idle _ _ _ _).mono ?_
    rintro e u' w12 ⟨rfl, rfl, rfl⟩
    exact ⟨_, results_cells3 rfl _ hF11 (i := 3) (j := 2) (k := 1) rfl rfl rfl rfl rfl rfl uq76 rfl (by rw [hvl.out]; kernel_rfl) uq3 rfl uq32 rfl, by
     unfold ParseEnd
     rw [hend.out]
     exact ⟨cs, es, rfl, hvt.out, hF11.tail.tail.tail.tail⟩⟩
end Go.Proofs.YtlhicfpmlncomaaGreatDoor

namespace Go.Proofs.YtlhicfpmlncomaaGreatDoor
open Go.RowKit
theorem wp_fmark {P : Program} {o : Oper} {a : Act} {K : Act → World → Prop} {Q : Exit → Act → World → Prop} {X : List Nat} {w0 w : World} {es : List Ent} {t e : TypeId} {size bytes : Nat} {z : Value} (T : SlT P t e size bytes z) (he : P.underlying e = some (.int .u8)) {b g n c : Nat} {el : TypeId} {xs : List Value}
  (hF : Fr X w0 w (.own b el 1 (.slice (some ⟨g, 0, none⟩) n c) n xs :: es)) (ho : IsCv o a t t (.slice (some ⟨g, 0, none⟩) n c))
  (k : ∀ w', Fr X w0 w' (.rd (some ⟨g, 0, none⟩) 1 n xs :: es) → w'.heap.size = w.heap.size → K (a.put o.dst (.slice (some ⟨g, 0, none⟩) n c)) w') : o.wp P a w K Q := by
 obtain ⟨x, ho, hx⟩ := ho
 have hrun : (convert t t (.slice (some ⟨g, 0, none⟩) n c)).run P w = .ok (.slice (some ⟨g, 0, none⟩) n c) (match w.shape? g with | some (_, q) => w.freeze ⟨g, q, none⟩ 1 | none => w) := by
  cases hs : w.shape? g with
  | none => simp [convert, run_underlying T.und, run_underlying he, markStringish, hs]
  | some y => simp [convert, run_underlying T.und, run_underlying he, markStringish, hs]
 have hr := hF.rdOwn (i := 0) rfl
 have hlt : g < w.heap.size := Ent.lt (hF.holds 0 _ rfl) rfl
 unfold Oper.wp execOp
 simp only [ho, hx, hrun, Sem.run_bind, Sem.run_pure, Result.andThen_ok]
 cases hs : w.shape? g with
 | none => exact k w (hF.toRd (i := 0) rfl) rfl
 | some y =>
  refine k _ (hF.put (i := 0) (e' := .rd (some ⟨g, 0, none⟩) 1 n xs) rfl ⟨?_, ?_, ?_, ?_, fun j hj hne => freeze_block _ _ _ _ (fun h => hne (by show some j = some g; rw [h]))⟩ ⟨⟨hr.len, hr.some_, fun _ => ?_, fun j u hu => ?_⟩, fun a ha => ?_⟩ (.inl rfl)) (freeze_size _ _ _)
  ·unfold World.freeze; split <;> rfl
  ·unfold World.freeze; split <;> rfl
  ·unfold World.freeze; split <;> rfl
  ·rw [freeze_size]; exact Nat.le_refl _
  ·rw [freeze_size]; exact hlt
  ·rw [freeze_cell]; exact hr.cell j u hu
  ·injection ha with ha; subst ha; rw [freeze_size]; exact hlt
theorem LibsAt.up {B B' : Nat} {w : World} (h : LibsAt B w) (hb : B ≤ B') : LibsAt B' w :=
 ⟨fun w' h2 => h.u8 w' (h2.mono hb), fun w' h2 => h.pow w' (h2.mono hb), h.syn.imp fun _ h => h.imp fun _ h w' h2 => h w' (h2.mono hb), h.rng.imp fun _ h => h.imp fun _ h w' h2 => h w' (h2.mono hb)⟩
def ParseEndF (X : List Nat) (w0 : World) (es : List Ent) (r : JR JV) (e : Ending) (w' : World) : Prop :=
 match r with
 | .ok v => ∃ cs es', e = .returned (.tuple #[.agg cs.toArray, .int .i64 0, .int .i64 0]) ∧ VT v cs es' ∧ Fr X w0 w' (es' ++ es)
 | .error x => e = .returned (.tuple #[.agg vl0.toArray, .int .i64 (x.1 : Int), .int .i64 (x.2 : Int)]) ∧ Fr X w0 w' es
theorem parse_F {X : List Nat} {w0 w : World} {es : List Ent} {B : Nat} (hF : Fr X w0 w es) (hL : LibsAt B w) (hB : B ≤ w.heap.size) {A : Option Addr} {n c : Nat} {b : List UInt8} (hnc : n ≤ c) (hn47 : n ≤ 140737488355328) (hr : Rd w (· < w.heap.size) A 1 n (b.map bv)) :
  Calls Tryz.prog 30 #[.slice A n c] w (ParseEndF X w0 es (jParse b)) := by
 refine (parse_any A n c b w (hL.up hB) hnc hn47 hr).mono ?_
 intro e w' h
 unfold ParseEnd at h
 unfold ParseEndF
 cases hj : jParse b with
 | error x => rw [hj] at h; exact ⟨h.1, hF.call h.2⟩
 | ok v =>
  rw [hj] at h
  obtain ⟨cs, es', rfl, hvt, hF'⟩ := h
  exact ⟨cs, es', rfl, hvt, hF.join hF'⟩
theorem VT.kids {k n : Int} {t : List UInt8} {ns : List (List UInt8)} {ks : List JV} {cs : List Value} {es' es : List Ent} {X : List Nat} {w0 w : World} (h : VT (.mk k n t ns ks) cs es') (hF : Fr X w0 w (es' ++ es)) :
  ∃ An nn cn Ak ck xs TE, nn ≤ cn ∧ ks.length ≤ ck ∧ cs = vlL k n ⟨t.toArray⟩ (.slice An nn cn) (.slice Ak ks.length ck) ∧ Rd w (· < w.heap.size) An 1 nn (ns.map strv) ∧ Rd w (· < w.heap.size) Ak 5 ks.length xs ∧ VTL ks xs TE := by
 rw [VT] at h
 obtain ⟨An, nn, cn, Ak, nk, ck, xs, TE, h1, h2, rfl, rfl, h3⟩ := h
 have r1 := hF.rd (i := 0) rfl
 have r2 := hF.rd (i := 1) rfl
 have hl := r2.len
 rw [h3.len] at hl
 obtain rfl : ks.length = nk := by omega
 exact ⟨An, nn, cn, Ak, ck, xs, TE, h1, h2, rfl, r1, r2, h3⟩
end Go.Proofs.YtlhicfpmlncomaaGreatDoor

namespace Go.Proofs.YtlhicfpmlncomaaGreatDoor
open Go.RowKit
mutual
def JSm : JV → Prop
 | .mk _ _ _ ns ks => ns.length ≤ 1048576 ∧ ks.length ≤ 1048576 ∧ JSmL ks
def JSmL : List JV → Prop
 | [] => True
 | v :: vs => JSm v ∧ JSmL vs
end
theorem JSmL.at : ∀ {ks : List JV} {i : Nat} {v : JV}, JSmL ks → ks[i]? = some v → JSm v
 | [], _, _, _, hv => by cases hv
 | k :: ks, i, v, h, hv => by
  rw [JSmL] at h
  cases i with
  | zero => injection hv with hv; subst hv; exact h.1
  | succ i => exact JSmL.at h.2 (by simpa using hv)
theorem VRd.len {w : World} {S : Nat → Prop} {v : JV} {cs : List Value} (h : VRd w S v cs) : cs.length = 5 := by
 cases v
 rw [VRd] at h
 obtain ⟨_, _, _, _, _, _, _, _, _, rfl, _⟩ := h
 rfl
theorem VRdL.len {w : World} {S : Nat → Prop} : ∀ {ks : List JV} {xs : List Value}, VRdL w S ks xs → xs.length = ks.length * 5
 | [], xs, h => by rw [VRdL] at h; rw [h]; rfl
 | k :: ks, xs, h => by
  rw [VRdL] at h
  obtain ⟨c1, ys, rfl, h1, h2⟩ := h
  rw [List.length_append, h1.len, VRdL.len h2, List.length_cons]
  omega
theorem VRdL.at {w : World} {S : Nat → Prop} : ∀ {ks : List JV} {xs : List Value} {i : Nat} {v : JV}, VRdL w S ks xs → ks[i]? = some v → ∃ cs, (xs.drop (i * 5)).take 5 = cs ∧ VRd w S v cs
 | [], _, _, _, _, hv => by cases hv
 | k :: ks, xs, i, v, h, hv => by
  rw [VRdL] at h
  obtain ⟨c1, ys, rfl, h1, h2⟩ := h
  cases i with
  | zero =>
   injection hv with hv; subst hv
   refine ⟨c1, ?_, h1⟩
   rw [Nat.zero_mul, List.drop_zero, List.take_append_of_le_length (by rw [h1.len]; exact Nat.le_refl _), List.take_of_length_le (by rw [h1.len]; exact Nat.le_refl _)]
  | succ i =>
   obtain ⟨cs, hc, hr⟩ := VRdL.at h2 (i := i) (by simpa using hv)
   refine ⟨cs, ?_, hr⟩
   rw [← hc, List.drop_append, List.drop_of_length_le (by rw [h1.len]; omega), List.nil_append, h1.len, show (i + 1) * 5 - 5 = i * 5 by omega]
theorem Fr.joinR {X : List Nat} {w0 w w' : World} {es es' : List Ent} (h : Fr X w0 w es) (h' : Fr [] w w' es') : Fr X w0 w' (es ++ es') := (h.join h').perm List.perm_append_comm
theorem VRd.on {w w' : World} {v : JV} {cs : List Value} (h : VRd w (· < w.heap.size) v cs) (hb : Below w.heap.size w w') : VRd w' (· < w'.heap.size) v cs :=
 VRd.keep (fun _ hk => Nat.lt_of_lt_of_le hk hb.size) (fun k hk => hb.block k hk) v h
theorem T_rvals : SlT Tryz.prog 49 51 5 80 (.agg vl0.toArray) := ⟨uq49, by kernel_rfl, rfl, by decide⟩
end Go.Proofs.YtlhicfpmlncomaaGreatDoor

namespace Go.Proofs.YtlhicfpmlncomaaGreatDoor
open Go.RowKit
end Go.Proofs.YtlhicfpmlncomaaGreatDoor

namespace Go.Proofs.YtlhicfpmlncomaaGreatDoor
open Go.RowKit
def jRightL (f : JV → Nat → Option Nat) (obj : Bool) : List (List UInt8) → List (List UInt8) → List JV → Nat → Option Nat
 | _, _, [], m => some m
 | seen, ns, v :: vs, m =>
  if obj = true ∧ (Lib.validD (ns.headD []) = false ∨ ns.headD [] ∈ seen) then none else
   match f v m with
   | none => none
   | some m' => jRightL f obj (seen ++ [ns.headD []]) ns.tail vs m'
def jBad (k n : Int) (t : List UInt8) (m : Nat) : Prop := 4096 < m + 1 ∨ k < 0 ∨ 6 < k ∨ Lib.validD t = false ∨ 9007199254740991 < n ∨ n < -9007199254740991
instance (k n : Int) (t : List UInt8) (m : Nat) : Decidable (jBad k n t m) := by unfold jBad; exact inferInstance
def jRight : Nat → JV → Nat → Option Nat
 | 0, .mk k n t _ _, m => if jBad k n t m then none else if k < 5 then some (m + 1) else none
 | d + 1, .mk k n t ns ks, m => if jBad k n t m then none else if k < 5 then some (m + 1) else if k = 6 ∧ ns.length ≠ ks.length then none else jRightL (jRight d) (k == 6) [] ns ks (m + 1)
theorem jRight_bad {d : Nat} {k n : Int} {t : List UInt8} {ns : List (List UInt8)} {ks : List JV} {m : Nat} (h : jBad k n t m) : jRight d (.mk k n t ns ks) m = none := by
 cases d <;> (rw [jRight, if_pos h])
theorem jRight_leaf {d : Nat} {k n : Int} {t : List UInt8} {ns : List (List UInt8)} {ks : List JV} {m : Nat} (h : ¬ jBad k n t m) (hk : k < 5) : jRight d (.mk k n t ns ks) m = some (m + 1) := by
 cases d <;> (rw [jRight, if_neg h, if_pos hk])
end Go.Proofs.YtlhicfpmlncomaaGreatDoor

namespace Go.Proofs.YtlhicfpmlncomaaGreatDoor
theorem JV.size_kid {k n : Int} {t : List UInt8} {ns : List (List UInt8)} {ks : List JV} {v : JV} {i : Nat} (h : ks[i]? = some v) : SizeOf.sizeOf v < SizeOf.sizeOf (JV.mk k n t ns ks) := by
 have := List.sizeOf_lt_of_mem (List.mem_of_getElem? h)
 simp only [JV.mk.sizeOf_spec]
 omega
end Go.Proofs.YtlhicfpmlncomaaGreatDoor

namespace Go.Proofs.YtlhicfpmlncomaaGreatDoor
open Go.RowKit
section
variable {P : Program} {w : World}
end
end Go.Proofs.YtlhicfpmlncomaaGreatDoor

namespace Go.Proofs.YtlhicfpmlncomaaGreatDoor
open Go.RowKit
theorem run_sidx {P : Program} {t : TypeId} (ht : P.underlying t = some .string) {s : ByteArray} {kd : IntKind} {j : Int} {k : Nat} {c : UInt8} (hj : j = (k : Int)) (hc : s.data.toList[k]? = some c) (w : World) : (Instr.index t (.string s) (.int kd j)).run P w = .ok (.int .u8 (c.toNat : Int)) w := by
 subst hj
 have hk : k < s.data.toList.length := (List.getElem?_eq_some_iff.1 hc).1
 have hk2 : k < s.size := by rw [← str_len s]; exact hk
 have he : s[k]'hk2 = c := by
  have := (List.getElem?_eq_some_iff.1 hc).2
  rw [← this]
  rfl
 rw [run_index_string w t s kd _ ht, dif_pos ⟨by omega, by omega⟩]
 simp only [Int.toNat_natCast, he]
theorem wp_sidx {P : Program} {o : Oper} {a : Act} {w : World} {K : Act → World → Prop} {Q : Exit → Act → World → Prop} {t : TypeId} (ht : P.underlying t = some .string) {s : ByteArray} {j : Int} {k : Nat} {c : UInt8} (hj : j = (k : Int)) (hc : s.data.toList[k]? = some c)
  (ho : ∃ x i kd, o.op = .index t x i ∧ a.eval x = .string s ∧ a.eval i = .int kd j) (hK : K (a.put o.dst (.int .u8 (c.toNat : Int))) w) : o.wp P a w K Q := by
 obtain ⟨x, i, kd, ho, hx, hi⟩ := ho
 refine wp_run (v := .int .u8 (c.toNat : Int)) (w' := w) ?_ hK
 unfold execOp
 simp [ho, hx, hi, run_sidx ht hj hc]
theorem yi_sidx {P : Program} {S : World → Prop} {ops : Array Oper} {o : Oper} {a : Act} (hw : Region.wanted o (yielded ops a.tmps) = true) {t : TypeId} (ht : P.underlying t = some .string) {s : ByteArray} {j : Int} {k : Nat} {c : UInt8} (hj : j = (k : Int)) (hc : s.data.toList[k]? = some c)
  (ho : ∃ x i kd, o.op = .index t x i ∧ a.eval x = .string s ∧ a.eval i = .int kd j) : YieldsIf P ops S o (.int .u8 (c.toNat : Int)) a := by
 obtain ⟨x, i, kd, ho, hx, hi⟩ := ho
 refine .inl ⟨hw, fun w _ => ?_⟩
 unfold execOp
 simp [ho, hx, hi, run_sidx ht hj hc]
end Go.Proofs.YtlhicfpmlncomaaGreatDoor

namespace Go.Proofs.YtlhicfpmlncomaaGreatDoor
open Go.RowKit
def jHexD (n : Nat) : UInt8 := if n < 10 then UInt8.ofNat (48 + n) else UInt8.ofNat (87 + n)
def jQc (c : UInt8) : List UInt8 :=
 if c = 34 ∨ c = 92 then [92, c]
 else if c = 8 then [92, 98]
 else if c = 9 then [92, 116]
 else if c = 10 then [92, 110]
 else if c = 12 then [92, 102]
 else if c = 13 then [92, 114]
 else if c.toNat < 32 then [92, 117, 48, 48, jHexD (c.toNat / 16), jHexD (c.toNat % 16)]
 else [c]
def jQuote (s : List UInt8) : List UInt8 := [34] ++ s.flatMap jQc ++ [34]
theorem jQc_len (c : UInt8) : (jQc c).length ≤ 6 := by
 unfold jQc
 repeat' split
 all_goals simp
theorem jQs_len : ∀ (s : List UInt8), (s.flatMap jQc).length ≤ 6 * s.length
 | [] => Nat.le_refl _
 | c :: s => by
  rw [List.flatMap_cons, List.length_append, List.length_cons]
  have := jQc_len c
  have := jQs_len s
  omega
theorem jQuote_len (s : List UInt8) : (jQuote s).length ≤ 6 * s.length + 2 := by
 have := jQs_len s
 unfold jQuote
 simp only [List.length_append, List.length_cons, List.length_nil]
 omega
end Go.Proofs.YtlhicfpmlncomaaGreatDoor

namespace Go.Proofs.YtlhicfpmlncomaaGreatDoor
open Go.RowKit
mutual
def jFull : JV → List UInt8
 | .mk k n t ns ks =>
  if k = 0 then [110, 117, 108, 108] else if k = 1 then [102, 97, 108, 115, 101] else if k = 2 then [116, 114, 117, 101]
  else if k = 3 then Lib.itoa n else if k = 4 then jQuote t
  else if k = 6 then [123] ++ jFullL true false ns ks ++ [125] else [91] ++ jFullL false false ns ks ++ [93]
def jFullL (obj : Bool) : Bool → List (List UInt8) → List JV → List UInt8
 | _, _, [] => []
 | more, ns, v :: vs => (if more then [44] else []) ++ ((if obj then jQuote (ns.headD []) ++ [58] else []) ++ (jFull v ++ jFullL obj true ns.tail vs))
end
mutual
def JOk : JV → Prop
 | .mk k n _ ns ks => (k = 0 ∨ k = 1 ∨ k = 2 ∨ (k = 3 ∧ -9223372036854775808 ≤ n ∧ n ≤ 9223372036854775807) ∨ k = 4) ∨ (k = 5 ∧ JOkL ks) ∨ (k = 6 ∧ ns.length = ks.length ∧ JOkL ks)
def JOkL : List JV → Prop
 | [] => True
 | v :: vs => JOk v ∧ JOkL vs
end
theorem JOkL.at : ∀ {ks : List JV} {i : Nat} {v : JV}, JOkL ks → ks[i]? = some v → JOk v
 | [], _, _, _, hv => by cases hv
 | k :: ks, i, v, h, hv => by
  rw [JOkL] at h
  cases i with
  | zero => injection hv with hv; subst hv; exact h.1
  | succ i => exact JOkL.at h.2 (by simpa using hv)
theorem jFullL_drop {obj more : Bool} {ns : List (List UInt8)} {ks : List JV} {i : Nat} {v : JV} (hv : ks[i]? = some v) :
  jFullL obj more (ns.drop i) (ks.drop i) = (if more then [44] else []) ++ ((if obj then jQuote ((ns.drop i).headD []) ++ [58] else []) ++ (jFull v ++ jFullL obj true (ns.drop (i + 1)) (ks.drop (i + 1)))) := by
 rw [List.drop_eq_getElem_cons (List.getElem?_eq_some_iff.1 hv).1, (List.getElem?_eq_some_iff.1 hv).2, jFullL, List.tail_drop]
theorem jQs_ge : ∀ (s : List UInt8), s.length ≤ (s.flatMap jQc).length
 | [] => Nat.le_refl _
 | c :: s => by
  rw [List.flatMap_cons, List.length_append, List.length_cons]
  have h1 : 1 ≤ (jQc c).length := by
   unfold jQc
   repeat' split
   all_goals simp
  have := jQs_ge s
  omega
theorem jQuote_ge (s : List UInt8) : s.length + 2 ≤ (jQuote s).length := by
 have := jQs_ge s
 unfold jQuote
 simp only [List.length_append, List.length_cons, List.length_nil]
 omega
theorem itoa_len {n : Int} (h0 : -9223372036854775808 ≤ n) (h1 : n ≤ 9223372036854775807) : (Lib.itoa n).length ≤ 20 := by
 unfold Lib.itoa
 split
 ·have := decDigits_len 18 n.natAbs (by omega)
  simp only [List.length_cons]; omega
 ·have := decDigits_len 18 n.toNat (by omega)
  omega
def WrPost (w0 : World) (rest : List Ent) (full : List UInt8) (e : Ending) (w' : World) : Prop :=
 ∃ v l, e = .returned v ∧ Box (l.length ≤ full.length ∧ (l = full ∨ 65536 < l.length)) ∧ Fr [] w0 w' (Ent.bytes w0.heap.size 5 v l :: rest)
def NotU8 (rest : List Ent) : Prop := ∀ e ∈ rest, ∃ g t cs, t ≠ 5 ∧ e = Ent.blk g t cs
theorem NotU8.cons {rest : List Ent} (h : NotU8 rest) {g : Nat} {t : TypeId} {cs : List Value} (ht : t ≠ 5) : NotU8 (.blk g t cs :: rest) := by
 intro e he
 rcases List.mem_cons.1 he with rfl | he
 ·exact ⟨_, _, _, ht, rfl⟩
 ·exact h e he
theorem VRd.one {w : World} {S : Nat → Prop} {v : JV} {cs : List Value} (h : VRd w S v cs) : ∀ u ∈ cs, u.oneCell' = true := by
 cases v
 rw [VRd] at h
 obtain ⟨_, _, _, _, _, _, _, _, _, rfl, _⟩ := h
 exact vlL_one
end Go.Proofs.YtlhicfpmlncomaaGreatDoor

namespace Go.Proofs.YtlhicfpmlncomaaGreatDoor
open Go.RowKit
mutual
def JTx : JV → Prop
 | .mk _ _ t ns ks => t.length ≤ 140737488355328 ∧ (∀ s ∈ ns, s.length ≤ 140737488355328) ∧ JTxL ks
def JTxL : List JV → Prop
 | [] => True
 | v :: vs => JTx v ∧ JTxL vs
end
theorem JTxL.at : ∀ {ks : List JV} {i : Nat} {v : JV}, JTxL ks → ks[i]? = some v → JTx v
 | [], _, _, _, hv => by cases hv
 | k :: ks, i, v, h, hv => by
  rw [JTxL] at h
  cases i with
  | zero => injection hv with hv; subst hv; exact h.1
  | succ i => exact JTxL.at h.2 (by simpa using hv)
end Go.Proofs.YtlhicfpmlncomaaGreatDoor
