/-
 Layer 6: the document's Right, walked.
 Layer 6: the document's Show and Write, walked.
 Layer 8: the document's Write and Bare, walked.
 The walk of the document's Same.
 Layer 8: the law ManifestBack, walked.
 Layer 8: what the rows' listed variables hold, in the walks' words; a world that holds it.
-/
import Derived.Test.YtlhicfpmlncomaaGreatDoorL22
import Derived.Test.YtlhicfpmlncomaaGreatDoorL03
import Derived.Test.YtlhicfpmlncomaaGreatDoorL19
import Derived.Test.YtlhicfpmlncomaaGreatDoorL13
import Derived.Test.YtlhicfpmlncomaaGreatDoorL01
import Derived.Deep.QuietTactic
import Derived.BigQuiet
import Derived.Test.YtlhicfpmlncomaaGreatDoorL20
import Derived.Test.YtlhicfpmlncomaaGreatDoorRows
import Derived.Lib.LaidU8T
import Derived.Stop.LaidErr
import Derived.Lib.LaidTab
import Derived.MakeChecks
import Derived.LaidLaws
import Derived.LaidHandle
import Derived.LaidMore
import Derived.Lay
import Derived.Shelf.Vars
set_option linter.unusedSimpArgs false
namespace Go.Proofs.YtlhicfpmlncomaaGreatDoor
open Go.RowKit
set_option linter.unusedSimpArgs false
end Go.Proofs.YtlhicfpmlncomaaGreatDoor

namespace Go.Proofs.YtlhicfpmlncomaaGreatDoor
open Go.RowKit
set_option linter.unusedSimpArgs false
end Go.Proofs.YtlhicfpmlncomaaGreatDoor

namespace Go.Proofs.YtlhicfpmlncomaaGreatDoor
open Go.RowKit
set_option linter.unusedSimpArgs false
set_option linter.unusedVariables false
theorem RdD.zero (w : World) : RdD w .zero ds0 := ⟨_, by decide, ⟨none, 0, 0, Nat.le_refl _, rfl, rfl, Rd.nil _ _ _ _⟩, rfl⟩
theorem RdDoc.len {w : World} {d : MDoc} {cs : List Value} (h : RdDoc w d cs) : cs.length = 75 := by
 obtain ⟨cf, eg, sj, nt, h1, _, h2, _, rfl⟩ := h
 exact docL_len h1.len h2.len
theorem RdDoc.ones {w : World} {d : MDoc} {cs : List Value} (h : RdDoc w d cs) : ∀ u ∈ cs, u.oneCell' = true := by
 obtain ⟨cf, eg, sj, nt, h1, ⟨_, _, _, _, _, _, rfl, _, _⟩, h2, ⟨_, _, _, _, _, rfl, _⟩, rfl⟩ := h
 exact docL_one h1.ones h2.ones rfl rfl
set_option maxRecDepth 20000 in
set_option maxHeartbeats 6400000 in
theorem rdbare_any (D : MDoc) (cs : List Value) (w : World) (hDD : RdDoc w D cs) :
  Calls Tryz.prog 22 #[.agg cs.toArray] w fun e w' => ∃ cs', e = .returned (.agg cs'.toArray) ∧ RdDoc w' (mBare D) cs' ∧ Below w.heap.size w w' := by
 obtain ⟨cf, eg, sj, nt, hC0, ⟨Ae, ne, ce, xe, hnce, hne', rfl, hre0, hEd0⟩, hS0, ⟨An, nq, cn, hnn0, hnq', rfl, hrn0⟩, rfl⟩ := hDD
 obtain ⟨m, ty, c, eds, s, hs, nts⟩ := D
 simp only [] at hC0 hne' hEd0 hS0 hnq' hrn0
 have hcl := box hC0.len
 have hsl := box hS0.len
 have hco := box hC0.ones
 have hso := box hS0.ones
 have hdz := box ds0_len
 have hC := box (fun w' (hb : Below w.heap.size w w') => hC0.on hb)
 have hS := box (fun w' (hb : Below w.heap.size w w') => hS0.on hb)
 have hE : Box (∀ w', Below w.heap.size w w' → RdE w' eds (.slice Ae ne ce)) := box (fun w' hb => RdE.on ⟨Ae, ne, ce, xe, hnce, hne', rfl, hre0, hEd0⟩ hb)
 have hN : Box (∀ w', Below w.heap.size w w' → RdN w' nts (.slice An nq cn)) := box (fun w' hb => RdN.on ⟨An, nq, cn, hnn0, hnq', rfl, hrn0⟩ hb)
 clear hC0 hS0 hne' hEd0 hre0 hnq' hrn0 hnce hnn0
 have hF0 := Fr.nil w
 show Calls _ _ #[.agg (docL m ty cf (.slice Ae ne ce) sj hs (.slice An nq cn)).toArray] _ _
 by_cases hx : m = sIndex
 ·skip
  have e1 : (m == [97, 112, 112, 108, 105, 99, 97, 116, 105, 111, 110, 47, 118, 110, 100, 46, 111, 99, 105, 46, 105, 109, 97, 103, 101, 46, 105, 110, 100, 101, 120, 46, 118, 49, 43, 106, 115, 111, 110]) = true := by rw [beq_iff_eq]; exact hx
  cases hs with
  | true =>
   have hbr : Box (mBare ⟨m, ty, c, eds, s, true, nts⟩ = ⟨m, ty, .zero, eds, s, true, nts⟩) := box (by unfold mBare; simp only []; rw [if_pos hx]; rfl)
   replace hx := box hx
   go_enter Tryz.func22, Tryz.ntmps22
   go_wp2_with (first | ((with_reducible refine lsx (wp_fbox hF0 (cs := (docL m ty cf (.slice Ae ne ce) sj true (.slice An nq cn))) rfl (by with_unfolding_all rfl) (by with_unfolding_all rfl) ?_)); intro w1 g1 hF1 hz1) | ((with_reducible refine lsx (wp_falloc hF1 (cs := doc0) (z := .agg (List.toArray (doc0))) rfl (by kernel_rfl) (by with_unfolding_all rfl) ?_)); intro w2 g2 hF2 hz2) | (with_reducible refine lsx (wp_fld1 hF2 Tryz.underlying9 rfl (by with_unfolding_all exact ⟨_, rfl, rfl⟩) docL_m0 ?_)) | (with_reducible refine lsx (wp_fbuild Tryz.underlying37 (z := .agg (List.toArray ds0)) (by kernel_rfl) (pl := dsP) (by kernel_rfl) (cs := ds0) rfl (vs := []) (by with_unfolding_all rfl) (by with_unfolding_all rfl) ?_)) | ((with_reducible refine lsx (wp_fstA1 hF2 (by with_unfolding_all exact ⟨_, _, rfl, rfl, rfl⟩) (by rw [ds0_len]; kernel_rfl) ds0_one (by rw [hdz.out, docL_len hcl.out hsl.out]; decide) (docL_2 (by rw [hdz.out, hcl.out])) ?_)); intro w3 hF3 hz3) | (with_reducible refine lsx (wp_fld1 hF3 Tryz.underlying4 rfl (by with_unfolding_all exact ⟨_, rfl, rfl⟩) (docL_has hdz.out hsl.out) ?_)) | (with_reducible refine lsx (wp_fldA1 hF3 Tryz.underlying40 rfl (by with_unfolding_all exact ⟨_, rfl, rfl⟩) (ds := (docL m ty ds0 (.slice Ae ne ce) sj true (.slice An nq cn))) (by rw [docL_len hdz.out hsl.out]; kernel_rfl) (take_all _) ?_)) | ((with_reducible refine lsx (wp_fstA0 hF3 (by with_unfolding_all exact ⟨_, _, rfl, rfl, rfl⟩) (by rw [docL_len hdz.out hsl.out]; kernel_rfl) (docL_one ds0_one hso.out rfl rfl) (by rw [docL_len hdz.out hsl.out, doc0_len]; decide) (spl_all (by rw [docL_len hdz.out hsl.out, doc0_len])) ?_)); intro w5 hF5 hz5))
   exact bodyPost_ret (results_cellF rfl _ hF5 (i := 0) rfl rfl Tryz.underlying40 rfl (by rw [docL_len hdz.out hsl.out]; kernel_rfl)) rfl ⟨_, rfl, by
    have hb := hF5.below
    rw [hbr.out]
    exact ⟨ds0, _, sj, _, RdD.zero _, hE.out _ hb, hS.out _ hb, hN.out _ hb, rfl⟩, hF5.below⟩
  | false =>
   have hbr : Box (mBare ⟨m, ty, c, eds, s, false, nts⟩ = ⟨m, ty, .zero, eds, .zero, false, nts⟩) := box (by unfold mBare; simp only []; rw [if_pos hx]; rfl)
   replace hx := box hx
   go_enter Tryz.func22, Tryz.ntmps22
   go_wp2_with (first | ((with_reducible refine lsx (wp_fbox hF0 (cs := (docL m ty cf (.slice Ae ne ce) sj false (.slice An nq cn))) rfl (by with_unfolding_all rfl) (by with_unfolding_all rfl) ?_)); intro w1 g1 hF1 hz1) | ((with_reducible refine lsx (wp_falloc hF1 (cs := doc0) (z := .agg (List.toArray (doc0))) rfl (by kernel_rfl) (by with_unfolding_all rfl) ?_)); intro w2 g2 hF2 hz2) | (with_reducible refine lsx (wp_fld1 hF2 Tryz.underlying9 rfl (by with_unfolding_all exact ⟨_, rfl, rfl⟩) docL_m0 ?_)) | (with_reducible refine lsx (wp_fbuild Tryz.underlying37 (z := .agg (List.toArray ds0)) (by kernel_rfl) (pl := dsP) (by kernel_rfl) (cs := ds0) rfl (vs := []) (by with_unfolding_all rfl) (by with_unfolding_all rfl) ?_)) | ((with_reducible refine lsx (wp_fstA1 hF2 (by with_unfolding_all exact ⟨_, _, rfl, rfl, rfl⟩) (by rw [ds0_len]; kernel_rfl) ds0_one (by rw [hdz.out, docL_len hcl.out hsl.out]; decide) (docL_2 (by rw [hdz.out, hcl.out])) ?_)); intro w3 hF3 hz3) | (with_reducible refine lsx (wp_fld1 hF3 Tryz.underlying4 rfl (by with_unfolding_all exact ⟨_, rfl, rfl⟩) (docL_has hdz.out hsl.out) ?_)) | ((with_reducible refine lsx (wp_fstA1 hF3 (by with_unfolding_all exact ⟨_, _, rfl, rfl, rfl⟩) (by rw [ds0_len]; kernel_rfl) ds0_one (by rw [hdz.out, docL_len hdz.out hsl.out]; decide) (docL_38 hdz.out (by rw [hdz.out, hsl.out])) ?_)); intro w4 hF4 hz4) | (with_reducible refine lsx (wp_fldA1 hF4 Tryz.underlying40 rfl (by with_unfolding_all exact ⟨_, rfl, rfl⟩) (ds := (docL m ty ds0 (.slice Ae ne ce) ds0 false (.slice An nq cn))) (by rw [docL_len hdz.out hdz.out]; kernel_rfl) (take_all _) ?_)) | ((with_reducible refine lsx (wp_fstA0 hF4 (by with_unfolding_all exact ⟨_, _, rfl, rfl, rfl⟩) (by rw [docL_len hdz.out hdz.out]; kernel_rfl) (docL_one ds0_one ds0_one rfl rfl) (by rw [docL_len hdz.out hdz.out, doc0_len]; decide) (spl_all (by rw [docL_len hdz.out hdz.out, doc0_len])) ?_)); intro w5 hF5 hz5))
   exact bodyPost_ret (results_cellF rfl _ hF5 (i := 0) rfl rfl Tryz.underlying40 rfl (by rw [docL_len hdz.out hdz.out]; kernel_rfl)) rfl ⟨_, rfl, by
    have hb := hF5.below
    rw [hbr.out]
    exact ⟨ds0, _, ds0, _, RdD.zero _, hE.out _ hb, RdD.zero _, hN.out _ hb, rfl⟩, hF5.below⟩
 ·skip
  have e1 : (m == [97, 112, 112, 108, 105, 99, 97, 116, 105, 111, 110, 47, 118, 110, 100, 46, 111, 99, 105, 46, 105, 109, 97, 103, 101, 46, 105, 110, 100, 101, 120, 46, 118, 49, 43, 106, 115, 111, 110]) = false := by rw [beq_eq_false_iff_ne]; exact hx
  cases hs with
  | true =>
   have hbr : Box (mBare ⟨m, ty, c, eds, s, true, nts⟩ = ⟨m, ty, c, eds, s, true, nts⟩) := box (by unfold mBare; simp only []; rw [if_neg hx]; rfl)
   replace hx := box hx
   go_enter Tryz.func22, Tryz.ntmps22
   go_wp2_with (first | ((with_reducible refine lsx (wp_fbox hF0 (cs := (docL m ty cf (.slice Ae ne ce) sj true (.slice An nq cn))) rfl (by with_unfolding_all rfl) (by with_unfolding_all rfl) ?_)); intro w1 g1 hF1 hz1) | ((with_reducible refine lsx (wp_falloc hF1 (cs := doc0) (z := .agg (List.toArray (doc0))) rfl (by kernel_rfl) (by with_unfolding_all rfl) ?_)); intro w2 g2 hF2 hz2) | (with_reducible refine lsx (wp_fld1 hF2 Tryz.underlying9 rfl (by with_unfolding_all exact ⟨_, rfl, rfl⟩) docL_m0 ?_)) | (with_reducible refine lsx (wp_fbuild Tryz.underlying37 (z := .agg (List.toArray ds0)) (by kernel_rfl) (pl := dsP) (by kernel_rfl) (cs := ds0) rfl (vs := []) (by with_unfolding_all rfl) (by with_unfolding_all rfl) ?_)) | (with_reducible refine lsx (wp_fld1 hF2 Tryz.underlying4 rfl (by with_unfolding_all exact ⟨_, rfl, rfl⟩) (docL_has hcl.out hsl.out) ?_)) | (with_reducible refine lsx (wp_fldA1 hF2 Tryz.underlying40 rfl (by with_unfolding_all exact ⟨_, rfl, rfl⟩) (ds := (docL m ty cf (.slice Ae ne ce) sj true (.slice An nq cn))) (by rw [docL_len hcl.out hsl.out]; kernel_rfl) (take_all _) ?_)) | ((with_reducible refine lsx (wp_fstA0 hF2 (by with_unfolding_all exact ⟨_, _, rfl, rfl, rfl⟩) (by rw [docL_len hcl.out hsl.out]; kernel_rfl) (docL_one hco.out hso.out rfl rfl) (by rw [docL_len hcl.out hsl.out, doc0_len]; decide) (spl_all (by rw [docL_len hcl.out hsl.out, doc0_len])) ?_)); intro w5 hF5 hz5))
   exact bodyPost_ret (results_cellF rfl _ hF5 (i := 0) rfl rfl Tryz.underlying40 rfl (by rw [docL_len hcl.out hsl.out]; kernel_rfl)) rfl ⟨_, rfl, by
    have hb := hF5.below
    rw [hbr.out]
    exact ⟨cf, _, sj, _, hC.out _ hb, hE.out _ hb, hS.out _ hb, hN.out _ hb, rfl⟩, hF5.below⟩
  | false =>
   have hbr : Box (mBare ⟨m, ty, c, eds, s, false, nts⟩ = ⟨m, ty, c, eds, .zero, false, nts⟩) := box (by unfold mBare; simp only []; rw [if_neg hx]; rfl)
   replace hx := box hx
   go_enter Tryz.func22, Tryz.ntmps22
   go_wp2_with (first | ((with_reducible refine lsx (wp_fbox hF0 (cs := (docL m ty cf (.slice Ae ne ce) sj false (.slice An nq cn))) rfl (by with_unfolding_all rfl) (by with_unfolding_all rfl) ?_)); intro w1 g1 hF1 hz1) | ((with_reducible refine lsx (wp_falloc hF1 (cs := doc0) (z := .agg (List.toArray (doc0))) rfl (by kernel_rfl) (by with_unfolding_all rfl) ?_)); intro w2 g2 hF2 hz2) | (with_reducible refine lsx (wp_fld1 hF2 Tryz.underlying9 rfl (by with_unfolding_all exact ⟨_, rfl, rfl⟩) docL_m0 ?_)) | (with_reducible refine lsx (wp_fbuild Tryz.underlying37 (z := .agg (List.toArray ds0)) (by kernel_rfl) (pl := dsP) (by kernel_rfl) (cs := ds0) rfl (vs := []) (by with_unfolding_all rfl) (by with_unfolding_all rfl) ?_)) | (with_reducible refine lsx (wp_fld1 hF2 Tryz.underlying4 rfl (by with_unfolding_all exact ⟨_, rfl, rfl⟩) (docL_has hcl.out hsl.out) ?_)) | ((with_reducible refine lsx (wp_fstA1 hF2 (by with_unfolding_all exact ⟨_, _, rfl, rfl, rfl⟩) (by rw [ds0_len]; kernel_rfl) ds0_one (by rw [hdz.out, docL_len hcl.out hsl.out]; decide) (docL_38 hcl.out (by rw [hdz.out, hsl.out])) ?_)); intro w4 hF4 hz4) | (with_reducible refine lsx (wp_fldA1 hF4 Tryz.underlying40 rfl (by with_unfolding_all exact ⟨_, rfl, rfl⟩) (ds := (docL m ty cf (.slice Ae ne ce) ds0 false (.slice An nq cn))) (by rw [docL_len hcl.out hdz.out]; kernel_rfl) (take_all _) ?_)) | ((with_reducible refine lsx (wp_fstA0 hF4 (by with_unfolding_all exact ⟨_, _, rfl, rfl, rfl⟩) (by rw [docL_len hcl.out hdz.out]; kernel_rfl) (docL_one hco.out ds0_one rfl rfl) (by rw [docL_len hcl.out hdz.out, doc0_len]; decide) (spl_all (by rw [docL_len hcl.out hdz.out, doc0_len])) ?_)); intro w5 hF5 hz5))
   exact bodyPost_ret (results_cellF rfl _ hF5 (i := 0) rfl rfl Tryz.underlying40 rfl (by rw [docL_len hcl.out hdz.out]; kernel_rfl)) rfl ⟨_, rfl, by
    have hb := hF5.below
    rw [hbr.out]
    exact ⟨cf, _, ds0, _, hC.out _ hb, hE.out _ hb, RdD.zero _, hN.out _ hb, rfl⟩, hF5.below⟩
end Go.Proofs.YtlhicfpmlncomaaGreatDoor

namespace Go.Proofs.YtlhicfpmlncomaaGreatDoor
open Go.RowKit
set_option maxRecDepth 20000 in
set_option maxHeartbeats 400000 in
theorem sameB_any (A B : Option Addr) (n m c d : Nat) (l k : List UInt8) (w : World) (hm : n ≤ 9223372036854775807) (hr : Rd w (· < w.heap.size) A 1 n (l.map bv)) (hr2 : Rd w (· < w.heap.size) B 1 m (k.map bv)) :
  Calls Tryz.prog 16 #[.slice A n c, .slice B m d] w fun e w' => e = .returned (.bool (l == k)) ∧ Below w.heap.size w w' := by
 have hl := box hr.bytes_len
 have hk := box hr2.bytes_len
 by_cases hnm : n = m
 ·subst hnm
  go_enter Tryz.func16, Tryz.ntmps16
  go_wp2
  go_loopw [5] (fun i wr => ∃ j : Nat, j ≤ n ∧ Box (l.take j = k.take j) ∧ i = .int .i64 j ∧ Below w.heap.size w wr) (fun i _ => n - (intOf i).toNat)
  case atStart => exact ⟨0, by omega, box rfl, rfl, Below.refl _ _⟩
  case round =>
   obtain ⟨j, hj, HT, rfl, hb⟩ := hrel
   by_cases hlt : j < n
   ·obtain ⟨ad, x, hA, hx, hcx⟩ := (hr.below hb).atB hlt
    obtain ⟨bd, y, hB, hy, hcy⟩ := (hr2.below hb).atB hlt
    replace hx := box hx
    replace hy := box hy
    clear hr hr2
    subst hA hB
    by_cases hxy : x = y
    ·subst hxy
     go_wp2
     go_quiet (fail)
     go_wp2
     go_roundw
     case rel => exact ⟨j + 1, by omega, box (by rw [take_snoc hx.out, take_snoc hy.out, HT.out]), by go_num, below_drewN hb _⟩
     case measure => simp [intOf]; omega
    ·have hne : ((x.toNat : Int) != (y.toNat : Int)) = true := by
      simp only [bne_iff_ne, ne_eq]
      intro h; exact hxy (UInt8.toNat_inj.1 (by omega))
     replace hxy := box hxy
     go_wp2
     go_quiet (fail)
     go_wp2
     go_ret
     exact ⟨by rw [beq_false_of_ne (fun h => hxy.out (by have h1 := hx.out; have h2 := hy.out; rw [h, h2] at h1; injection h1 with h1; exact h1.symm))]; rfl, below_drewN hb _⟩
   ·go_wp2
    go_ret
    have he : l = k := by
     have := HT.out
     rwa [List.take_of_length_le (by have := hl.out; omega), List.take_of_length_le (by have := hk.out; omega)] at this
    exact ⟨by rw [he, beq_self_eq_true]; rfl, hb⟩
 ·have hne : ((n : Int) != (m : Int)) = true := by simp only [bne_iff_ne, ne_eq]; omega
  have hlk : (l == k) = false := beq_false_of_ne (fun h => hnm (by rw [← hl.out, ← hk.out, h]))
  replace hlk := box hlk
  replace hnm := box hnm
  go_enter Tryz.func16, Tryz.ntmps16
  go_wp2
  go_ret
  exact ⟨by rw [hlk.out]; rfl, Below.refl _ _⟩
theorem sameB_self (A B : Option Addr) (n m c d : Nat) (l : List UInt8) (w : World) (hm : n ≤ 9223372036854775807) (hr : Rd w (· < w.heap.size) A 1 n (l.map bv)) (hr2 : Rd w (· < w.heap.size) B 1 m (l.map bv)) :
  Calls Tryz.prog 16 #[.slice A n c, .slice B m d] w fun e w' => e = .returned (.bool true) ∧ Below w.heap.size w w' :=
 (sameB_any A B n m c d l l w hm hr hr2).mono fun e w' h => by rw [beq_self_eq_true] at h; exact h
end Go.Proofs.YtlhicfpmlncomaaGreatDoor

namespace Go.Proofs.YtlhicfpmlncomaaGreatDoor
open Go.RowKit
set_option linter.unusedSimpArgs false
set_option linter.unusedVariables false
theorem dsW_two (d : MDesc) : 2 ≤ dsW d := by unfold dsW; omega
theorem dcW_bare (D : MDoc) : dcW (mBare D) ≤ dcW D := by
 have h1 : dsW (mBare D).config ≤ dsW D.config := by
  unfold mBare
  simp only []
  split
  ·exact dsW_two _
  ·exact Nat.le_refl _
 have h2 : dsW (mBare D).subject ≤ dsW D.subject := by
  unfold mBare
  simp only []
  split
  ·exact Nat.le_refl _
  ·exact dsW_two _
 have e : dcW (mBare D) = D.media.length + D.type.length + dsW (mBare D).config + (D.edges.map dsW).sum + dsW (mBare D).subject + (D.notes.map ntW).sum + 2 := rfl
 rw [e]
 unfold dcW
 omega
theorem mWrite_bad {D : MDoc} {l : List UInt8} {f : Nat} (h : mWrite D = (l, f)) (hf : f ≠ 0) : l = [] := by
 unfold mWrite at h
 split at h
 ·split at h
  ·rename_i h0; rw [h] at h0; exact absurd h0 hf
  ·injection h with h _; exact h.symm
 ·injection h with h _; exact h.symm
set_option maxRecDepth 20000 in
set_option maxHeartbeats 12800000 in
theorem manifestBack_any (D : MDoc) (cs : List Value) (w : World) (hL : MLibs w.heap.size w) (hD : RdDoc w D cs) (hwD : dcW D ≤ 1048576) :
  Calls Tryz.prog 9 #[.agg cs.toArray] w fun e w' => e = .returned (.bool true) ∧ Below w.heap.size w w' := by
 have hcl := box hD.len
 have hmb := dc_mb hwD
 have hdig := hD.dig
 have hto := box (fun w' (hb : Below w.heap.size w w') => To_any D cs w' (hD.on hb) hmb)
 have hpw := box (fun (ca : List Value) (w' : World) (hb : Below w.heap.size w w') h => pwrite_any D ca w' ((hL.on hb).up hb.size) h hwD)
 have hbw := dcW_bare D
 have hwB : dcW (mBare D) ≤ 1048576 := by omega
 have hpb := box (fun (ca : List Value) (w' : World) (hb : Below w.heap.size w w') h => pwrite_any (mBare D) ca w' ((hL.on hb).up hb.size) h hwB)
 have hmbB := box (dc_mb hwB)
 have hrb := box (fun (w' : World) (hb : Below w.heap.size w w') => rdbare_any D cs w' (hD.on hb))
 clear hD hwD hmb hbw hwB
 obtain ⟨⟨l, f⟩, hR⟩ : ∃ R, R = mWrite D := ⟨_, rfl⟩
 rw [← hR] at hpw
 have hF0 := Fr.nil w
 by_cases hf : f = 0
 ·subst hf
  obtain ⟨hrt, hjw, hjp, hmp⟩ := mBack hdig hR.symm
  have hll : l.length ≤ 65536 := by
   unfold jWrite at hjw
   split at hjw
   ·injection hjw with h1 h2; subst h1; simp
   ·split at hjw
    ·injection hjw with h1 h2; subst h1; simp
    ·injection hjw with h1 h2; subst h1; omega
  have hwb := mWrite_bare hrt
  rw [← hR] at hwb
  rw [hwb] at hpb
  have hps := box (fun (A : Option Addr) (n c : Nat) (w' : World) (hb : Below w.heap.size w w') (hnc : n ≤ c) (hn : n ≤ 140737488355328) h => mparse_any A n c l w' ((hL.on hb).up hb.size) hnc hn h)
  rw [hmp] at hps
  clear hjw hjp hmp hwb hdig hrt
  replace hR := box hR
  obtain ⟨BD, hBD⟩ : ∃ BD, BD = mBare D := ⟨_, rfl⟩
  rw [← hBD] at hps hpb hrb hmbB
  replace hBD := box hBD
  go_enter Tryz.func9, Tryz.ntmps9
  go_wp2_with (first | ((with_reducible refine lsx (wp_fbox hF0 (cs := cs) rfl (by with_unfolding_all rfl) (by with_unfolding_all rfl) ?_)); intro w1 g1 hF1 hz1) | (with_reducible refine lsx (wp_fldA0 hF1 Tryz.underlying40 rfl (by with_unfolding_all exact ⟨_, rfl, rfl⟩) (ds := cs) (by rw [hcl.out]; kernel_rfl) (take_all _) ?_)))
  refine (hto.out _ hF1.below).mono ?_
  rintro e w2 ⟨cs2, es2, rfl, hvd2, h2⟩
  have hF2 := hF1.joinR h2
  simp only [List.cons_append] at hF2
  have hrd2 := hvd2.rdDoc hF2 (by intro e he; simp [he])
  clear hto h2 hF1 hF0 hvd2
  go_wp2_with fail
  refine (hpw.out cs2 _ hF2.below hrd2).mono ?_
  rintro e w3 ⟨A3, n3, c3, rfl, hn3, hc3, h3⟩
  have hF3 := hF2.joinR h3
  simp only [List.cons_append] at hF3
  simp only [] at hn3
  subst hn3
  clear hpw h3 hF2 hrd2
  go_upto_region 2 with fail
  have haw := box (mawake_any w3 w.heap.size hF3.below.size (hL.on hF3.below))
  go_wp2_with fail
  refine haw.out.mono ?_
  rintro e w4 ⟨rfl, hb4⟩
  have hF4 := hF3.call hb4
  have hr4 : Rd w4 (· < w4.heap.size) A3 1 l.length (l.map bv) := hF4.rdM (by simp)
  clear haw hF3
  go_upto_region 4 with fail
  have hpp := box (hps.out A3 l.length c3 w4 hF4.below hc3 (by omega) hr4)
  go_wp2_with fail
  refine hpp.out.mono ?_
  rintro e w5 ⟨cs5, es5, rfl, hD5, h5⟩
  have hF5 := hF4.joinR h5
  simp only [List.cons_append] at hF5
  have hvl5 := box hD5.len
  have hvo5 := box hD5.ones
  have hD5' : VDoc BD cs5 es5 := hD5
  replace hD5 := box hD5'
  clear hps hpp h5 hF4 hr4 hD5'
  go_upto_region 5 with (first | ((with_reducible refine lsx (wp_falloc hF5 (cs := doc0) (z := .agg (List.toArray (doc0))) rfl (by kernel_rfl) (by with_unfolding_all rfl) ?_)); intro w6 g6 hF6 hz6) | ((with_reducible refine lsx (wp_fstA0 hF6 (by with_unfolding_all exact ⟨_, _, rfl, rfl, rfl⟩) (by rw [hvl5.out]; kernel_rfl) hvo5.out (by rw [hvl5.out]; decide) (spl_all (by rw [hvl5.out, doc0_len])) ?_)); intro w7 hF7 hz7))
  have hrd7 := hD5.out.rdDoc hF7 (by intro e he; simp [he])
  clear hF5 hF6
  go_wp2_with (first | (with_reducible refine lsx (wp_fldA0 hF7 Tryz.underlying31 rfl (by with_unfolding_all exact ⟨_, rfl, rfl⟩) (ds := cs5) (by rw [hvl5.out]; kernel_rfl) (take_all _) ?_)))
  refine (hpb.out cs5 _ hF7.below hrd7).mono ?_
  rintro e w8 ⟨A8, n8, c8, rfl, hn8, hc8, h8⟩
  have hF8 := hF7.joinR h8
  simp only [List.cons_append] at hF8
  simp only [] at hn8
  subst hn8
  clear hpb h8 hF7 hrd7
  go_upto_region 6 with fail
  have hfr1 := box (fun (w' : World) (es' : List Ent) (hF : Fr [] w w' es') (hs : ∀ e ∈ es5, e ∈ es') => From_any BD cs5 w' (hD5.out.rdDoc hF hs) hmbB.out)
  have hsb := box (fun (w' : World) hr1 hr2 => sameB_self A3 A8 l.length l.length c3 c8 l w' (by omega) hr1 hr2)
  have hFd := hF8.drew
  clear hF8
  refine wp_region_held (S := fun w' => w'.heap[g6]? = some (.cells (List.toArray cs5) 31 (0, 0)) ∧ w'.heap[g1]? = some (.cells (List.toArray cs) 40 (0, 0))) (by kernel_rfl) ?_
  change wpAnyH _ _ _ _ _ _ _ _ (World.drew _)
  refine tkp 0 ⟨hFd.blk (i := 0) rfl, hFd.blk (i := 1) rfl⟩ ?_
  (try simp only [zP, zQ, zS, zZ, zN])
  refine tkp 1 ⟨hFd.blk (i := 0) rfl, hFd.blk (i := 1) rfl⟩ ?_
  (try simp only [zP, zQ, zS, zZ, zN])
  refine tkp 2 ⟨hFd.blk (i := 0) rfl, hFd.blk (i := 1) rfl⟩ ?_
  (try simp only [zP, zQ, zS, zZ, zN])
  refine tkp 3 ⟨hFd.blk (i := 0) rfl, hFd.blk (i := 1) rfl⟩ ?_
  (try simp only [zP, zQ, zS, zZ, zN])
  refine tkp 4 ⟨hFd.blk (i := 0) rfl, hFd.blk (i := 1) rfl⟩ ?_
  (try simp only [zP, zQ, zS, zZ, zN])
  refine tkp 5 ⟨hFd.blk (i := 0) rfl, hFd.blk (i := 1) rfl⟩ ?_
  (try simp only [zP, zQ, zS, zZ, zN])
  refine tkp 6 ⟨hFd.blk (i := 0) rfl, hFd.blk (i := 1) rfl⟩ ?_
  (try simp only [zP, zQ, zS, zZ, zN])
  refine tky 7 (y := yi_fldA (by with_unfolding_all rfl) (fun _ h => h.1) Tryz.underlying31 rfl (by with_unfolding_all exact ⟨_, rfl, rfl⟩) (ds := cs5) (by rw [hvl5.out]; kernel_rfl) (take_all _)) (s := ⟨hFd.blk (i := 0) rfl, hFd.blk (i := 1) rfl⟩) (h := ?_)
  (try simp only [zP, zQ, zS, zZ, zN])
  refine tky 9 (y := yi_fldA (by with_unfolding_all rfl) (fun _ h => h.2) Tryz.underlying40 rfl (by with_unfolding_all exact ⟨_, rfl, rfl⟩) (ds := cs) (by rw [hcl.out]; kernel_rfl) (take_all _)) (s := ⟨hFd.blk (i := 0) rfl, hFd.blk (i := 1) rfl⟩) (h := ?_)
  (try simp only [zP, zQ, zS, zZ, zN])
  refine rdy1 8 (fun K hK => ?_)
  refine stp (by with_unfolding_all rfl) (wp_call Tryz.func15 rfl (by with_unfolding_all rfl) (by with_unfolding_all rfl) (by with_unfolding_all rfl) (hfr1.out _ _ hFd (by intro e he; simp [he])) ?_)
  rintro e w31 ⟨cs31, es31, rfl, hvt31, hv31⟩
  refine ⟨_, rfl, ?_⟩
  have hF31 := hFd.joinR hv31
  simp only [List.cons_append] at hF31
  refine hK.out _ _ (⟨hF31.blk (i := 0) rfl, hF31.blk (i := 1) rfl⟩) (fun _ => ?_)
  clear hK K
  (try simp only [zP, zQ, zS, zZ, zN])
  refine rdy1 10 (fun K hK => ?_)
  refine stp (by with_unfolding_all rfl) (wp_call Tryz.func22 rfl (by with_unfolding_all rfl) (by with_unfolding_all rfl) (by with_unfolding_all rfl) (hrb.out _ hF31.below) ?_)
  rintro e w32 ⟨cs32, rfl, hrd32, hb32⟩
  refine ⟨_, rfl, ?_⟩
  have hF32 := hF31.call hb32
  refine hK.out _ _ (⟨hF32.blk (i := 0) rfl, hF32.blk (i := 1) rfl⟩) (fun _ => ?_)
  clear hK K
  (try simp only [zP, zQ, zS, zZ, zN])
  refine rdy1 11 (fun K hK => ?_)
  refine stp (by with_unfolding_all rfl) (wp_call Tryz.func14 rfl (by with_unfolding_all rfl) (by with_unfolding_all rfl) (by with_unfolding_all rfl) (msame_any BD _ _ _ hmbB.out (hvt31.rdDoc hF32 (by intro e he; simp [he])) hrd32) ?_)
  rintro e w33 ⟨rfl, hb33⟩
  refine ⟨_, rfl, ?_⟩
  have hF33 := hF32.call hb33
  refine hK.out _ _ (⟨hF33.blk (i := 0) rfl, hF33.blk (i := 1) rfl⟩) (fun _ => ?_)
  clear hK K
  (try simp only [zP, zQ, zS, zZ, zN])
  refine tkp 12 ⟨hF33.blk (i := 0) rfl, hF33.blk (i := 1) rfl⟩ ?_
  (try simp only [zP, zQ, zS, zZ, zN])
  refine tkp 13 ⟨hF33.blk (i := 0) rfl, hF33.blk (i := 1) rfl⟩ ?_
  (try simp only [zP, zQ, zS, zZ, zN])
  refine tkp 14 ⟨hF33.blk (i := 0) rfl, hF33.blk (i := 1) rfl⟩ ?_
  (try simp only [zP, zQ, zS, zZ, zN])
  refine tkp 15 ⟨hF33.blk (i := 0) rfl, hF33.blk (i := 1) rfl⟩ ?_
  (try simp only [zP, zQ, zS, zZ, zN])
  refine rdy1 16 (fun K hK => ?_)
  refine stp (by with_unfolding_all rfl) (wp_call Tryz.func16 rfl (by with_unfolding_all rfl) (by with_unfolding_all rfl) (by with_unfolding_all rfl) (hsb.out _ (hF33.rdM (by simp)) (hF33.rdM (by simp))) ?_)
  rintro e w34 ⟨rfl, hb34⟩
  refine ⟨_, rfl, ?_⟩
  have hF34 := hF33.call hb34
  refine hK.out _ _ (⟨hF34.blk (i := 0) rfl, hF34.blk (i := 1) rfl⟩) (fun _ => ?_)
  clear hK K
  (try simp only [zP, zQ, zS, zZ, zN])
  refine tkp 17 ⟨hF34.blk (i := 0) rfl, hF34.blk (i := 1) rfl⟩ ?_
  (try simp only [zP, zQ, zS, zZ, zN])
  refine tkp 18 ⟨hF34.blk (i := 0) rfl, hF34.blk (i := 1) rfl⟩ ?_
  (try simp only [zP, zQ, zS, zZ])
  refine wpAnyH_done (by kernel_rfl) ?_ _
  go_wp2_with fail
  go_ret
  exact ⟨rfl, hF34.below⟩
 ·have hl0 := mWrite_bad hR.symm hf
  subst hl0
  have hne : ((f : Int) != 0) = true := by rw [bne_iff_ne]; omega
  replace hf := box hf
  replace hR := box hR
  clear hdig hpb hrb
  go_enter Tryz.func9, Tryz.ntmps9
  go_wp2_with (first | ((with_reducible refine lsx (wp_fbox hF0 (cs := cs) rfl (by with_unfolding_all rfl) (by with_unfolding_all rfl) ?_)); intro w1 g1 hF1 hz1) | (with_reducible refine lsx (wp_fldA0 hF1 Tryz.underlying40 rfl (by with_unfolding_all exact ⟨_, rfl, rfl⟩) (ds := cs) (by rw [hcl.out]; kernel_rfl) (take_all _) ?_)))
  refine (hto.out _ hF1.below).mono ?_
  rintro e w2 ⟨cs2, es2, rfl, hvd2, h2⟩
  have hF2 := hF1.joinR h2
  simp only [List.cons_append] at hF2
  have hrd2 := hvd2.rdDoc hF2 (by intro e he; simp [he])
  clear hto h2 hF1 hF0 hvd2
  go_wp2_with fail
  refine (hpw.out cs2 _ hF2.below hrd2).mono ?_
  rintro e w3 ⟨A3, n3, c3, rfl, hn3, hc3, h3⟩
  have hF3 := hF2.joinR h3
  simp only [List.cons_append] at hF3
  simp only [List.length_nil] at hn3
  subst hn3
  clear hpw h3 hF2 hrd2
  go_upto_region 2 with fail
  have haw := box (mawake_any w3 w.heap.size hF3.below.size (hL.on hF3.below))
  go_wp2_with fail
  refine haw.out.mono ?_
  rintro e w4 ⟨rfl, hb4⟩
  have hF4 := hF3.call hb4
  clear haw hF3
  go_upto_region 3 with fail
  have haw := box (mawake_any w4 w.heap.size hF4.below.size (hL.on hF4.below))
  go_wp2_with fail
  refine haw.out.mono ?_
  rintro e w5 ⟨rfl, hb5⟩
  have hF5 := hF4.call hb5
  go_wp2_with fail
  go_ret
  exact ⟨rfl, hF5.below⟩
end Go.Proofs.YtlhicfpmlncomaaGreatDoor

namespace Go.Proofs.YtlhicfpmlncomaaGreatDoor
open Go.RowKit Go.Lib
theorem cell_old {w w' : World} (hb : Below w.heap.size w w') {a : Addr} {v : Value} (h : w.cell? a = some v) : w'.cell? a = some v := by
 have hlt : a.block < w.heap.size := by
  rcases Nat.lt_or_ge a.block w.heap.size with h' | h'
  ·exact h'
  ·exfalso
   unfold World.cell? at h
   rw [Array.getElem?_eq_none h'] at h
   cases h
 rw [← h]
 exact World.cell?_of_block (w := w) (hb.block _ hlt)
theorem var_old {P : Program} {w w' : World} (hb : Below w.heap.size w w') {n : String} {cs : Array Value} (h : w.var? P n = some cs) : w'.var? P n = some cs := by
 unfold World.var? at *
 cases hg : P.globalNamed n with
 | none => simp [hg] at h
 | some g =>
  simp only [hg, Option.bind_some] at h ⊢
  have hlt : g < w.heap.size := by
   rcases Nat.lt_or_ge g w.heap.size with h' | h'
   ·exact h'
   ·rw [Array.getElem?_eq_none h'] at h; simp at h
  rw [hb.block g hlt]
  exact h
theorem first_eq : Rows.laid_unicode_utf8_first = firstData := by kernel_rfl
theorem accept_eq : (Rows.laid_unicode_utf8_acceptRanges : DataW Unit) = acceptData := by kernel_rfl
theorem pow_eq : (Rows.laid_internal_strconv_uint64pow10 : DataW Unit) = tabData .u64 pow10Tab := by kernel_rfl
theorem star_errs : "*" ++ "errors.errorString" = "*errors.errorString" := by decide
theorem row_errs (u : TypeId) (h : Tryz.prog.typeName? 3 u = some "*errors.errorString") : u = 254 :=
 typeName_ptr_named (nm := "errors.errorString") (by rw [star_errs]; kernel_rfl) (by kernel_rfl) (by decide) u (by rw [star_errs]; exact h)
theorem row_ints : Tryz.prog.globalNamed "errors.errorType" = some 0 := by kernel_rfl
theorem row_rt : (Tryz.prog.cutTypes.find? (·.1 == "internal/reflectlite.rtype")).map (·.2) = some 177 := by kernel_rfl
theorem row_err : ((List.range Tryz.prog.types.size).filter fun t => Tryz.prog.rowNamed t [101, 114, 114, 111, 114]) = [80] := by kernel_rfl
theorem row_handle : typeHandle Tryz.prog 80 = .pointer (some ⟨9, 80, none⟩) := by kernel_rfl
/-- The listed variables that are no handles. -/
def mPlain : List (String × DataW Unit) := [("math/bits.deBruijn32tab", Rows.laid_math_bits_deBruijn32tab), ("math/bits.deBruijn64tab", Rows.laid_math_bits_deBruijn64tab), ("internal/strconv.uint64pow10", Rows.laid_internal_strconv_uint64pow10), ("unicode/utf8.acceptRanges", Rows.laid_unicode_utf8_acceptRanges), ("strconv.ErrRange", Rows.laid_strconv_ErrRange), ("strconv.ErrSyntax", Rows.laid_strconv_ErrSyntax), ("unicode/utf8.first", Rows.laid_unicode_utf8_first)]
theorem laid_both (W : World) (h : laidMetH Tryz.prog Rows.manifestReadsUptoRow.laid W) : laidMet Tryz.prog mPlain W ∧ handlesMet Tryz.prog [("errors.errorType", Rows.laid_errors_errorType)] W := h
theorem handle_of (W : World) (h : handlesMet Tryz.prog [("errors.errorType", Rows.laid_errors_errorType)] W) : W.cell? ⟨0, 0, none⟩ = some (.iface 177 (.agg #[.pointer (some ⟨9, 80, none⟩)])) := by
 obtain ⟨name, u, ty, e1, e2, e3, e4, e5⟩ := h _ (List.mem_singleton.2 rfl)
 have en : name = [101, 114, 114, 111, 114] := (Option.some.inj e1).symm
 subst en
 obtain rfl := Option.some.inj (row_rt.symm.trans e2)
 have hm : ty ∈ (List.range Tryz.prog.types.size).filter fun t => Tryz.prog.rowNamed t [101, 114, 114, 111, 114] := List.mem_filter.2 ⟨List.mem_range.2 e3, e4⟩
 rw [row_err] at hm
 obtain rfl := List.mem_singleton.1 hm
 rw [row_handle] at e5
 simpa using World.var?_cell row_ints e5 0
theorem maxW_of {w : World} (h : w.ShapedOpen Tryz.prog) : MaxW w := Go.Proofs.cell_of_shapedOpen_int (zero := #[.int .i64 0]) (t := 3) h (of_decide_eq_true (by kernel_rfl)) (by kernel_rfl) rfl (by kernel_rfl) (by kernel_rfl) Tryz.underlying3
theorem libs_of (W : World) (hL : laidMet Tryz.prog mPlain W) : LibsAt W.heap.size W := by
 have hL2 : laidMet Tryz.prog [("math/bits.deBruijn32tab", Rows.laid_math_bits_deBruijn32tab), ("math/bits.deBruijn64tab", Rows.laid_math_bits_deBruijn64tab), ("internal/strconv.uint64pow10", Rows.laid_internal_strconv_uint64pow10), ("unicode/utf8.acceptRanges", Rows.laid_unicode_utf8_acceptRanges), ("strconv.ErrRange", Rows.laid_strconv_ErrRange), ("strconv.ErrSyntax", Rows.laid_strconv_ErrSyntax), ("unicode/utf8.first", Rows.laid_unicode_utf8_first)] W := hL
 rw [first_eq, accept_eq, pow_eq] at hL2
 have hU : U8Tabs W := utf8Tabs_of_readsT (U8Types.of196 Tryz.laysValid) ⟨by kernel_rfl, by kernel_rfl, by kernel_rfl, by kernel_rfl, by kernel_rfl, by kernel_rfl, by kernel_rfl⟩ (laidMet.reads hL2 (by simp)) (laidMet.reads hL2 (by simp))
 have hP : TabIs Tryz.prog W "internal/strconv.uint64pow10" .u64 pow10Tab := tabIs_of_head (g := 6) (by kernel_rfl) (by kernel_rfl) (t := 249) Tryz.underlying249 Tryz.underlying224 (by kernel_rfl) (by kernel_rfl) hL2.tail.tail
 obtain ⟨a1, s1, hv1, _⟩ := laid_sentinel (g := 5) hL2.tail.tail.tail.tail (by kernel_rfl) (by kernel_rfl) Tryz.underlying80 row_errs Tryz.underlying254 Tryz.underlying256 rfl rfl Tryz.underlying9 (by kernel_rfl) (by kernel_rfl)
 obtain ⟨a2, s2, hv2, _⟩ := laid_sentinel (g := 4) hL2.tail.tail.tail.tail.tail (by kernel_rfl) (by kernel_rfl) Tryz.underlying80 row_errs Tryz.underlying254 Tryz.underlying256 rfl rfl Tryz.underlying9 (by kernel_rfl) (by kernel_rfl)
 exact ⟨fun w' hb => ⟨fun c hc => cell_old hb (hU.1 c hc), fun i hi => ⟨cell_old hb (hU.2 i hi).1, cell_old hb (hU.2 i hi).2⟩⟩, tabBelow_of_tabIs hP, ⟨_, _, fun w' hb => var_old hb hv2⟩, ⟨_, _, fun w' hb => var_old hb hv1⟩⟩
/-- What the walks ask for. -/
theorem mlibs_of (W : World) (hs : W.ShapedOpen Tryz.prog) (h : laidMetH Tryz.prog Rows.manifestReadsUptoRow.laid W) : MLibs W.heap.size W := by
 obtain ⟨h1, h2⟩ := laid_both W h
 exact ⟨libs_of W h1, fun w' hb => by
  obtain ⟨m, hm⟩ := maxW_of hs
  exact ⟨m, cell_old hb hm⟩, fun w' hb => cell_old hb (handle_of W h2)⟩
/-- A world that meets the condition: the handle, then the plain data laid. -/
noncomputable def mWorld0 (os : Os) : World :=
 let w0 := World.holding Tryz.prog os ⟨#[], #[], []⟩
 { w0 with heap := w0.heap.modify 0 fun
   | .cells _ t frozen => .cells #[.iface 177 (.agg #[.pointer (some ⟨9, 80, none⟩)])] t frozen
   | o => o }
noncomputable def mWorld (os : Os) : World := (mWorld0 os).layVars Tryz.prog mPlain
theorem mWorld_plain (os : Os) : laidMet Tryz.prog mPlain (mWorld os) := by
 have e1 : (mPlain.filter fun x => (mPlain.map (·.1)).contains x.1) = mPlain := List.filter_eq_self.2 fun x hx => List.contains_iff_mem.2 (List.mem_map.2 ⟨x, hx, rfl⟩)
 have e2 : (mPlain.filter fun x => !(mPlain.map (·.1)).contains x.1) = [] := List.filter_eq_nil_iff.2 fun x hx => by rw [List.contains_iff_mem.2 (List.mem_map.2 ⟨x, hx, rfl⟩)]; simp
 exact laidMet_layVars (w0 := mWorld0 os) (mPlain.map (·.1)) [] (by rw [e1]; rfl) (by rw [e1]; kernel_rfl) (by rw [e1]; kernel_rfl) (by rw [e2]; exact LaidIn.none)
theorem mWorld_met (os : Os) (args : Array Value) : laidMetH Tryz.prog Rows.manifestReadsUptoRow.laid ((mWorld os).forCall (fun _ _ => 0) ⟨#[], args, []⟩).memory :=
 laidMetH_of_parts (show laidMet Tryz.prog mPlain _ from (mWorld_plain os).of_heap (by simp [World.memory, World.forCall, Input.heap])) (by kernel_rfl)
theorem mWorld_os (os : Os) : (mWorld os).os = os := World.layVars_os _ _ _
end Go.Proofs.YtlhicfpmlncomaaGreatDoor
