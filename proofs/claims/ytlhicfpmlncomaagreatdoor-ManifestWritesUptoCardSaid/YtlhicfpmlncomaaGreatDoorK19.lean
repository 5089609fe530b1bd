/-
 Layer 8: the program's right, walked.
-/
import Derived.Test.YtlhicfpmlncomaaGreatDoorK18
import Derived.Test.YtlhicfpmlncomaaGreatDoorK02
import Derived.Test.YtlhicfpmlncomaaGreatDoorK00
set_option linter.unusedSimpArgs false
set_option linter.unusedVariables false
namespace Go.Proofs.YtlhicfpmlncomaaGreatDoor
open Go.RowKit
set_option maxRecDepth 20000 in
set_option maxHeartbeats 25600000 in
theorem pright_any (D : MDoc) (cs : List Value) (w : World) (hL : MLibs w.heap.size w) (hDD : RdDoc w D cs) (hsm : DcSm D) :
  Calls Tryz.prog 56 #[.agg cs.toArray] w fun e w' => e = .returned (.bool (decide (mRight D))) ∧ Below w.heap.size w w' := by
 obtain ⟨cf, eg, sj, nt, hC0, ⟨Ae, ne, ce, xe, hnce, hne', rfl, hre0, hEd0⟩, hS0, ⟨An, nn, cn, hnn, hnn', rfl, hrn0⟩, rfl⟩ := hDD
 obtain ⟨hsm1, hsm2, hsC', ⟨hsE0, hsE'⟩, hsS', hsN⟩ := hsm
 have hcl := box hC0.len
 have hsl := box hS0.len
 have hre := box hre0
 have hCd := box (fun w' (hb : Below w.heap.size w w') => hC0.on hb)
 have hSd := box (fun w' (hb : Below w.heap.size w w') => hS0.on hb)
 obtain ⟨eds, hDe'⟩ : ∃ eds, D.edges = eds := ⟨_, rfl⟩
 rw [hDe'] at hne' hEd0 hsE'
 have hDe := box hDe'
 have hEd := box hEd0
 have hne := box hne'
 have hsC := box hsC'
 have hsS := box hsS'
 have hsE := box hsE'
 have hnr := box (fun w' (hb : Below w.heap.size w w') => prightN_any D.notes An nn cn w' ((hL.on hb).up hb.size) hnn (hrn0.on hb) hnn' hsN)
 obtain ⟨m, hDm'⟩ : ∃ m, D.media = m := ⟨_, rfl⟩
 obtain ⟨ty, hDt'⟩ : ∃ ty, D.type = ty := ⟨_, rfl⟩
 obtain ⟨hs, hDh'⟩ : ∃ hs, D.has = hs := ⟨_, rfl⟩
 rw [hDm', hDt', hDh']
 rw [hDt'] at hsm2
 have hDm := box hDm'
 have hDt := box hDt'
 have hDh := box hDh'
 have hmed := box (fun w' (hb : Below w.heap.size w w') => media_any ⟨ty.toArray⟩ w' ((hL.on hb).m.now) (by rw [← str_len]; exact Nat.lt_of_le_of_lt hsm2 (by decide)))
 rw [show (⟨ty.toArray⟩ : ByteArray).data.toList = ty from rfl] at hmed
 clear hC0 hS0 hre0 hEd0 hne' hsC' hsS' hsE' hrn0 hnn' hsN hDe' hDm' hDt' hDh' hsm1 hsm2 hsE0
 have hF0 := Fr.nil w
 go_enter Tryz.func56, Tryz.ntmps56
 go_step
 go_step
 (try simp only [zP, zQ, zS, zZ, zN])
 go_cut [1] (fun u1 wx => ∃ g1, u1 = .pointer (some ⟨g1, 0, none⟩) ∧ Fr [] w wx [.blk g1 31 (docL m ty cf (.slice Ae ne ce) sj hs (.slice An nn cn))])
 case first =>
  go_wp2_with (first | ((with_reducible refine lsx (wp_fbox hF0 (cs := (docL m ty cf (.slice Ae ne ce) sj hs (.slice An nn cn))) rfl (by with_unfolding_all rfl) (by with_unfolding_all rfl) ?_)); intro w1 g1 hF1 hz1))
  go_meet
  exact ⟨g1, rfl, hF1⟩
 case rest =>
  obtain ⟨g1, rfl, hF1⟩ := hcut
  clear hF0
  go_step
  go_step
  (try simp only [zP, zQ, zS, zZ, zN])
  go_cut [] (fun wx => ((D.media = sImage ∨ D.media = sIndex) ∧ (D.type = [] ∨ mediaB D.type = true) ∧ D.edges.length ≤ 64 ∧ mRightN D.notes) ∧ Fr [] w wx [.blk g1 31 (docL m ty cf (.slice Ae ne ce) sj hs (.slice An nn cn))])
  case first =>
   by_cases hi : m = sImage
   ·skip
    have hA : Box (D.media = sImage) := box (by rw [hDm.out]; exact hi)
    have a1 : (m == [97, 112, 112, 108, 105, 99, 97, 116, 105, 111, 110, 47, 118, 110, 100, 46, 111, 99, 105, 46, 105, 109, 97, 103, 101, 46, 109, 97, 110, 105, 102, 101, 115, 116, 46, 118, 49, 43, 106, 115, 111, 110]) = true := by rw [beq_iff_eq]; exact hi
    have a2 : (m != [97, 112, 112, 108, 105, 99, 97, 116, 105, 111, 110, 47, 118, 110, 100, 46, 111, 99, 105, 46, 105, 109, 97, 103, 101, 46, 109, 97, 110, 105, 102, 101, 115, 116, 46, 118, 49, 43, 106, 115, 111, 110]) = false := by rw [bne, a1]; rfl
    have b1 : (m == [97, 112, 112, 108, 105, 99, 97, 116, 105, 111, 110, 47, 118, 110, 100, 46, 111, 99, 105, 46, 105, 109, 97, 103, 101, 46, 105, 110, 100, 101, 120, 46, 118, 49, 43, 106, 115, 111, 110]) = false := by rw [beq_eq_false_iff_ne]; exact (fun h => sImage_ne (hi.symm.trans h))
    have b2 : (m != [97, 112, 112, 108, 105, 99, 97, 116, 105, 111, 110, 47, 118, 110, 100, 46, 111, 99, 105, 46, 105, 109, 97, 103, 101, 46, 105, 110, 100, 101, 120, 46, 118, 49, 43, 106, 115, 111, 110]) = true := by rw [bne, b1]; rfl
    replace hi := box hi
    by_cases ht : ty = []
    ·skip
     have t1 : (ty == []) = true := by rw [beq_iff_eq]; exact ht
     have t2 : (ty != []) = false := by rw [bne, t1]; rfl
     have hB : Box (D.type = [] ∨ mediaB D.type = true) := box (.inl (by rw [hDt.out]; exact ht))
     replace ht := box ht
     by_cases he : 64 < ne
     ·have e64 : decide ((64 : Int) < (ne : Int)) = true := decide_eq_true (by omega)
      have hres : Box (decide (mRight D) = false) := box (decide_eq_false (fun h => by have h3 := h.2.2.1; rw [hDe.out, ← hne.out] at h3; omega))
      replace he := box he
      go_wp2_with (first | (with_reducible refine lsx (wp_fld0 hF1 uq9 rfl (by with_unfolding_all exact ⟨_, rfl, rfl⟩) docL_m0 ?_)) | (with_reducible refine lsx (wp_fld0 hF1 uq9 rfl (by with_unfolding_all exact ⟨_, rfl, rfl⟩) docL_t0 ?_)) | (with_reducible refine lsx (wp_fld0 hF1 uq29 rfl (by with_unfolding_all exact ⟨_, rfl, rfl⟩) (docL_eg hcl.out) ?_)) | (with_reducible refine lsx (wp_fld0 hF1 uq26 rfl (by with_unfolding_all exact ⟨_, rfl, rfl⟩) (docL_nt hcl.out hsl.out) ?_)))
      go_ret
      exact ⟨by rw [hres.out]; rfl, hF1.below⟩
     have e64 : decide ((64 : Int) < (ne : Int)) = false := decide_eq_false (by omega)
     have hC : Box (D.edges.length ≤ 64) := box (by rw [hDe.out, ← hne.out]; omega)
     have hne64 : ne ≤ 64 := by omega
     replace he := box he
     cases hq : decide (mRightN D.notes) with
     | false =>
      have hres : Box (decide (mRight D) = false) := box (decide_eq_false (fun h => (of_decide_eq_false hq) h.2.2.2.1))
      rw [hq] at hnr
      clear hq
      go_wp2_with (first | (with_reducible refine lsx (wp_fld0 hF1 uq9 rfl (by with_unfolding_all exact ⟨_, rfl, rfl⟩) docL_m0 ?_)) | (with_reducible refine lsx (wp_fld0 hF1 uq9 rfl (by with_unfolding_all exact ⟨_, rfl, rfl⟩) docL_t0 ?_)) | (with_reducible refine lsx (wp_fld0 hF1 uq29 rfl (by with_unfolding_all exact ⟨_, rfl, rfl⟩) (docL_eg hcl.out) ?_)) | (with_reducible refine lsx (wp_fld0 hF1 uq26 rfl (by with_unfolding_all exact ⟨_, rfl, rfl⟩) (docL_nt hcl.out hsl.out) ?_)))
      refine (hnr.out _ hF1.below).mono ?_
      rintro e w2 ⟨rfl, hb2⟩
      have hF2 := hF1.call hb2
      go_wp2_with fail
      go_ret
      exact ⟨by rw [hres.out]; rfl, hF2.below⟩
     | true =>
      have hN := box (of_decide_eq_true hq)
      rw [hq] at hnr
      clear hq
      go_wp2_with (first | (with_reducible refine lsx (wp_fld0 hF1 uq9 rfl (by with_unfolding_all exact ⟨_, rfl, rfl⟩) docL_m0 ?_)) | (with_reducible refine lsx (wp_fld0 hF1 uq9 rfl (by with_unfolding_all exact ⟨_, rfl, rfl⟩) docL_t0 ?_)) | (with_reducible refine lsx (wp_fld0 hF1 uq29 rfl (by with_unfolding_all exact ⟨_, rfl, rfl⟩) (docL_eg hcl.out) ?_)) | (with_reducible refine lsx (wp_fld0 hF1 uq26 rfl (by with_unfolding_all exact ⟨_, rfl, rfl⟩) (docL_nt hcl.out hsl.out) ?_)))
      refine (hnr.out _ hF1.below).mono ?_
      rintro e w2 ⟨rfl, hb2⟩
      have hF2 := hF1.call hb2
      clear hF1 hb2
      go_wp2_with fail
      go_meet
      exact ⟨⟨.inl hA.out, hB.out, hC.out, hN.out⟩, hF2⟩
    have t1 : (ty == []) = false := by rw [beq_eq_false_iff_ne]; exact ht
    have t2 : (ty != []) = true := by rw [bne, t1]; rfl
    cases hm : mediaB ty with
    | true =>
     have hB : Box (D.type = [] ∨ mediaB D.type = true) := box (.inr (by rw [hDt.out]; exact hm))
     rw [hm] at hmed
     replace hm := box hm
     replace ht := box ht
     by_cases he : 64 < ne
     ·have e64 : decide ((64 : Int) < (ne : Int)) = true := decide_eq_true (by omega)
      have hres : Box (decide (mRight D) = false) := box (decide_eq_false (fun h => by have h3 := h.2.2.1; rw [hDe.out, ← hne.out] at h3; omega))
      replace he := box he
      go_wp2_with (first | (with_reducible refine lsx (wp_fld0 hF1 uq9 rfl (by with_unfolding_all exact ⟨_, rfl, rfl⟩) docL_m0 ?_)) | (with_reducible refine lsx (wp_fld0 hF1 uq9 rfl (by with_unfolding_all exact ⟨_, rfl, rfl⟩) docL_t0 ?_)) | (with_reducible refine lsx (wp_fld0 hF1 uq29 rfl (by with_unfolding_all exact ⟨_, rfl, rfl⟩) (docL_eg hcl.out) ?_)) | (with_reducible refine lsx (wp_fld0 hF1 uq26 rfl (by with_unfolding_all exact ⟨_, rfl, rfl⟩) (docL_nt hcl.out hsl.out) ?_)))
      refine (hmed.out _ hF1.below).mono ?_
      rintro e w2 ⟨rfl, hb2m⟩
      have hFm := hF1.call hb2m
      go_wp2_with (first | (with_reducible refine lsx (wp_fld0 hFm uq9 rfl (by with_unfolding_all exact ⟨_, rfl, rfl⟩) docL_m0 ?_)) | (with_reducible refine lsx (wp_fld0 hFm uq9 rfl (by with_unfolding_all exact ⟨_, rfl, rfl⟩) docL_t0 ?_)) | (with_reducible refine lsx (wp_fld0 hFm uq29 rfl (by with_unfolding_all exact ⟨_, rfl, rfl⟩) (docL_eg hcl.out) ?_)) | (with_reducible refine lsx (wp_fld0 hFm uq26 rfl (by with_unfolding_all exact ⟨_, rfl, rfl⟩) (docL_nt hcl.out hsl.out) ?_)))
      go_ret
      exact ⟨by rw [hres.out]; rfl, hFm.below⟩
     have e64 : decide ((64 : Int) < (ne : Int)) = false := decide_eq_false (by omega)
     have hC : Box (D.edges.length ≤ 64) := box (by rw [hDe.out, ← hne.out]; omega)
     have hne64 : ne ≤ 64 := by omega
     replace he := box he
     cases hq : decide (mRightN D.notes) with
     | false =>
      have hres : Box (decide (mRight D) = false) := box (decide_eq_false (fun h => (of_decide_eq_false hq) h.2.2.2.1))
      rw [hq] at hnr
      clear hq
      go_wp2_with (first | (with_reducible refine lsx (wp_fld0 hF1 uq9 rfl (by with_unfolding_all exact ⟨_, rfl, rfl⟩) docL_m0 ?_)) | (with_reducible refine lsx (wp_fld0 hF1 uq9 rfl (by with_unfolding_all exact ⟨_, rfl, rfl⟩) docL_t0 ?_)) | (with_reducible refine lsx (wp_fld0 hF1 uq29 rfl (by with_unfolding_all exact ⟨_, rfl, rfl⟩) (docL_eg hcl.out) ?_)) | (with_reducible refine lsx (wp_fld0 hF1 uq26 rfl (by with_unfolding_all exact ⟨_, rfl, rfl⟩) (docL_nt hcl.out hsl.out) ?_)))
      refine (hmed.out _ hF1.below).mono ?_
      rintro e w2 ⟨rfl, hb2m⟩
      have hFm := hF1.call hb2m
      go_wp2_with (first | (with_reducible refine lsx (wp_fld0 hFm uq9 rfl (by with_unfolding_all exact ⟨_, rfl, rfl⟩) docL_m0 ?_)) | (with_reducible refine lsx (wp_fld0 hFm uq9 rfl (by with_unfolding_all exact ⟨_, rfl, rfl⟩) docL_t0 ?_)) | (with_reducible refine lsx (wp_fld0 hFm uq29 rfl (by with_unfolding_all exact ⟨_, rfl, rfl⟩) (docL_eg hcl.out) ?_)) | (with_reducible refine lsx (wp_fld0 hFm uq26 rfl (by with_unfolding_all exact ⟨_, rfl, rfl⟩) (docL_nt hcl.out hsl.out) ?_)))
      have hF1 := hFm
      refine (hnr.out _ hF1.below).mono ?_
      rintro e w2 ⟨rfl, hb2⟩
      have hF2 := hF1.call hb2
      go_wp2_with fail
      go_ret
      exact ⟨by rw [hres.out]; rfl, hF2.below⟩
     | true =>
      have hN := box (of_decide_eq_true hq)
      rw [hq] at hnr
      clear hq
      go_wp2_with (first | (with_reducible refine lsx (wp_fld0 hF1 uq9 rfl (by with_unfolding_all exact ⟨_, rfl, rfl⟩) docL_m0 ?_)) | (with_reducible refine lsx (wp_fld0 hF1 uq9 rfl (by with_unfolding_all exact ⟨_, rfl, rfl⟩) docL_t0 ?_)) | (with_reducible refine lsx (wp_fld0 hF1 uq29 rfl (by with_unfolding_all exact ⟨_, rfl, rfl⟩) (docL_eg hcl.out) ?_)) | (with_reducible refine lsx (wp_fld0 hF1 uq26 rfl (by with_unfolding_all exact ⟨_, rfl, rfl⟩) (docL_nt hcl.out hsl.out) ?_)))
      refine (hmed.out _ hF1.below).mono ?_
      rintro e w2 ⟨rfl, hb2m⟩
      have hFm := hF1.call hb2m
      go_wp2_with (first | (with_reducible refine lsx (wp_fld0 hFm uq9 rfl (by with_unfolding_all exact ⟨_, rfl, rfl⟩) docL_m0 ?_)) | (with_reducible refine lsx (wp_fld0 hFm uq9 rfl (by with_unfolding_all exact ⟨_, rfl, rfl⟩) docL_t0 ?_)) | (with_reducible refine lsx (wp_fld0 hFm uq29 rfl (by with_unfolding_all exact ⟨_, rfl, rfl⟩) (docL_eg hcl.out) ?_)) | (with_reducible refine lsx (wp_fld0 hFm uq26 rfl (by with_unfolding_all exact ⟨_, rfl, rfl⟩) (docL_nt hcl.out hsl.out) ?_)))
      have hF1 := hFm
      clear hFm hb2m
      refine (hnr.out _ hF1.below).mono ?_
      rintro e w2 ⟨rfl, hb2⟩
      have hF2 := hF1.call hb2
      clear hF1 hb2
      go_wp2_with fail
      go_meet
      exact ⟨⟨.inl hA.out, hB.out, hC.out, hN.out⟩, hF2⟩
    | false =>
     have hres : Box (decide (mRight D) = false) := box (decide_eq_false (fun h => by
      rcases h.2.1 with h | h
      ·exact ht (by rw [← hDt.out]; exact h)
      ·rw [hDt.out, hm] at h; cases h))
     rw [hm] at hmed
     replace hm := box hm
     replace ht := box ht
     go_wp2_with (first | (with_reducible refine lsx (wp_fld0 hF1 uq9 rfl (by with_unfolding_all exact ⟨_, rfl, rfl⟩) docL_m0 ?_)) | (with_reducible refine lsx (wp_fld0 hF1 uq9 rfl (by with_unfolding_all exact ⟨_, rfl, rfl⟩) docL_t0 ?_)) | (with_reducible refine lsx (wp_fld0 hF1 uq29 rfl (by with_unfolding_all exact ⟨_, rfl, rfl⟩) (docL_eg hcl.out) ?_)) | (with_reducible refine lsx (wp_fld0 hF1 uq26 rfl (by with_unfolding_all exact ⟨_, rfl, rfl⟩) (docL_nt hcl.out hsl.out) ?_)))
     refine (hmed.out _ hF1.below).mono ?_
     rintro e w2 ⟨rfl, hb2m⟩
     have hFm := hF1.call hb2m
     go_wp2_with (first | (with_reducible refine lsx (wp_fld0 hFm uq9 rfl (by with_unfolding_all exact ⟨_, rfl, rfl⟩) docL_m0 ?_)) | (with_reducible refine lsx (wp_fld0 hFm uq9 rfl (by with_unfolding_all exact ⟨_, rfl, rfl⟩) docL_t0 ?_)) | (with_reducible refine lsx (wp_fld0 hFm uq29 rfl (by with_unfolding_all exact ⟨_, rfl, rfl⟩) (docL_eg hcl.out) ?_)) | (with_reducible refine lsx (wp_fld0 hFm uq26 rfl (by with_unfolding_all exact ⟨_, rfl, rfl⟩) (docL_nt hcl.out hsl.out) ?_)))
     go_ret
     exact ⟨by rw [hres.out]; rfl, hFm.below⟩
   by_cases hx : m = sIndex
   ·skip
    have hA : Box (D.media = sIndex) := box (by rw [hDm.out]; exact hx)
    have a1 : (m == [97, 112, 112, 108, 105, 99, 97, 116, 105, 111, 110, 47, 118, 110, 100, 46, 111, 99, 105, 46, 105, 109, 97, 103, 101, 46, 105, 110, 100, 101, 120, 46, 118, 49, 43, 106, 115, 111, 110]) = true := by rw [beq_iff_eq]; exact hx
    have a2 : (m != [97, 112, 112, 108, 105, 99, 97, 116, 105, 111, 110, 47, 118, 110, 100, 46, 111, 99, 105, 46, 105, 109, 97, 103, 101, 46, 105, 110, 100, 101, 120, 46, 118, 49, 43, 106, 115, 111, 110]) = false := by rw [bne, a1]; rfl
    have b1 : (m == [97, 112, 112, 108, 105, 99, 97, 116, 105, 111, 110, 47, 118, 110, 100, 46, 111, 99, 105, 46, 105, 109, 97, 103, 101, 46, 109, 97, 110, 105, 102, 101, 115, 116, 46, 118, 49, 43, 106, 115, 111, 110]) = false := by rw [beq_eq_false_iff_ne]; exact hi
    have b2 : (m != [97, 112, 112, 108, 105, 99, 97, 116, 105, 111, 110, 47, 118, 110, 100, 46, 111, 99, 105, 46, 105, 109, 97, 103, 101, 46, 109, 97, 110, 105, 102, 101, 115, 116, 46, 118, 49, 43, 106, 115, 111, 110]) = true := by rw [bne, b1]; rfl
    replace hi := box hi
    replace hx := box hx
    by_cases ht : ty = []
    ·skip
     have t1 : (ty == []) = true := by rw [beq_iff_eq]; exact ht
     have t2 : (ty != []) = false := by rw [bne, t1]; rfl
     have hB : Box (D.type = [] ∨ mediaB D.type = true) := box (.inl (by rw [hDt.out]; exact ht))
     replace ht := box ht
     by_cases he : 64 < ne
     ·have e64 : decide ((64 : Int) < (ne : Int)) = true := decide_eq_true (by omega)
      have hres : Box (decide (mRight D) = false) := box (decide_eq_false (fun h => by have h3 := h.2.2.1; rw [hDe.out, ← hne.out] at h3; omega))
      replace he := box he
      go_wp2_with (first | (with_reducible refine lsx (wp_fld0 hF1 uq9 rfl (by with_unfolding_all exact ⟨_, rfl, rfl⟩) docL_m0 ?_)) | (with_reducible refine lsx (wp_fld0 hF1 uq9 rfl (by with_unfolding_all exact ⟨_, rfl, rfl⟩) docL_t0 ?_)) | (with_reducible refine lsx (wp_fld0 hF1 uq29 rfl (by with_unfolding_all exact ⟨_, rfl, rfl⟩) (docL_eg hcl.out) ?_)) | (with_reducible refine lsx (wp_fld0 hF1 uq26 rfl (by with_unfolding_all exact ⟨_, rfl, rfl⟩) (docL_nt hcl.out hsl.out) ?_)))
      go_ret
      exact ⟨by rw [hres.out]; rfl, hF1.below⟩
     have e64 : decide ((64 : Int) < (ne : Int)) = false := decide_eq_false (by omega)
     have hC : Box (D.edges.length ≤ 64) := box (by rw [hDe.out, ← hne.out]; omega)
     have hne64 : ne ≤ 64 := by omega
     replace he := box he
     cases hq : decide (mRightN D.notes) with
     | false =>
      have hres : Box (decide (mRight D) = false) := box (decide_eq_false (fun h => (of_decide_eq_false hq) h.2.2.2.1))
      rw [hq] at hnr
      clear hq
      go_wp2_with (first | (with_reducible refine lsx (wp_fld0 hF1 uq9 rfl (by with_unfolding_all exact ⟨_, rfl, rfl⟩) docL_m0 ?_)) | (with_reducible refine lsx (wp_fld0 hF1 uq9 rfl (by with_unfolding_all exact ⟨_, rfl, rfl⟩) docL_t0 ?_)) | (with_reducible refine lsx (wp_fld0 hF1 uq29 rfl (by with_unfolding_all exact ⟨_, rfl, rfl⟩) (docL_eg hcl.out) ?_)) | (with_reducible refine lsx (wp_fld0 hF1 uq26 rfl (by with_unfolding_all exact ⟨_, rfl, rfl⟩) (docL_nt hcl.out hsl.out) ?_)))
      refine (hnr.out _ hF1.below).mono ?_
      rintro e w2 ⟨rfl, hb2⟩
      have hF2 := hF1.call hb2
      go_wp2_with fail
      go_ret
      exact ⟨by rw [hres.out]; rfl, hF2.below⟩
     | true =>
      have hN := box (of_decide_eq_true hq)
      rw [hq] at hnr
      clear hq
      go_wp2_with (first | (with_reducible refine lsx (wp_fld0 hF1 uq9 rfl (by with_unfolding_all exact ⟨_, rfl, rfl⟩) docL_m0 ?_)) | (with_reducible refine lsx (wp_fld0 hF1 uq9 rfl (by with_unfolding_all exact ⟨_, rfl, rfl⟩) docL_t0 ?_)) | (with_reducible refine lsx (wp_fld0 hF1 uq29 rfl (by with_unfolding_all exact ⟨_, rfl, rfl⟩) (docL_eg hcl.out) ?_)) | (with_reducible refine lsx (wp_fld0 hF1 uq26 rfl (by with_unfolding_all exact ⟨_, rfl, rfl⟩) (docL_nt hcl.out hsl.out) ?_)))
      refine (hnr.out _ hF1.below).mono ?_
      rintro e w2 ⟨rfl, hb2⟩
      have hF2 := hF1.call hb2
      clear hF1 hb2
      go_wp2_with fail
      go_meet
      exact ⟨⟨.inr hA.out, hB.out, hC.out, hN.out⟩, hF2⟩
    have t1 : (ty == []) = false := by rw [beq_eq_false_iff_ne]; exact ht
    have t2 : (ty != []) = true := by rw [bne, t1]; rfl
    cases hm : mediaB ty with
    | true =>
     have hB : Box (D.type = [] ∨ mediaB D.type = true) := box (.inr (by rw [hDt.out]; exact hm))
     rw [hm] at hmed
     replace hm := box hm
     replace ht := box ht
     by_cases he : 64 < ne
     ·have e64 : decide ((64 : Int) < (ne : Int)) = true := decide_eq_true (by omega)
      have hres : Box (decide (mRight D) = false) := box (decide_eq_false (fun h => by have h3 := h.2.2.1; rw [hDe.out, ← hne.out] at h3; omega))
      replace he := box he
      go_wp2_with (first | (with_reducible refine lsx (wp_fld0 hF1 uq9 rfl (by with_unfolding_all exact ⟨_, rfl, rfl⟩) docL_m0 ?_)) | (with_reducible refine lsx (wp_fld0 hF1 uq9 rfl (by with_unfolding_all exact ⟨_, rfl, rfl⟩) docL_t0 ?_)) | (with_reducible refine lsx (wp_fld0 hF1 uq29 rfl (by with_unfolding_all exact ⟨_, rfl, rfl⟩) (docL_eg hcl.out) ?_)) | (with_reducible refine lsx (wp_fld0 hF1 uq26 rfl (by with_unfolding_all exact ⟨_, rfl, rfl⟩) (docL_nt hcl.out hsl.out) ?_)))
      refine (hmed.out _ hF1.below).mono ?_
      rintro e w2 ⟨rfl, hb2m⟩
      have hFm := hF1.call hb2m
      go_wp2_with (first | (with_reducible refine lsx (wp_fld0 hFm uq9 rfl (by with_unfolding_all exact ⟨_, rfl, rfl⟩) docL_m0 ?_)) | (with_reducible refine lsx (wp_fld0 hFm uq9 rfl (by with_unfolding_all exact ⟨_, rfl, rfl⟩) docL_t0 ?_)) | (with_reducible refine lsx (wp_fld0 hFm uq29 rfl (by with_unfolding_all exact ⟨_, rfl, rfl⟩) (docL_eg hcl.out) ?_)) | (with_reducible refine lsx (wp_fld0 hFm uq26 rfl (by with_unfolding_all exact ⟨_, rfl, rfl⟩) (docL_nt hcl.out hsl.out) ?_)))
      go_ret
      exact ⟨by rw [hres.out]; rfl, hFm.below⟩
     have e64 : decide ((64 : Int) < (ne : Int)) = false := decide_eq_false (by omega)
     have hC : Box (D.edges.length ≤ 64) := box (by rw [hDe.out, ← hne.out]; omega)
     have hne64 : ne ≤ 64 := by omega
     replace he := box he
     cases hq : decide (mRightN D.notes) with
     | false =>
      have hres : Box (decide (mRight D) = false) := box (decide_eq_false (fun h => (of_decide_eq_false hq) h.2.2.2.1))
      rw [hq] at hnr
      clear hq
      go_wp2_with (first | (with_reducible refine lsx (wp_fld0 hF1 uq9 rfl (by with_unfolding_all exact ⟨_, rfl, rfl⟩) docL_m0 ?_)) | (with_reducible refine lsx (wp_fld0 hF1 uq9 rfl (by with_unfolding_all exact ⟨_, rfl, rfl⟩) docL_t0 ?_)) | (with_reducible refine lsx (wp_fld0 hF1 uq29 rfl (by with_unfolding_all exact ⟨_, rfl, rfl⟩) (docL_eg hcl.out) ?_)) | (with_reducible refine lsx (wp_fld0 hF1 uq26 rfl (by with_unfolding_all exact ⟨_, rfl, rfl⟩) (docL_nt hcl.out hsl.out) ?_)))
      refine (hmed.out _ hF1.below).mono ?_
      rintro e w2 ⟨rfl, hb2m⟩
      have hFm := hF1.call hb2m
      go_wp2_with (first | (with_reducible refine lsx (wp_fld0 hFm uq9 rfl (by with_unfolding_all exact ⟨_, rfl, rfl⟩) docL_m0 ?_)) | (with_reducible refine lsx (wp_fld0 hFm uq9 rfl (by with_unfolding_all exact ⟨_, rfl, rfl⟩) docL_t0 ?_)) | (with_reducible refine lsx (wp_fld0 hFm uq29 rfl (by with_unfolding_all exact ⟨_, rfl, rfl⟩) (docL_eg hcl.out) ?_)) | (with_reducible refine lsx (wp_fld0 hFm uq26 rfl (by with_unfolding_all exact ⟨_, rfl, rfl⟩) (docL_nt hcl.out hsl.out) ?_)))
      have hF1 := hFm
      refine (hnr.out _ hF1.below).mono ?_
      rintro e w2 ⟨rfl, hb2⟩
      have hF2 := hF1.call hb2
      go_wp2_with fail
      go_ret
      exact ⟨by rw [hres.out]; rfl, hF2.below⟩
     | true =>
      have hN := box (of_decide_eq_true hq)
      rw [hq] at hnr
      clear hq
      go_wp2_with (first | (with_reducible refine lsx (wp_fld0 hF1 uq9 rfl (by with_unfolding_all exact ⟨_, rfl, rfl⟩) docL_m0 ?_)) | (with_reducible refine lsx (wp_fld0 hF1 uq9 rfl (by with_unfolding_all exact ⟨_, rfl, rfl⟩) docL_t0 ?_)) | (with_reducible refine lsx (wp_fld0 hF1 uq29 rfl (by with_unfolding_all exact ⟨_, rfl, rfl⟩) (docL_eg hcl.out) ?_)) | (with_reducible refine lsx (wp_fld0 hF1 uq26 rfl (by with_unfolding_all exact ⟨_, rfl, rfl⟩) (docL_nt hcl.out hsl.out) ?_)))
      refine (hmed.out _ hF1.below).mono ?_
      rintro e w2 ⟨rfl, hb2m⟩
      have hFm := hF1.call hb2m
      go_wp2_with (first | (with_reducible refine lsx (wp_fld0 hFm uq9 rfl (by with_unfolding_all exact ⟨_, rfl, rfl⟩) docL_m0 ?_)) | (with_reducible refine lsx (wp_fld0 hFm uq9 rfl (by with_unfolding_all exact ⟨_, rfl, rfl⟩) docL_t0 ?_)) | (with_reducible refine lsx (wp_fld0 hFm uq29 rfl (by with_unfolding_all exact ⟨_, rfl, rfl⟩) (docL_eg hcl.out) ?_)) | (with_reducible refine lsx (wp_fld0 hFm uq26 rfl (by with_unfolding_all exact ⟨_, rfl, rfl⟩) (docL_nt hcl.out hsl.out) ?_)))
      have hF1 := hFm
      clear hFm hb2m
      refine (hnr.out _ hF1.below).mono ?_
      rintro e w2 ⟨rfl, hb2⟩
      have hF2 := hF1.call hb2
      clear hF1 hb2
      go_wp2_with fail
      go_meet
      exact ⟨⟨.inr hA.out, hB.out, hC.out, hN.out⟩, hF2⟩
    | false =>
     have hres : Box (decide (mRight D) = false) := box (decide_eq_false (fun h => by
      rcases h.2.1 with h | h
      ·exact ht (by rw [← hDt.out]; exact h)
      ·rw [hDt.out, hm] at h; cases h))
     rw [hm] at hmed
     replace hm := box hm
     replace ht := box ht
     go_wp2_with (first | (with_reducible refine lsx (wp_fld0 hF1 uq9 rfl (by with_unfolding_all exact ⟨_, rfl, rfl⟩) docL_m0 ?_)) | (with_reducible refine lsx (wp_fld0 hF1 uq9 rfl (by with_unfolding_all exact ⟨_, rfl, rfl⟩) docL_t0 ?_)) | (with_reducible refine lsx (wp_fld0 hF1 uq29 rfl (by with_unfolding_all exact ⟨_, rfl, rfl⟩) (docL_eg hcl.out) ?_)) | (with_reducible refine lsx (wp_fld0 hF1 uq26 rfl (by with_unfolding_all exact ⟨_, rfl, rfl⟩) (docL_nt hcl.out hsl.out) ?_)))
     refine (hmed.out _ hF1.below).mono ?_
     rintro e w2 ⟨rfl, hb2m⟩
     have hFm := hF1.call hb2m
     go_wp2_with (first | (with_reducible refine lsx (wp_fld0 hFm uq9 rfl (by with_unfolding_all exact ⟨_, rfl, rfl⟩) docL_m0 ?_)) | (with_reducible refine lsx (wp_fld0 hFm uq9 rfl (by with_unfolding_all exact ⟨_, rfl, rfl⟩) docL_t0 ?_)) | (with_reducible refine lsx (wp_fld0 hFm uq29 rfl (by with_unfolding_all exact ⟨_, rfl, rfl⟩) (docL_eg hcl.out) ?_)) | (with_reducible refine lsx (wp_fld0 hFm uq26 rfl (by with_unfolding_all exact ⟨_, rfl, rfl⟩) (docL_nt hcl.out hsl.out) ?_)))
     go_ret
     exact ⟨by rw [hres.out]; rfl, hFm.below⟩
   have a1 : (m == [97, 112, 112, 108, 105, 99, 97, 116, 105, 111, 110, 47, 118, 110, 100, 46, 111, 99, 105, 46, 105, 109, 97, 103, 101, 46, 109, 97, 110, 105, 102, 101, 115, 116, 46, 118, 49, 43, 106, 115, 111, 110]) = false := by rw [beq_eq_false_iff_ne]; exact hi
   have a2 : (m != [97, 112, 112, 108, 105, 99, 97, 116, 105, 111, 110, 47, 118, 110, 100, 46, 111, 99, 105, 46, 105, 109, 97, 103, 101, 46, 109, 97, 110, 105, 102, 101, 115, 116, 46, 118, 49, 43, 106, 115, 111, 110]) = true := by rw [bne, a1]; rfl
   have b1 : (m == [97, 112, 112, 108, 105, 99, 97, 116, 105, 111, 110, 47, 118, 110, 100, 46, 111, 99, 105, 46, 105, 109, 97, 103, 101, 46, 105, 110, 100, 101, 120, 46, 118, 49, 43, 106, 115, 111, 110]) = false := by rw [beq_eq_false_iff_ne]; exact hx
   have b2 : (m != [97, 112, 112, 108, 105, 99, 97, 116, 105, 111, 110, 47, 118, 110, 100, 46, 111, 99, 105, 46, 105, 109, 97, 103, 101, 46, 105, 110, 100, 101, 120, 46, 118, 49, 43, 106, 115, 111, 110]) = true := by rw [bne, b1]; rfl
   have hres : Box (decide (mRight D) = false) := box (decide_eq_false (fun h => by
    have h1 := h.1
    rw [hDm.out] at h1
    rcases h1 with h1 | h1
    ·exact hi h1
    ·exact hx h1))
   replace hi := box hi
   replace hx := box hx
   go_wp2_with (first | (with_reducible refine lsx (wp_fld0 hF1 uq9 rfl (by with_unfolding_all exact ⟨_, rfl, rfl⟩) docL_m0 ?_)) | (with_reducible refine lsx (wp_fld0 hF1 uq9 rfl (by with_unfolding_all exact ⟨_, rfl, rfl⟩) docL_t0 ?_)) | (with_reducible refine lsx (wp_fld0 hF1 uq29 rfl (by with_unfolding_all exact ⟨_, rfl, rfl⟩) (docL_eg hcl.out) ?_)) | (with_reducible refine lsx (wp_fld0 hF1 uq26 rfl (by with_unfolding_all exact ⟨_, rfl, rfl⟩) (docL_nt hcl.out hsl.out) ?_)))
   go_ret
   exact ⟨by rw [hres.out]; rfl, hF1.below⟩
  case rest =>
   obtain ⟨⟨hA0, hB', hC', hN'⟩, hF2⟩ := hcut
   clear hF1 hnr hmed
   have hB := box hB'
   have hC := box hC'
   have hN := box hN'
   have hne64 : ne ≤ 64 := by rw [hDe.out] at hC'; rw [hne.out]; exact hC'
   clear hB' hC' hN'
   have hok : Box ((∀ x ∈ eds, mRightD x) → (D.media = sImage → mRightD D.config) → (D.has = true → mRightD D.subject) → mRight D) := box (fun h1 h2 h3 => ⟨hA0, hB.out, hC.out, hN.out, by rw [hDe.out]; exact h1, h2, h3⟩)
   replace hA0 := box hA0
   go_wp2_with (first | (with_reducible refine lsx (wp_fld0 hF2 uq29 rfl (by with_unfolding_all exact ⟨_, rfl, rfl⟩) (docL_eg hcl.out) ?_)))
   go_loopg [39] ne (fun g a wr => ∃ i : Nat, i ≤ ne ∧ Box (g = ne - i) ∧ a = .int .i64 (i : Int) ∧ Box (∀ j x, j < i → eds[j]? = some x → mRightD x) ∧ Fr [] w wr [.blk g1 31 (docL m ty cf (.slice Ae ne ce) sj hs (.slice An nn cn))])
   case atStart => exact ⟨0, by omega, box rfl, rfl, box (fun j x hj => absurd hj (by omega)), hF2⟩
   case round =>
    clear hF2
    obtain ⟨i, hi, hgi, rfl, hgd, hF⟩ := hrel
    have hkk : Box (_ = ne - i) := hgi
    clear hgi
    have hre' := hre.out.below hF.below
    by_cases hlt : i < ne
    ·obtain ⟨x, hx'⟩ : ∃ x, eds[i]? = some x := ⟨eds[i]'(by rw [← hne.out]; exact hlt), by simp⟩
     have hxm := List.mem_of_getElem? hx'
     have hxd := (hEd.out i x hx').on hF.below
     have hxl := box hxd.len
     have hdx := box (fun w' (hb : Below w.heap.size w w') => prightD_any x _ w' ((hL.on hb).up hb.size) ((hEd.out i x hx').on hb) (hsE.out x hxm))
     have hxo := box hxd.ones
     have hx := box hx'
     have hci := box (rfl : ((xe.drop (i * 35)).take 35) = ((xe.drop (i * 35)).take 35))
     obtain ⟨ci, hce⟩ : ∃ ci, ci = (xe.drop (i * 35)).take 35 := ⟨_, rfl⟩
     rw [← hce] at hxl hdx hxo
     replace hce := box hce.symm
     clear hci hx' hxd
     cases hq : decide (mRightD x) with
     | false =>
      have hres : Box (decide (mRight D) = false) := box (decide_eq_false (fun h => (of_decide_eq_false hq) (h.2.2.2.2.1 x (by rw [hDe.out]; exact hxm))))
      rw [hq] at hdx
      clear hq hxm
      go_wp2_with (first | (with_reducible refine lsx (wp_indexAddr T_descs hre' (by with_unfolding_all exact ⟨_, _, _, _, rfl, rfl, rfl⟩) (by omega) (by omega) ?_)) | (with_reducible refine lsx (wp_loadA hre' uq28 rfl (by with_unfolding_all exact ⟨_, rfl, rfl⟩) (ds := ci) (by rw [hxl.out]; kernel_rfl) (by rw [hxl.out]; with_unfolding_all exact hce.out) ?_)) | ((with_reducible refine lsx (wp_falloc hF (cs := ds0) (z := .agg (List.toArray (ds0))) rfl (by kernel_rfl) (by with_unfolding_all rfl) ?_)); intro w3 g3 hF3 hz3) | ((with_reducible refine lsx (wp_fstA0 hF3 (by with_unfolding_all exact ⟨_, _, rfl, rfl, rfl⟩) (by rw [hxl.out]; kernel_rfl) hxo.out (by rw [hxl.out, ds0_len]; decide) (spl_all (by rw [hxl.out, ds0_len])) ?_)); intro w4 hF4 hz4) | (with_reducible refine lsx (wp_fldA0 hF4 uq28 rfl (by with_unfolding_all exact ⟨_, rfl, rfl⟩) (ds := ci) (by rw [hxl.out]; kernel_rfl) (take_all _) ?_)))
      refine (hdx.out _ hF4.below).mono ?_
      rintro e w5 ⟨rfl, hb5⟩
      have hF5 := hF4.call hb5
      go_wp2_with fail
      go_ret
      exact ⟨by rw [hres.out]; rfl, hF5.below⟩
     | true =>
      have hgd2 : Box (∀ j y, j < i + 1 → eds[j]? = some y → mRightD y) := box (fun j y hj hy => by
       by_cases h : j < i
       ·exact hgd.out j y h hy
       ·obtain rfl : j = i := by omega
        rw [hx.out] at hy
        injection hy with hy
        subst hy
        exact of_decide_eq_true hq)
      rw [hq] at hdx
      clear hq hxm
      go_wp2_with (first | (with_reducible refine lsx (wp_indexAddr T_descs hre' (by with_unfolding_all exact ⟨_, _, _, _, rfl, rfl, rfl⟩) (by omega) (by omega) ?_)) | (with_reducible refine lsx (wp_loadA hre' uq28 rfl (by with_unfolding_all exact ⟨_, rfl, rfl⟩) (ds := ci) (by rw [hxl.out]; kernel_rfl) (by rw [hxl.out]; with_unfolding_all exact hce.out) ?_)) | ((with_reducible refine lsx (wp_falloc hF (cs := ds0) (z := .agg (List.toArray (ds0))) rfl (by kernel_rfl) (by with_unfolding_all rfl) ?_)); intro w3 g3 hF3 hz3) | ((with_reducible refine lsx (wp_fstA0 hF3 (by with_unfolding_all exact ⟨_, _, rfl, rfl, rfl⟩) (by rw [hxl.out]; kernel_rfl) hxo.out (by rw [hxl.out, ds0_len]; decide) (spl_all (by rw [hxl.out, ds0_len])) ?_)); intro w4 hF4 hz4) | (with_reducible refine lsx (wp_fldA0 hF4 uq28 rfl (by with_unfolding_all exact ⟨_, rfl, rfl⟩) (ds := ci) (by rw [hxl.out]; kernel_rfl) (take_all _) ?_)))
      refine (hdx.out _ hF4.below).mono ?_
      rintro e w5 ⟨rfl, hb5⟩
      have hF5 := hF4.call hb5
      go_wp2_with fail
      go_roundg (ne - (i + 1))
      case rel => exact ⟨i + 1, by omega, box rfl, by go_num, hgd2, hF5.tail⟩
      case measure => have := hkk.out; omega
    ·obtain rfl : ne = i := by omega
     have hall : Box (∀ x ∈ eds, mRightD x) := box (fun x hx => by
      obtain ⟨j, hj⟩ := List.mem_iff_getElem?.1 hx
      exact hgd.out j x (by rw [hne.out]; exact (List.getElem?_eq_some_iff.1 hj).1) hj)
     clear hgd
     by_cases hi : m = sImage
     ·skip
      have hA : Box (D.media = sImage) := box (by rw [hDm.out]; exact hi)
      have a1 : (m == [97, 112, 112, 108, 105, 99, 97, 116, 105, 111, 110, 47, 118, 110, 100, 46, 111, 99, 105, 46, 105, 109, 97, 103, 101, 46, 109, 97, 110, 105, 102, 101, 115, 116, 46, 118, 49, 43, 106, 115, 111, 110]) = true := by rw [beq_iff_eq]; exact hi
      have a2 : (m != [97, 112, 112, 108, 105, 99, 97, 116, 105, 111, 110, 47, 118, 110, 100, 46, 111, 99, 105, 46, 105, 109, 97, 103, 101, 46, 109, 97, 110, 105, 102, 101, 115, 116, 46, 118, 49, 43, 106, 115, 111, 110]) = false := by rw [bne, a1]; rfl
      have b1 : (m == [97, 112, 112, 108, 105, 99, 97, 116, 105, 111, 110, 47, 118, 110, 100, 46, 111, 99, 105, 46, 105, 109, 97, 103, 101, 46, 105, 110, 100, 101, 120, 46, 118, 49, 43, 106, 115, 111, 110]) = false := by rw [beq_eq_false_iff_ne]; exact (fun h => sImage_ne (hi.symm.trans h))
      have b2 : (m != [97, 112, 112, 108, 105, 99, 97, 116, 105, 111, 110, 47, 118, 110, 100, 46, 111, 99, 105, 46, 105, 109, 97, 103, 101, 46, 105, 110, 100, 101, 120, 46, 118, 49, 43, 106, 115, 111, 110]) = true := by rw [bne, b1]; rfl
      replace hi := box hi
      have hdc := box (prightD_any D.config _ _ ((hL.on hF.below).up hF.below.size) (hCd.out _ hF.below) hsC.out)
      cases hq : decide (mRightD D.config) with
      | false =>
       have hres : Box (decide (mRight D) = false) := box (decide_eq_false (fun h => (of_decide_eq_false hq) (h.2.2.2.2.2.1 hA.out)))
       rw [hq] at hdc
       clear hq
       go_wp2_with (first | (with_reducible refine lsx (wp_fld0 hF uq29 rfl (by with_unfolding_all exact ⟨_, rfl, rfl⟩) (docL_eg hcl.out) ?_)) | (with_reducible refine lsx (wp_fld0 hF uq9 rfl (by with_unfolding_all exact ⟨_, rfl, rfl⟩) docL_m0 ?_)) | (with_reducible refine lsx (wp_fldA0 hF uq28 rfl (by with_unfolding_all exact ⟨_, rfl, rfl⟩) (ds := cf) (by rw [hcl.out]; kernel_rfl) (by rw [hcl.out]; exact docL_cf hcl.out) ?_)) | (with_reducible refine lsx (wp_fld0 hF uq4 rfl (by with_unfolding_all exact ⟨_, rfl, rfl⟩) (docL_has hcl.out hsl.out) ?_)) | (with_reducible refine lsx (wp_fldA0 hF uq28 rfl (by with_unfolding_all exact ⟨_, rfl, rfl⟩) (ds := sj) (by rw [hsl.out]; kernel_rfl) (by rw [hsl.out]; exact docL_sj hcl.out hsl.out) ?_)))
       refine hdc.out.mono ?_
       rintro e w7 ⟨rfl, hb7⟩
       have hF7 := hF.call hb7
       go_wp2_with fail
       go_ret
       exact ⟨by rw [hres.out]; rfl, hF7.below⟩
      | true =>
       have hcg := box (of_decide_eq_true hq)
       rw [hq] at hdc
       clear hq
       go_wp2_with (first | (with_reducible refine lsx (wp_fld0 hF uq29 rfl (by with_unfolding_all exact ⟨_, rfl, rfl⟩) (docL_eg hcl.out) ?_)) | (with_reducible refine lsx (wp_fld0 hF uq9 rfl (by with_unfolding_all exact ⟨_, rfl, rfl⟩) docL_m0 ?_)) | (with_reducible refine lsx (wp_fldA0 hF uq28 rfl (by with_unfolding_all exact ⟨_, rfl, rfl⟩) (ds := cf) (by rw [hcl.out]; kernel_rfl) (by rw [hcl.out]; exact docL_cf hcl.out) ?_)) | (with_reducible refine lsx (wp_fld0 hF uq4 rfl (by with_unfolding_all exact ⟨_, rfl, rfl⟩) (docL_has hcl.out hsl.out) ?_)) | (with_reducible refine lsx (wp_fldA0 hF uq28 rfl (by with_unfolding_all exact ⟨_, rfl, rfl⟩) (ds := sj) (by rw [hsl.out]; kernel_rfl) (by rw [hsl.out]; exact docL_sj hcl.out hsl.out) ?_)))
       refine hdc.out.mono ?_
       rintro e w7 ⟨rfl, hb7⟩
       have hF7 := hF.call hb7
       cases hs with
       | false =>
        have hres : Box (decide (mRight D) = true) := box (decide_eq_true (hok.out hall.out (fun _ => hcg.out) (fun h => by rw [hDh.out] at h; cases h)))
        go_wp2_with (first | (with_reducible refine lsx (wp_fld0 hF7 uq29 rfl (by with_unfolding_all exact ⟨_, rfl, rfl⟩) (docL_eg hcl.out) ?_)) | (with_reducible refine lsx (wp_fld0 hF7 uq9 rfl (by with_unfolding_all exact ⟨_, rfl, rfl⟩) docL_m0 ?_)) | (with_reducible refine lsx (wp_fldA0 hF7 uq28 rfl (by with_unfolding_all exact ⟨_, rfl, rfl⟩) (ds := cf) (by rw [hcl.out]; kernel_rfl) (by rw [hcl.out]; exact docL_cf hcl.out) ?_)) | (with_reducible refine lsx (wp_fld0 hF7 uq4 rfl (by with_unfolding_all exact ⟨_, rfl, rfl⟩) (docL_has hcl.out hsl.out) ?_)) | (with_reducible refine lsx (wp_fldA0 hF7 uq28 rfl (by with_unfolding_all exact ⟨_, rfl, rfl⟩) (ds := sj) (by rw [hsl.out]; kernel_rfl) (by rw [hsl.out]; exact docL_sj hcl.out hsl.out) ?_)))
        go_ret
        exact ⟨by rw [hres.out]; rfl, hF7.below⟩
       | true =>
        have hds := box (prightD_any D.subject _ _ ((hL.on hF7.below).up hF7.below.size) (hSd.out _ hF7.below) hsS.out)
        have hres : Box (decide (mRight D) = decide (mRightD D.subject)) := box (by
         by_cases h : mRightD D.subject
         ·rw [decide_eq_true h, decide_eq_true (hok.out hall.out (fun _ => hcg.out) (fun _ => h))]
         ·rw [decide_eq_false h, decide_eq_false (fun h2 => h (h2.2.2.2.2.2.2 hDh.out))])
        go_wp2_with (first | (with_reducible refine lsx (wp_fld0 hF7 uq29 rfl (by with_unfolding_all exact ⟨_, rfl, rfl⟩) (docL_eg hcl.out) ?_)) | (with_reducible refine lsx (wp_fld0 hF7 uq9 rfl (by with_unfolding_all exact ⟨_, rfl, rfl⟩) docL_m0 ?_)) | (with_reducible refine lsx (wp_fldA0 hF7 uq28 rfl (by with_unfolding_all exact ⟨_, rfl, rfl⟩) (ds := cf) (by rw [hcl.out]; kernel_rfl) (by rw [hcl.out]; exact docL_cf hcl.out) ?_)) | (with_reducible refine lsx (wp_fld0 hF7 uq4 rfl (by with_unfolding_all exact ⟨_, rfl, rfl⟩) (docL_has hcl.out hsl.out) ?_)) | (with_reducible refine lsx (wp_fldA0 hF7 uq28 rfl (by with_unfolding_all exact ⟨_, rfl, rfl⟩) (ds := sj) (by rw [hsl.out]; kernel_rfl) (by rw [hsl.out]; exact docL_sj hcl.out hsl.out) ?_)))
        refine hds.out.mono ?_
        rintro e w9 ⟨rfl, hb9⟩
        have hF9 := hF7.call hb9
        go_wp2_with fail
        go_ret
        exact ⟨by rw [hres.out]; rfl, hF9.below⟩
     ·skip
      have hA : Box (D.media = sIndex) := box (hA0.out.resolve_left (by rw [hDm.out]; exact hi))
      have hx : m = sIndex := by rw [← hDm.out]; exact hA.out
      have a1 : (m == [97, 112, 112, 108, 105, 99, 97, 116, 105, 111, 110, 47, 118, 110, 100, 46, 111, 99, 105, 46, 105, 109, 97, 103, 101, 46, 105, 110, 100, 101, 120, 46, 118, 49, 43, 106, 115, 111, 110]) = true := by rw [beq_iff_eq]; exact hx
      have a2 : (m != [97, 112, 112, 108, 105, 99, 97, 116, 105, 111, 110, 47, 118, 110, 100, 46, 111, 99, 105, 46, 105, 109, 97, 103, 101, 46, 105, 110, 100, 101, 120, 46, 118, 49, 43, 106, 115, 111, 110]) = false := by rw [bne, a1]; rfl
      have b1 : (m == [97, 112, 112, 108, 105, 99, 97, 116, 105, 111, 110, 47, 118, 110, 100, 46, 111, 99, 105, 46, 105, 109, 97, 103, 101, 46, 109, 97, 110, 105, 102, 101, 115, 116, 46, 118, 49, 43, 106, 115, 111, 110]) = false := by rw [beq_eq_false_iff_ne]; exact hi
      have b2 : (m != [97, 112, 112, 108, 105, 99, 97, 116, 105, 111, 110, 47, 118, 110, 100, 46, 111, 99, 105, 46, 105, 109, 97, 103, 101, 46, 109, 97, 110, 105, 102, 101, 115, 116, 46, 118, 49, 43, 106, 115, 111, 110]) = true := by rw [bne, b1]; rfl
      replace hi := box hi
      replace hx := box hx
      cases hs with
      | false =>
       have hres : Box (decide (mRight D) = true) := box (decide_eq_true (hok.out hall.out (fun h => absurd (h.symm.trans hA.out) sImage_ne) (fun h => by rw [hDh.out] at h; cases h)))
       go_wp2_with (first | (with_reducible refine lsx (wp_fld0 hF uq29 rfl (by with_unfolding_all exact ⟨_, rfl, rfl⟩) (docL_eg hcl.out) ?_)) | (with_reducible refine lsx (wp_fld0 hF uq9 rfl (by with_unfolding_all exact ⟨_, rfl, rfl⟩) docL_m0 ?_)) | (with_reducible refine lsx (wp_fldA0 hF uq28 rfl (by with_unfolding_all exact ⟨_, rfl, rfl⟩) (ds := cf) (by rw [hcl.out]; kernel_rfl) (by rw [hcl.out]; exact docL_cf hcl.out) ?_)) | (with_reducible refine lsx (wp_fld0 hF uq4 rfl (by with_unfolding_all exact ⟨_, rfl, rfl⟩) (docL_has hcl.out hsl.out) ?_)) | (with_reducible refine lsx (wp_fldA0 hF uq28 rfl (by with_unfolding_all exact ⟨_, rfl, rfl⟩) (ds := sj) (by rw [hsl.out]; kernel_rfl) (by rw [hsl.out]; exact docL_sj hcl.out hsl.out) ?_)))
       go_ret
       exact ⟨by rw [hres.out]; rfl, hF.below⟩
      | true =>
       have hds := box (prightD_any D.subject _ _ ((hL.on hF.below).up hF.below.size) (hSd.out _ hF.below) hsS.out)
       have hres : Box (decide (mRight D) = decide (mRightD D.subject)) := box (by
        by_cases h : mRightD D.subject
        ·rw [decide_eq_true h, decide_eq_true (hok.out hall.out (fun h => absurd (h.symm.trans hA.out) sImage_ne) (fun _ => h))]
        ·rw [decide_eq_false h, decide_eq_false (fun h2 => h (h2.2.2.2.2.2.2 hDh.out))])
       go_wp2_with (first | (with_reducible refine lsx (wp_fld0 hF uq29 rfl (by with_unfolding_all exact ⟨_, rfl, rfl⟩) (docL_eg hcl.out) ?_)) | (with_reducible refine lsx (wp_fld0 hF uq9 rfl (by with_unfolding_all exact ⟨_, rfl, rfl⟩) docL_m0 ?_)) | (with_reducible refine lsx (wp_fldA0 hF uq28 rfl (by with_unfolding_all exact ⟨_, rfl, rfl⟩) (ds := cf) (by rw [hcl.out]; kernel_rfl) (by rw [hcl.out]; exact docL_cf hcl.out) ?_)) | (with_reducible refine lsx (wp_fld0 hF uq4 rfl (by with_unfolding_all exact ⟨_, rfl, rfl⟩) (docL_has hcl.out hsl.out) ?_)) | (with_reducible refine lsx (wp_fldA0 hF uq28 rfl (by with_unfolding_all exact ⟨_, rfl, rfl⟩) (ds := sj) (by rw [hsl.out]; kernel_rfl) (by rw [hsl.out]; exact docL_sj hcl.out hsl.out) ?_)))
       refine hds.out.mono ?_
       rintro e w9 ⟨rfl, hb9⟩
       have hF9 := hF.call hb9
       go_wp2_with fail
       go_ret
       exact ⟨by rw [hres.out]; rfl, hF9.below⟩
end Go.Proofs.YtlhicfpmlncomaaGreatDoor
