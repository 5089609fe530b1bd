/-
 Layer 8: the document's RightDesc and Right, walked.
 Layer 8: the document's SameNotes at one list twice.
 Layer 8: the document's Same at one document twice.
 Layer 8: the program's rightNotes, rightDesc and right, walked.
-/
import Derived.Test.YtlhicfpmlncomaaGreatDoorK17
import Derived.Test.YtlhicfpmlncomaaGreatDoorK02
import Derived.Test.YtlhicfpmlncomaaGreatDoorK15
import Derived.Test.YtlhicfpmlncomaaGreatDoorK11
import Derived.Laws.StructEq
import Derived.Test.YtlhicfpmlncomaaGreatDoorK12
import Derived.Test.YtlhicfpmlncomaaGreatDoorK00
set_option linter.unusedSimpArgs false
set_option linter.unusedVariables false
namespace Go.Proofs.YtlhicfpmlncomaaGreatDoor
open Go.RowKit
def DsSm (d : MDesc) : Prop := d.media.length ≤ 100000000 ∧ NtSm d.notes
def DcSm (d : MDoc) : Prop := d.media.length ≤ 100000000 ∧ d.type.length ≤ 100000000 ∧ DsSm d.config ∧ (d.edges.length ≤ 1000000 ∧ ∀ x ∈ d.edges, DsSm x) ∧ DsSm d.subject ∧ NtSm d.notes
set_option maxRecDepth 20000 in
set_option maxHeartbeats 6400000 in
theorem rrightD_any (d : MDesc) (cs : List Value) (w : World) (hD : RdD w d cs) (hs : DsSm d) :
  Calls Tryz.prog 48 #[.agg cs.toArray] w fun e w' => e = .returned (.bool (decide (mRightD d))) ∧ Below w.heap.size w w' := by
 obtain ⟨nt, hd', ⟨A, n, c, hnc, hn', rfl, hr'⟩, rfl⟩ := hD
 obtain ⟨m, dg, z, l⟩ := d
 obtain ⟨hs1, hs2⟩ := hs
 simp only [] at hd' hn' hr' hs1 hs2
 have hd := box hd'
 have hrn := box (fun w' (hb : Below w.heap.size w w') => rrightN_any l A n c w' (hr'.on hb) hn' hs2)
 have hmed := box (fun w' => mediaF_any ⟨m.toArray⟩ w' (by rw [← str_len]; exact Nat.le_trans hs1 (by decide)))
 have hR : Box (decide (mRightD ⟨m, dg, z, l⟩) = (mediaB m && (decide (0 ≤ z) && (decide (z ≤ 1099511627776) && decide (mRightN l))))) := box (by
  by_cases h : mediaB m = true ∧ 0 ≤ z ∧ z ≤ 1099511627776 ∧ mRightN l
  ·rw [decide_eq_true (show mRightD ⟨m, dg, z, l⟩ from h), h.1, decide_eq_true h.2.1, decide_eq_true h.2.2.1, decide_eq_true h.2.2.2]; rfl
  ·rw [decide_eq_false (show ¬ mRightD ⟨m, dg, z, l⟩ from h)]
   cases hb : (mediaB m && (decide (0 ≤ z) && (decide (z ≤ 1099511627776) && decide (mRightN l)))) with
   | false => rfl
   | true =>
    simp only [Bool.and_eq_true, decide_eq_true_eq] at hb
    exact absurd hb h)
 clear hd' hr' hn' hs1 hs2
 have hF0 := Fr.nil w
 show Calls _ _ #[.agg (dsL m dg z (.slice A n c)).toArray] _ _
 rw [show (⟨m.toArray⟩ : ByteArray).data.toList = m from rfl] at hmed
 cases h1 : mediaB m with
 | false =>
  have hres := box (hR.out.trans (by rw [h1]; rfl : _ = false))
  rw [h1] at hmed
  clear h1 hR
  go_enter Tryz.func48, Tryz.ntmps48
  go_wp2_with (first | ((with_reducible refine lsx (wp_fbox hF0 (cs := (dsL m dg z (.slice A n c))) rfl (by with_unfolding_all rfl) (by with_unfolding_all rfl) ?_)); intro w1 g1 hF1 hz1) | (with_reducible refine lsx (wp_fld0 hF1 uq9 rfl (by with_unfolding_all exact ⟨_, rfl, rfl⟩) dsL_m0 ?_)))
  refine (hmed.out _).mono ?_
  rintro e w2 ⟨rfl, rfl⟩
  go_wp2_with (first | (with_reducible refine lsx (wp_fld0 hF1 uq3 rfl (by with_unfolding_all exact ⟨_, rfl, rfl⟩) (dsL_size hd.out) ?_)) | (with_reducible refine lsx (wp_fld0 hF1 uq35 rfl (by with_unfolding_all exact ⟨_, rfl, rfl⟩) (dsL_notes hd.out) ?_)))
  go_ret
  exact ⟨by rw [hres.out]; rfl, hF1.below⟩
 | true =>
  rw [h1] at hmed
  by_cases h2 : 0 ≤ z
  ·have d2 : decide (0 ≤ z) = true := decide_eq_true h2
   by_cases h3 : z ≤ 1099511627776
   ·have d3 : decide (z ≤ 1099511627776) = true := decide_eq_true h3
    have hres := box (hR.out.trans (by rw [h1, d2, d3]; rfl : _ = decide (mRightN l)))
    clear h1 hR
    replace h2 := box h2
    replace h3 := box h3
    go_enter Tryz.func48, Tryz.ntmps48
    go_wp2_with (first | ((with_reducible refine lsx (wp_fbox hF0 (cs := (dsL m dg z (.slice A n c))) rfl (by with_unfolding_all rfl) (by with_unfolding_all rfl) ?_)); intro w1 g1 hF1 hz1) | (with_reducible refine lsx (wp_fld0 hF1 uq9 rfl (by with_unfolding_all exact ⟨_, rfl, rfl⟩) dsL_m0 ?_)))
    refine (hmed.out _).mono ?_
    rintro e w2 ⟨rfl, rfl⟩
    go_wp2_with (first | (with_reducible refine lsx (wp_fld0 hF1 uq3 rfl (by with_unfolding_all exact ⟨_, rfl, rfl⟩) (dsL_size hd.out) ?_)) | (with_reducible refine lsx (wp_fld0 hF1 uq35 rfl (by with_unfolding_all exact ⟨_, rfl, rfl⟩) (dsL_notes hd.out) ?_)))
    refine (hrn.out _ hF1.below).mono ?_
    rintro e w3 ⟨rfl, hb3⟩
    have hF3 := hF1.call hb3
    go_wp2_with fail
    go_ret
    exact ⟨by rw [hres.out]; rfl, hF3.below⟩
   ·have d3 : decide (z ≤ 1099511627776) = false := decide_eq_false h3
    have hres := box (hR.out.trans (by rw [h1, d2, d3]; rfl : _ = false))
    clear h1 hR
    replace h2 := box h2
    replace h3 := box h3
    go_enter Tryz.func48, Tryz.ntmps48
    go_wp2_with (first | ((with_reducible refine lsx (wp_fbox hF0 (cs := (dsL m dg z (.slice A n c))) rfl (by with_unfolding_all rfl) (by with_unfolding_all rfl) ?_)); intro w1 g1 hF1 hz1) | (with_reducible refine lsx (wp_fld0 hF1 uq9 rfl (by with_unfolding_all exact ⟨_, rfl, rfl⟩) dsL_m0 ?_)))
    refine (hmed.out _).mono ?_
    rintro e w2 ⟨rfl, rfl⟩
    go_wp2_with (first | (with_reducible refine lsx (wp_fld0 hF1 uq3 rfl (by with_unfolding_all exact ⟨_, rfl, rfl⟩) (dsL_size hd.out) ?_)) | (with_reducible refine lsx (wp_fld0 hF1 uq35 rfl (by with_unfolding_all exact ⟨_, rfl, rfl⟩) (dsL_notes hd.out) ?_)))
    go_ret
    exact ⟨by rw [hres.out]; rfl, hF1.below⟩
  ·have d2 : decide (0 ≤ z) = false := decide_eq_false h2
   have hres := box (hR.out.trans (by rw [h1, d2]; rfl : _ = false))
   clear h1 hR
   replace h2 := box h2
   go_enter Tryz.func48, Tryz.ntmps48
   go_wp2_with (first | ((with_reducible refine lsx (wp_fbox hF0 (cs := (dsL m dg z (.slice A n c))) rfl (by with_unfolding_all rfl) (by with_unfolding_all rfl) ?_)); intro w1 g1 hF1 hz1) | (with_reducible refine lsx (wp_fld0 hF1 uq9 rfl (by with_unfolding_all exact ⟨_, rfl, rfl⟩) dsL_m0 ?_)))
   refine (hmed.out _).mono ?_
   rintro e w2 ⟨rfl, rfl⟩
   go_wp2_with (first | (with_reducible refine lsx (wp_fld0 hF1 uq3 rfl (by with_unfolding_all exact ⟨_, rfl, rfl⟩) (dsL_size hd.out) ?_)) | (with_reducible refine lsx (wp_fld0 hF1 uq35 rfl (by with_unfolding_all exact ⟨_, rfl, rfl⟩) (dsL_notes hd.out) ?_)))
   go_ret
   exact ⟨by rw [hres.out]; rfl, hF1.below⟩
set_option maxRecDepth 20000 in
set_option maxHeartbeats 25600000 in
theorem rright_any (D : MDoc) (cs : List Value) (w : World) (hDD : RdDoc w D cs) (hsm : DcSm D) :
  Calls Tryz.prog 20 #[.agg cs.toArray] w fun e w' => e = .returned (.bool (decide (mRight D))) ∧ Below w.heap.size w w' := by
 obtain ⟨cf, eg, sj, nt, hC0, ⟨Ae, ne, ce, xe, hnce, hne', rfl, hre0, hEd0⟩, hS0, ⟨An, nn, cn, hnn, hnn', rfl, hrn0⟩, rfl⟩ := hDD
 obtain ⟨hsm1, hsm2, hsC', ⟨hsE0, hsE'⟩, hsS', hsN⟩ := hsm
 have hcl := box hC0.len
 have hsl := box hS0.len
 have hre := box hre0
 have hCd := box (fun w' (hb : Below w.heap.size w w') => hC0.on hb)
 have hSd := box (fun w' (hb : Below w.heap.size w w') => hS0.on hb)
 obtain ⟨eds, hDe'⟩ : ∃ eds, D.edges = eds := ⟨_, rfl⟩
 rw [hDe'] at hne' hEd0 hsE'
 have hDe := box hDe'
 have hEd := box hEd0
 have hne := box hne'
 have hsC := box hsC'
 have hsS := box hsS'
 have hsE := box hsE'
 have hnr := box (fun w' (hb : Below w.heap.size w w') => rrightN_any D.notes An nn cn w' (hrn0.on hb) hnn' hsN)
 obtain ⟨m, hDm'⟩ : ∃ m, D.media = m := ⟨_, rfl⟩
 obtain ⟨ty, hDt'⟩ : ∃ ty, D.type = ty := ⟨_, rfl⟩
 obtain ⟨hs, hDh'⟩ : ∃ hs, D.has = hs := ⟨_, rfl⟩
 rw [hDm', hDt', hDh']
 rw [hDt'] at hsm2
 have hDm := box hDm'
 have hDt := box hDt'
 have hDh := box hDh'
 have hmed := box (fun w' => mediaF_any ⟨ty.toArray⟩ w' (by rw [← str_len]; exact Nat.le_trans hsm2 (by decide)))
 rw [show (⟨ty.toArray⟩ : ByteArray).data.toList = ty from rfl] at hmed
 clear hC0 hS0 hre0 hEd0 hne' hsC' hsS' hsE' hrn0 hnn' hsN hDe' hDm' hDt' hDh' hsm1 hsm2 hsE0
 have hF0 := Fr.nil w
 go_enter Tryz.func20, Tryz.ntmps20
 go_step
 go_step
 (try simp only [zP, zQ, zS, zZ, zN])
 go_cut [1] (fun u1 wx => ∃ g1, u1 = .pointer (some ⟨g1, 0, none⟩) ∧ Fr [] w wx [.blk g1 40 (docL m ty cf (.slice Ae ne ce) sj hs (.slice An nn cn))])
 case first =>
  go_wp2_with (first | ((with_reducible refine lsx (wp_fbox hF0 (cs := (docL m ty cf (.slice Ae ne ce) sj hs (.slice An nn cn))) rfl (by with_unfolding_all rfl) (by with_unfolding_all rfl) ?_)); intro w1 g1 hF1 hz1))
  go_meet
  exact ⟨g1, rfl, hF1⟩
 case rest =>
  obtain ⟨g1, rfl, hF1⟩ := hcut
  clear hF0
  go_step
  go_step
  (try simp only [zP, zQ, zS, zZ, zN])
  go_cut [] (fun wx => ((D.media = sImage ∨ D.media = sIndex) ∧ (D.type = [] ∨ mediaB D.type = true) ∧ D.edges.length ≤ 64 ∧ mRightN D.notes) ∧ Fr [] w wx [.blk g1 40 (docL m ty cf (.slice Ae ne ce) sj hs (.slice An nn cn))])
  case first =>
   by_cases hi : m = sImage
   ·skip
    have hA : Box (D.media = sImage) := box (by rw [hDm.out]; exact hi)
    have a1 : (m == [97, 112, 112, 108, 105, 99, 97, 116, 105, 111, 110, 47, 118, 110, 100, 46, 111, 99, 105, 46, 105, 109, 97, 103, 101, 46, 109, 97, 110, 105, 102, 101, 115, 116, 46, 118, 49, 43, 106, 115, 111, 110]) = true := by rw [beq_iff_eq]; exact hi
    have a2 : (m != [97, 112, 112, 108, 105, 99, 97, 116, 105, 111, 110, 47, 118, 110, 100, 46, 111, 99, 105, 46, 105, 109, 97, 103, 101, 46, 109, 97, 110, 105, 102, 101, 115, 116, 46, 118, 49, 43, 106, 115, 111, 110]) = false := by rw [bne, a1]; rfl
    have b1 : (m == [97, 112, 112, 108, 105, 99, 97, 116, 105, 111, 110, 47, 118, 110, 100, 46, 111, 99, 105, 46, 105, 109, 97, 103, 101, 46, 105, 110, 100, 101, 120, 46, 118, 49, 43, 106, 115, 111, 110]) = false := by rw [beq_eq_false_iff_ne]; exact (fun h => sImage_ne (hi.symm.trans h))
    have b2 : (m != [97, 112, 112, 108, 105, 99, 97, 116, 105, 111, 110, 47, 118, 110, 100, 46, 111, 99, 105, 46, 105, 109, 97, 103, 101, 46, 105, 110, 100, 101, 120, 46, 118, 49, 43, 106, 115, 111, 110]) = true := by rw [bne, b1]; rfl
    replace hi := box hi
    by_cases ht : ty = []
    ·skip
     have t1 : (ty == []) = true := by rw [beq_iff_eq]; exact ht
     have t2 : (ty != []) = false := by rw [bne, t1]; rfl
     have hB : Box (D.type = [] ∨ mediaB D.type = true) := box (.inl (by rw [hDt.out]; exact ht))
     replace ht := box ht
     by_cases he : 64 < ne
     ·have e64 : decide ((64 : Int) < (ne : Int)) = true := decide_eq_true (by omega)
      have hres : Box (decide (mRight D) = false) := box (decide_eq_false (fun h => by have h3 := h.2.2.1; rw [hDe.out, ← hne.out] at h3; omega))
      replace he := box he
      go_wp2_with (first | (with_reducible refine lsx (wp_fld0 hF1 uq9 rfl (by with_unfolding_all exact ⟨_, rfl, rfl⟩) docL_m0 ?_)) | (with_reducible refine lsx (wp_fld0 hF1 uq9 rfl (by with_unfolding_all exact ⟨_, rfl, rfl⟩) docL_t0 ?_)) | (with_reducible refine lsx (wp_fld0 hF1 uq38 rfl (by with_unfolding_all exact ⟨_, rfl, rfl⟩) (docL_eg hcl.out) ?_)) | (with_reducible refine lsx (wp_fld0 hF1 uq35 rfl (by with_unfolding_all exact ⟨_, rfl, rfl⟩) (docL_nt hcl.out hsl.out) ?_)))
      go_ret
      exact ⟨by rw [hres.out]; rfl, hF1.below⟩
     have e64 : decide ((64 : Int) < (ne : Int)) = false := decide_eq_false (by omega)
     have hC : Box (D.edges.length ≤ 64) := box (by rw [hDe.out, ← hne.out]; omega)
     have hne64 : ne ≤ 64 := by omega
     replace he := box he
     cases hq : decide (mRightN D.notes) with
     | false =>
      have hres : Box (decide (mRight D) = false) := box (decide_eq_false (fun h => (of_decide_eq_false hq) h.2.2.2.1))
      rw [hq] at hnr
      clear hq
      go_wp2_with (first | (with_reducible refine lsx (wp_fld0 hF1 uq9 rfl (by with_unfolding_all exact ⟨_, rfl, rfl⟩) docL_m0 ?_)) | (with_reducible refine lsx (wp_fld0 hF1 uq9 rfl (by with_unfolding_all exact ⟨_, rfl, rfl⟩) docL_t0 ?_)) | (with_reducible refine lsx (wp_fld0 hF1 uq38 rfl (by with_unfolding_all exact ⟨_, rfl, rfl⟩) (docL_eg hcl.out) ?_)) | (with_reducible refine lsx (wp_fld0 hF1 uq35 rfl (by with_unfolding_all exact ⟨_, rfl, rfl⟩) (docL_nt hcl.out hsl.out) ?_)))
      refine (hnr.out _ hF1.below).mono ?_
      rintro e w2 ⟨rfl, hb2⟩
      have hF2 := hF1.call hb2
      go_wp2_with fail
      go_ret
      exact ⟨by rw [hres.out]; rfl, hF2.below⟩
     | true =>
      have hN := box (of_decide_eq_true hq)
      rw [hq] at hnr
      clear hq
      go_wp2_with (first | (with_reducible refine lsx (wp_fld0 hF1 uq9 rfl (by with_unfolding_all exact ⟨_, rfl, rfl⟩) docL_m0 ?_)) | (with_reducible refine lsx (wp_fld0 hF1 uq9 rfl (by with_unfolding_all exact ⟨_, rfl, rfl⟩) docL_t0 ?_)) | (with_reducible refine lsx (wp_fld0 hF1 uq38 rfl (by with_unfolding_all exact ⟨_, rfl, rfl⟩) (docL_eg hcl.out) ?_)) | (with_reducible refine lsx (wp_fld0 hF1 uq35 rfl (by with_unfolding_all exact ⟨_, rfl, rfl⟩) (docL_nt hcl.out hsl.out) ?_)))
      refine (hnr.out _ hF1.below).mono ?_
      rintro e w2 ⟨rfl, hb2⟩
      have hF2 := hF1.call hb2
      clear hF1 hb2
      go_wp2_with fail
      go_meet
      exact ⟨⟨.inl hA.out, hB.out, hC.out, hN.out⟩, hF2⟩
    have t1 : (ty == []) = false := by rw [beq_eq_false_iff_ne]; exact ht
    have t2 : (ty != []) = true := by rw [bne, t1]; rfl
    cases hm : mediaB ty with
    | true =>
     have hB : Box (D.type = [] ∨ mediaB D.type = true) := box (.inr (by rw [hDt.out]; exact hm))
     rw [hm] at hmed
     replace hm := box hm
     replace ht := box ht
     by_cases he : 64 < ne
     ·have e64 : decide ((64 : Int) < (ne : Int)) = true := decide_eq_true (by omega)
      have hres : Box (decide (mRight D) = false) := box (decide_eq_false (fun h => by have h3 := h.2.2.1; rw [hDe.out, ← hne.out] at h3; omega))
      replace he := box he
      go_wp2_with (first | (with_reducible refine lsx (wp_fld0 hF1 uq9 rfl (by with_unfolding_all exact ⟨_, rfl, rfl⟩) docL_m0 ?_)) | (with_reducible refine lsx (wp_fld0 hF1 uq9 rfl (by with_unfolding_all exact ⟨_, rfl, rfl⟩) docL_t0 ?_)) | (with_reducible refine lsx (wp_fld0 hF1 uq38 rfl (by with_unfolding_all exact ⟨_, rfl, rfl⟩) (docL_eg hcl.out) ?_)) | (with_reducible refine lsx (wp_fld0 hF1 uq35 rfl (by with_unfolding_all exact ⟨_, rfl, rfl⟩) (docL_nt hcl.out hsl.out) ?_)))
      refine (hmed.out _).mono ?_
      rintro e w2 ⟨rfl, rfl⟩
      go_wp2_with (first | (with_reducible refine lsx (wp_fld0 hF1 uq9 rfl (by with_unfolding_all exact ⟨_, rfl, rfl⟩) docL_m0 ?_)) | (with_reducible refine lsx (wp_fld0 hF1 uq9 rfl (by with_unfolding_all exact ⟨_, rfl, rfl⟩) docL_t0 ?_)) | (with_reducible refine lsx (wp_fld0 hF1 uq38 rfl (by with_unfolding_all exact ⟨_, rfl, rfl⟩) (docL_eg hcl.out) ?_)) | (with_reducible refine lsx (wp_fld0 hF1 uq35 rfl (by with_unfolding_all exact ⟨_, rfl, rfl⟩) (docL_nt hcl.out hsl.out) ?_)))
      go_ret
      exact ⟨by rw [hres.out]; rfl, hF1.below⟩
     have e64 : decide ((64 : Int) < (ne : Int)) = false := decide_eq_false (by omega)
     have hC : Box (D.edges.length ≤ 64) := box (by rw [hDe.out, ← hne.out]; omega)
     have hne64 : ne ≤ 64 := by omega
     replace he := box he
     cases hq : decide (mRightN D.notes) with
     | false =>
      have hres : Box (decide (mRight D) = false) := box (decide_eq_false (fun h => (of_decide_eq_false hq) h.2.2.2.1))
      rw [hq] at hnr
      clear hq
      go_wp2_with (first | (with_reducible refine lsx (wp_fld0 hF1 uq9 rfl (by with_unfolding_all exact ⟨_, rfl, rfl⟩) docL_m0 ?_)) | (with_reducible refine lsx (wp_fld0 hF1 uq9 rfl (by with_unfolding_all exact ⟨_, rfl, rfl⟩) docL_t0 ?_)) | (with_reducible refine lsx (wp_fld0 hF1 uq38 rfl (by with_unfolding_all exact ⟨_, rfl, rfl⟩) (docL_eg hcl.out) ?_)) | (with_reducible refine lsx (wp_fld0 hF1 uq35 rfl (by with_unfolding_all exact ⟨_, rfl, rfl⟩) (docL_nt hcl.out hsl.out) ?_)))
      refine (hmed.out _).mono ?_
      rintro e w2 ⟨rfl, rfl⟩
      go_wp2_with (first | (with_reducible refine lsx (wp_fld0 hF1 uq9 rfl (by with_unfolding_all exact ⟨_, rfl, rfl⟩) docL_m0 ?_)) | (with_reducible refine lsx (wp_fld0 hF1 uq9 rfl (by with_unfolding_all exact ⟨_, rfl, rfl⟩) docL_t0 ?_)) | (with_reducible refine lsx (wp_fld0 hF1 uq38 rfl (by with_unfolding_all exact ⟨_, rfl, rfl⟩) (docL_eg hcl.out) ?_)) | (with_reducible refine lsx (wp_fld0 hF1 uq35 rfl (by with_unfolding_all exact ⟨_, rfl, rfl⟩) (docL_nt hcl.out hsl.out) ?_)))
      refine (hnr.out _ hF1.below).mono ?_
      rintro e w2 ⟨rfl, hb2⟩
      have hF2 := hF1.call hb2
      go_wp2_with fail
      go_ret
      exact ⟨by rw [hres.out]; rfl, hF2.below⟩
     | true =>
      have hN := box (of_decide_eq_true hq)
      rw [hq] at hnr
      clear hq
      go_wp2_with (first | (with_reducible refine lsx (wp_fld0 hF1 uq9 rfl (by with_unfolding_all exact ⟨_, rfl, rfl⟩) docL_m0 ?_)) | (with_reducible refine lsx (wp_fld0 hF1 uq9 rfl (by with_unfolding_all exact ⟨_, rfl, rfl⟩) docL_t0 ?_)) | (with_reducible refine lsx (wp_fld0 hF1 uq38 rfl (by with_unfolding_all exact ⟨_, rfl, rfl⟩) (docL_eg hcl.out) ?_)) | (with_reducible refine lsx (wp_fld0 hF1 uq35 rfl (by with_unfolding_all exact ⟨_, rfl, rfl⟩) (docL_nt hcl.out hsl.out) ?_)))
      refine (hmed.out _).mono ?_
      rintro e w2 ⟨rfl, rfl⟩
      go_wp2_with (first | (with_reducible refine lsx (wp_fld0 hF1 uq9 rfl (by with_unfolding_all exact ⟨_, rfl, rfl⟩) docL_m0 ?_)) | (with_reducible refine lsx (wp_fld0 hF1 uq9 rfl (by with_unfolding_all exact ⟨_, rfl, rfl⟩) docL_t0 ?_)) | (with_reducible refine lsx (wp_fld0 hF1 uq38 rfl (by with_unfolding_all exact ⟨_, rfl, rfl⟩) (docL_eg hcl.out) ?_)) | (with_reducible refine lsx (wp_fld0 hF1 uq35 rfl (by with_unfolding_all exact ⟨_, rfl, rfl⟩) (docL_nt hcl.out hsl.out) ?_)))
      refine (hnr.out _ hF1.below).mono ?_
      rintro e w2 ⟨rfl, hb2⟩
      have hF2 := hF1.call hb2
      clear hF1 hb2
      go_wp2_with fail
      go_meet
      exact ⟨⟨.inl hA.out, hB.out, hC.out, hN.out⟩, hF2⟩
    | false =>
     have hres : Box (decide (mRight D) = false) := box (decide_eq_false (fun h => by
      rcases h.2.1 with h | h
      ·exact ht (by rw [← hDt.out]; exact h)
      ·rw [hDt.out, hm] at h; cases h))
     rw [hm] at hmed
     replace hm := box hm
     replace ht := box ht
     go_wp2_with (first | (with_reducible refine lsx (wp_fld0 hF1 uq9 rfl (by with_unfolding_all exact ⟨_, rfl, rfl⟩) docL_m0 ?_)) | (with_reducible refine lsx (wp_fld0 hF1 uq9 rfl (by with_unfolding_all exact ⟨_, rfl, rfl⟩) docL_t0 ?_)) | (with_reducible refine lsx (wp_fld0 hF1 uq38 rfl (by with_unfolding_all exact ⟨_, rfl, rfl⟩) (docL_eg hcl.out) ?_)) | (with_reducible refine lsx (wp_fld0 hF1 uq35 rfl (by with_unfolding_all exact ⟨_, rfl, rfl⟩) (docL_nt hcl.out hsl.out) ?_)))
     refine (hmed.out _).mono ?_
     rintro e w2 ⟨rfl, rfl⟩
     go_wp2_with (first | (with_reducible refine lsx (wp_fld0 hF1 uq9 rfl (by with_unfolding_all exact ⟨_, rfl, rfl⟩) docL_m0 ?_)) | (with_reducible refine lsx (wp_fld0 hF1 uq9 rfl (by with_unfolding_all exact ⟨_, rfl, rfl⟩) docL_t0 ?_)) | (with_reducible refine lsx (wp_fld0 hF1 uq38 rfl (by with_unfolding_all exact ⟨_, rfl, rfl⟩) (docL_eg hcl.out) ?_)) | (with_reducible refine lsx (wp_fld0 hF1 uq35 rfl (by with_unfolding_all exact ⟨_, rfl, rfl⟩) (docL_nt hcl.out hsl.out) ?_)))
     go_ret
     exact ⟨by rw [hres.out]; rfl, hF1.below⟩
   by_cases hx : m = sIndex
   ·skip
    have hA : Box (D.media = sIndex) := box (by rw [hDm.out]; exact hx)
    have a1 : (m == [97, 112, 112, 108, 105, 99, 97, 116, 105, 111, 110, 47, 118, 110, 100, 46, 111, 99, 105, 46, 105, 109, 97, 103, 101, 46, 105, 110, 100, 101, 120, 46, 118, 49, 43, 106, 115, 111, 110]) = true := by rw [beq_iff_eq]; exact hx
    have a2 : (m != [97, 112, 112, 108, 105, 99, 97, 116, 105, 111, 110, 47, 118, 110, 100, 46, 111, 99, 105, 46, 105, 109, 97, 103, 101, 46, 105, 110, 100, 101, 120, 46, 118, 49, 43, 106, 115, 111, 110]) = false := by rw [bne, a1]; rfl
    have b1 : (m == [97, 112, 112, 108, 105, 99, 97, 116, 105, 111, 110, 47, 118, 110, 100, 46, 111, 99, 105, 46, 105, 109, 97, 103, 101, 46, 109, 97, 110, 105, 102, 101, 115, 116, 46, 118, 49, 43, 106, 115, 111, 110]) = false := by rw [beq_eq_false_iff_ne]; exact hi
    have b2 : (m != [97, 112, 112, 108, 105, 99, 97, 116, 105, 111, 110, 47, 118, 110, 100, 46, 111, 99, 105, 46, 105, 109, 97, 103, 101, 46, 109, 97, 110, 105, 102, 101, 115, 116, 46, 118, 49, 43, 106, 115, 111, 110]) = true := by rw [bne, b1]; rfl
    replace hi := box hi
    replace hx := box hx
    by_cases ht : ty = []
    ·skip
     have t1 : (ty == []) = true := by rw [beq_iff_eq]; exact ht
     have t2 : (ty != []) = false := by rw [bne, t1]; rfl
     have hB : Box (D.type = [] ∨ mediaB D.type = true) := box (.inl (by rw [hDt.out]; exact ht))
     replace ht := box ht
     by_cases he : 64 < ne
     ·have e64 : decide ((64 : Int) < (ne : Int)) = true := decide_eq_true (by omega)
      have hres : Box (decide (mRight D) = false) := box (decide_eq_false (fun h => by have h3 := h.2.2.1; rw [hDe.out, ← hne.out] at h3; omega))
      replace he := box he
      go_wp2_with (first | (with_reducible refine lsx (wp_fld0 hF1 uq9 rfl (by with_unfolding_all exact ⟨_, rfl, rfl⟩) docL_m0 ?_)) | (with_reducible refine lsx (wp_fld0 hF1 uq9 rfl (by with_unfolding_all exact ⟨_, rfl, rfl⟩) docL_t0 ?_)) | (with_reducible refine lsx (wp_fld0 hF1 uq38 rfl (by with_unfolding_all exact ⟨_, rfl, rfl⟩) (docL_eg hcl.out) ?_)) | (with_reducible refine lsx (wp_fld0 hF1 uq35 rfl (by with_unfolding_all exact ⟨_, rfl, rfl⟩) (docL_nt hcl.out hsl.out) ?_)))
      go_ret
      exact ⟨by rw [hres.out]; rfl, hF1.below⟩
     have e64 : decide ((64 : Int) < (ne : Int)) = false := decide_eq_false (by omega)
     have hC : Box (D.edges.length ≤ 64) := box (by rw [hDe.out, ← hne.out]; omega)
     have hne64 : ne ≤ 64 := by omega
     replace he := box he
     cases hq : decide (mRightN D.notes) with
     | false =>
      have hres : Box (decide (mRight D) = false) := box (decide_eq_false (fun h => (of_decide_eq_false hq) h.2.2.2.1))
      rw [hq] at hnr
      clear hq
      go_wp2_with (first | (with_reducible refine lsx (wp_fld0 hF1 uq9 rfl (by with_unfolding_all exact ⟨_, rfl, rfl⟩) docL_m0 ?_)) | (with_reducible refine lsx (wp_fld0 hF1 uq9 rfl (by with_unfolding_all exact ⟨_, rfl, rfl⟩) docL_t0 ?_)) | (with_reducible refine lsx (wp_fld0 hF1 uq38 rfl (by with_unfolding_all exact ⟨_, rfl, rfl⟩) (docL_eg hcl.out) ?_)) | (with_reducible refine lsx (wp_fld0 hF1 uq35 rfl (by with_unfolding_all exact ⟨_, rfl, rfl⟩) (docL_nt hcl.out hsl.out) ?_)))
      refine (hnr.out _ hF1.below).mono ?_
      rintro e w2 ⟨rfl, hb2⟩
      have hF2 := hF1.call hb2
      go_wp2_with fail
      go_ret
      exact ⟨by rw [hres.out]; rfl, hF2.below⟩
     | true =>
      have hN := box (of_decide_eq_true hq)
      rw [hq] at hnr
      clear hq
      go_wp2_with (first | (with_reducible refine lsx (wp_fld0 hF1 uq9 rfl (by with_unfolding_all exact ⟨_, rfl, rfl⟩) docL_m0 ?_)) | (with_reducible refine lsx (wp_fld0 hF1 uq9 rfl (by with_unfolding_all exact ⟨_, rfl, rfl⟩) docL_t0 ?_)) | (with_reducible refine lsx (wp_fld0 hF1 uq38 rfl (by with_unfolding_all exact ⟨_, rfl, rfl⟩) (docL_eg hcl.out) ?_)) | (with_reducible refine lsx (wp_fld0 hF1 uq35 rfl (by with_unfolding_all exact ⟨_, rfl, rfl⟩) (docL_nt hcl.out hsl.out) ?_)))
      refine (hnr.out _ hF1.below).mono ?_
      rintro e w2 ⟨rfl, hb2⟩
      have hF2 := hF1.call hb2
      clear hF1 hb2
      go_wp2_with fail
      go_meet
      exact ⟨⟨.inr hA.out, hB.out, hC.out, hN.out⟩, hF2⟩
    have t1 : (ty == []) = false := by rw [beq_eq_false_iff_ne]; exact ht
    have t2 : (ty != []) = true := by rw [bne, t1]; rfl
    cases hm : mediaB ty with
    | true =>
     have hB : Box (D.type = [] ∨ mediaB D.type = true) := box (.inr (by rw [hDt.out]; exact hm))
     rw [hm] at hmed
     replace hm := box hm
     replace ht := box ht
     by_cases he : 64 < ne
     ·have e64 : decide ((64 : Int) < (ne : Int)) = true := decide_eq_true (by omega)
      have hres : Box (decide (mRight D) = false) := box (decide_eq_false (fun h => by have h3 := h.2.2.1; rw [hDe.out, ← hne.out] at h3; omega))
      replace he := box he
      go_wp2_with (first | (with_reducible refine lsx (wp_fld0 hF1 uq9 rfl (by with_unfolding_all exact ⟨_, rfl, rfl⟩) docL_m0 ?_)) | (with_reducible refine lsx (wp_fld0 hF1 uq9 rfl (by with_unfolding_all exact ⟨_, rfl, rfl⟩) docL_t0 ?_)) | (with_reducible refine lsx (wp_fld0 hF1 uq38 rfl (by with_unfolding_all exact ⟨_, rfl, rfl⟩) (docL_eg hcl.out) ?_)) | (with_reducible refine lsx (wp_fld0 hF1 uq35 rfl (by with_unfolding_all exact ⟨_, rfl, rfl⟩) (docL_nt hcl.out hsl.out) ?_)))
      refine (hmed.out _).mono ?_
      rintro e w2 ⟨rfl, rfl⟩
      go_wp2_with (first | (with_reducible refine lsx (wp_fld0 hF1 uq9 rfl (by with_unfolding_all exact ⟨_, rfl, rfl⟩) docL_m0 ?_)) | (with_reducible refine lsx (wp_fld0 hF1 uq9 rfl (by with_unfolding_all exact ⟨_, rfl, rfl⟩) docL_t0 ?_)) | (with_reducible refine lsx (wp_fld0 hF1 uq38 rfl (by with_unfolding_all exact ⟨_, rfl, rfl⟩) (docL_eg hcl.out) ?_)) | (with_reducible refine lsx (wp_fld0 hF1 uq35 rfl (by with_unfolding_all exact ⟨_, rfl, rfl⟩) (docL_nt hcl.out hsl.out) ?_)))
      go_ret
      exact ⟨by rw [hres.out]; rfl, hF1.below⟩
     have e64 : decide ((64 : Int) < (ne : Int)) = false := decide_eq_false (by omega)
     have hC : Box (D.edges.length ≤ 64) := box (by rw [hDe.out, ← hne.out]; omega)
     have hne64 : ne ≤ 64 := by omega
     replace he := box he
     cases hq : decide (mRightN D.notes) with
     | false =>
      have hres : Box (decide (mRight D) = false) := box (decide_eq_false (fun h => (of_decide_eq_false hq) h.2.2.2.1))
      rw [hq] at hnr
      clear hq
      go_wp2_with (first | (with_reducible refine lsx (wp_fld0 hF1 uq9 rfl (by with_unfolding_all exact ⟨_, rfl, rfl⟩) docL_m0 ?_)) | (with_reducible refine lsx (wp_fld0 hF1 uq9 rfl (by with_unfolding_all exact ⟨_, rfl, rfl⟩) docL_t0 ?_)) | (with_reducible refine lsx (wp_fld0 hF1 uq38 rfl (by with_unfolding_all exact ⟨_, rfl, rfl⟩) (docL_eg hcl.out) ?_)) | (with_reducible refine lsx (wp_fld0 hF1 uq35 rfl (by with_unfolding_all exact ⟨_, rfl, rfl⟩) (docL_nt hcl.out hsl.out) ?_)))
      refine (hmed.out _).mono ?_
      rintro e w2 ⟨rfl, rfl⟩
      go_wp2_with (first | (with_reducible refine lsx (wp_fld0 hF1 uq9 rfl (by with_unfolding_all exact ⟨_, rfl, rfl⟩) docL_m0 ?_)) | (with_reducible refine lsx (wp_fld0 hF1 uq9 rfl (by with_unfolding_all exact ⟨_, rfl, rfl⟩) docL_t0 ?_)) | (with_reducible refine lsx (wp_fld0 hF1 uq38 rfl (by with_unfolding_all exact ⟨_, rfl, rfl⟩) (docL_eg hcl.out) ?_)) | (with_reducible refine lsx (wp_fld0 hF1 uq35 rfl (by with_unfolding_all exact ⟨_, rfl, rfl⟩) (docL_nt hcl.out hsl.out) ?_)))
      refine (hnr.out _ hF1.below).mono ?_
      rintro e w2 ⟨rfl, hb2⟩
      have hF2 := hF1.call hb2
      go_wp2_with fail
      go_ret
      exact ⟨by rw [hres.out]; rfl, hF2.below⟩
     | true =>
      have hN := box (of_decide_eq_true hq)
      rw [hq] at hnr
      clear hq
      go_wp2_with (first | (with_reducible refine lsx (wp_fld0 hF1 uq9 rfl (by with_unfolding_all exact ⟨_, rfl, rfl⟩) docL_m0 ?_)) | (with_reducible refine lsx (wp_fld0 hF1 uq9 rfl (by with_unfolding_all exact ⟨_, rfl, rfl⟩) docL_t0 ?_)) | (with_reducible refine lsx (wp_fld0 hF1 uq38 rfl (by with_unfolding_all exact ⟨_, rfl, rfl⟩) (docL_eg hcl.out) ?_)) | (with_reducible refine lsx (wp_fld0 hF1 uq35 rfl (by with_unfolding_all exact ⟨_, rfl, rfl⟩) (docL_nt hcl.out hsl.out) ?_)))
      refine (hmed.out _).mono ?_
      rintro e w2 ⟨rfl, rfl⟩
      go_wp2_with (first | (with_reducible refine lsx (wp_fld0 hF1 uq9 rfl (by with_unfolding_all exact ⟨_, rfl, rfl⟩) docL_m0 ?_)) | (with_reducible refine lsx (wp_fld0 hF1 uq9 rfl (by with_unfolding_all exact ⟨_, rfl, rfl⟩) docL_t0 ?_)) | (with_reducible refine lsx (wp_fld0 hF1 uq38 rfl (by with_unfolding_all exact ⟨_, rfl, rfl⟩) (docL_eg hcl.out) ?_)) | (with_reducible refine lsx (wp_fld0 hF1 uq35 rfl (by with_unfolding_all exact ⟨_, rfl, rfl⟩) (docL_nt hcl.out hsl.out) ?_)))
      refine (hnr.out _ hF1.below).mono ?_
      rintro e w2 ⟨rfl, hb2⟩
      have hF2 := hF1.call hb2
      clear hF1 hb2
      go_wp2_with fail
      go_meet
      exact ⟨⟨.inr hA.out, hB.out, hC.out, hN.out⟩, hF2⟩
    | false =>
     have hres : Box (decide (mRight D) = false) := box (decide_eq_false (fun h => by
      rcases h.2.1 with h | h
      ·exact ht (by rw [← hDt.out]; exact h)
      ·rw [hDt.out, hm] at h; cases h))
     rw [hm] at hmed
     replace hm := box hm
     replace ht := box ht
     go_wp2_with (first | (with_reducible refine lsx (wp_fld0 hF1 uq9 rfl (by with_unfolding_all exact ⟨_, rfl, rfl⟩) docL_m0 ?_)) | (with_reducible refine lsx (wp_fld0 hF1 uq9 rfl (by with_unfolding_all exact ⟨_, rfl, rfl⟩) docL_t0 ?_)) | (with_reducible refine lsx (wp_fld0 hF1 uq38 rfl (by with_unfolding_all exact ⟨_, rfl, rfl⟩) (docL_eg hcl.out) ?_)) | (with_reducible refine lsx (wp_fld0 hF1 uq35 rfl (by with_unfolding_all exact ⟨_, rfl, rfl⟩) (docL_nt hcl.out hsl.out) ?_)))
     refine (hmed.out _).mono ?_
     rintro e w2 ⟨rfl, rfl⟩
     go_wp2_with (first | (with_reducible refine lsx (wp_fld0 hF1 uq9 rfl (by with_unfolding_all exact ⟨_, rfl, rfl⟩) docL_m0 ?_)) | (with_reducible refine lsx (wp_fld0 hF1 uq9 rfl (by with_unfolding_all exact ⟨_, rfl, rfl⟩) docL_t0 ?_)) | (with_reducible refine lsx (wp_fld0 hF1 uq38 rfl (by with_unfolding_all exact ⟨_, rfl, rfl⟩) (docL_eg hcl.out) ?_)) | (with_reducible refine lsx (wp_fld0 hF1 uq35 rfl (by with_unfolding_all exact ⟨_, rfl, rfl⟩) (docL_nt hcl.out hsl.out) ?_)))
     go_ret
     exact ⟨by rw [hres.out]; rfl, hF1.below⟩
   have a1 : (m == [97, 112, 112, 108, 105, 99, 97, 116, 105, 111, 110, 47, 118, 110, 100, 46, 111, 99, 105, 46, 105, 109, 97, 103, 101, 46, 109, 97, 110, 105, 102, 101, 115, 116, 46, 118, 49, 43, 106, 115, 111, 110]) = false := by rw [beq_eq_false_iff_ne]; exact hi
   have a2 : (m != [97, 112, 112, 108, 105, 99, 97, 116, 105, 111, 110, 47, 118, 110, 100, 46, 111, 99, 105, 46, 105, 109, 97, 103, 101, 46, 109, 97, 110, 105, 102, 101, 115, 116, 46, 118, 49, 43, 106, 115, 111, 110]) = true := by rw [bne, a1]; rfl
   have b1 : (m == [97, 112, 112, 108, 105, 99, 97, 116, 105, 111, 110, 47, 118, 110, 100, 46, 111, 99, 105, 46, 105, 109, 97, 103, 101, 46, 105, 110, 100, 101, 120, 46, 118, 49, 43, 106, 115, 111, 110]) = false := by rw [beq_eq_false_iff_ne]; exact hx
   have b2 : (m != [97, 112, 112, 108, 105, 99, 97, 116, 105, 111, 110, 47, 118, 110, 100, 46, 111, 99, 105, 46, 105, 109, 97, 103, 101, 46, 105, 110, 100, 101, 120, 46, 118, 49, 43, 106, 115, 111, 110]) = true := by rw [bne, b1]; rfl
   have hres : Box (decide (mRight D) = false) := box (decide_eq_false (fun h => by
    have h1 := h.1
    rw [hDm.out] at h1
    rcases h1 with h1 | h1
    ·exact hi h1
    ·exact hx h1))
   replace hi := box hi
   replace hx := box hx
   go_wp2_with (first | (with_reducible refine lsx (wp_fld0 hF1 uq9 rfl (by with_unfolding_all exact ⟨_, rfl, rfl⟩) docL_m0 ?_)) | (with_reducible refine lsx (wp_fld0 hF1 uq9 rfl (by with_unfolding_all exact ⟨_, rfl, rfl⟩) docL_t0 ?_)) | (with_reducible refine lsx (wp_fld0 hF1 uq38 rfl (by with_unfolding_all exact ⟨_, rfl, rfl⟩) (docL_eg hcl.out) ?_)) | (with_reducible refine lsx (wp_fld0 hF1 uq35 rfl (by with_unfolding_all exact ⟨_, rfl, rfl⟩) (docL_nt hcl.out hsl.out) ?_)))
   go_ret
   exact ⟨by rw [hres.out]; rfl, hF1.below⟩
  case rest =>
   obtain ⟨⟨hA0, hB', hC', hN'⟩, hF2⟩ := hcut
   clear hF1 hnr hmed
   have hB := box hB'
   have hC := box hC'
   have hN := box hN'
   have hne64 : ne ≤ 64 := by rw [hDe.out] at hC'; rw [hne.out]; exact hC'
   clear hB' hC' hN'
   have hok : Box ((∀ x ∈ eds, mRightD x) → (D.media = sImage → mRightD D.config) → (D.has = true → mRightD D.subject) → mRight D) := box (fun h1 h2 h3 => ⟨hA0, hB.out, hC.out, hN.out, by rw [hDe.out]; exact h1, h2, h3⟩)
   replace hA0 := box hA0
   go_wp2_with fail
   go_loopg [3] ne (fun g a wr => ∃ i : Nat, i ≤ ne ∧ Box (g = ne - i) ∧ a = .int .i64 (i : Int) ∧ Box (∀ j x, j < i → eds[j]? = some x → mRightD x) ∧ Fr [] w wr [.blk g1 40 (docL m ty cf (.slice Ae ne ce) sj hs (.slice An nn cn))])
   case atStart => exact ⟨0, by omega, box rfl, rfl, box (fun j x hj => absurd hj (by omega)), hF2⟩
   case round =>
    clear hF2
    obtain ⟨i, hi, hgi, rfl, hgd, hF⟩ := hrel
    have hkk : Box (_ = ne - i) := hgi
    clear hgi
    have hre' := hre.out.below hF.below
    by_cases hlt : i < ne
    ·obtain ⟨x, hx'⟩ : ∃ x, eds[i]? = some x := ⟨eds[i]'(by rw [← hne.out]; exact hlt), by simp⟩
     have hxm := List.mem_of_getElem? hx'
     have hxd := (hEd.out i x hx').on hF.below
     have hxl := box hxd.len
     have hdx := box (rrightD_any x _ _ hxd (hsE.out x hxm))
     have hx := box hx'
     have hci := box (rfl : ((xe.drop (i * 35)).take 35) = ((xe.drop (i * 35)).take 35))
     obtain ⟨ci, hce⟩ : ∃ ci, ci = (xe.drop (i * 35)).take 35 := ⟨_, rfl⟩
     rw [← hce] at hxl hdx
     replace hce := box hce.symm
     clear hci hx' hxd
     cases hq : decide (mRightD x) with
     | false =>
      have hres : Box (decide (mRight D) = false) := box (decide_eq_false (fun h => (of_decide_eq_false hq) (h.2.2.2.2.1 x (by rw [hDe.out]; exact hxm))))
      rw [hq] at hdx
      clear hq hxm
      go_wp2_with (first | (with_reducible refine lsx (wp_fld0 hF uq38 rfl (by with_unfolding_all exact ⟨_, rfl, rfl⟩) (docL_eg hcl.out) ?_)) | (with_reducible refine lsx (wp_indexAddr T_rdesc17 hre' (by with_unfolding_all exact ⟨_, _, _, _, rfl, rfl, rfl⟩) (by omega) (by omega) ?_)) | (with_reducible refine lsx (wp_loadA hre' uq37 rfl (by with_unfolding_all exact ⟨_, rfl, rfl⟩) (ds := ci) (by rw [hxl.out]; kernel_rfl) (by rw [hxl.out]; with_unfolding_all exact hce.out) ?_)))
      refine hdx.out.mono ?_
      rintro e w5 ⟨rfl, hb5⟩
      have hF5 := hF.call hb5
      go_wp2_with fail
      go_ret
      exact ⟨by rw [hres.out]; rfl, hF5.below⟩
     | true =>
      have hgd2 : Box (∀ j y, j < i + 1 → eds[j]? = some y → mRightD y) := box (fun j y hj hy => by
       by_cases h : j < i
       ·exact hgd.out j y h hy
       ·obtain rfl : j = i := by omega
        rw [hx.out] at hy
        injection hy with hy
        subst hy
        exact of_decide_eq_true hq)
      rw [hq] at hdx
      clear hq hxm
      go_wp2_with (first | (with_reducible refine lsx (wp_fld0 hF uq38 rfl (by with_unfolding_all exact ⟨_, rfl, rfl⟩) (docL_eg hcl.out) ?_)) | (with_reducible refine lsx (wp_indexAddr T_rdesc17 hre' (by with_unfolding_all exact ⟨_, _, _, _, rfl, rfl, rfl⟩) (by omega) (by omega) ?_)) | (with_reducible refine lsx (wp_loadA hre' uq37 rfl (by with_unfolding_all exact ⟨_, rfl, rfl⟩) (ds := ci) (by rw [hxl.out]; kernel_rfl) (by rw [hxl.out]; with_unfolding_all exact hce.out) ?_)))
      refine hdx.out.mono ?_
      rintro e w5 ⟨rfl, hb5⟩
      have hF5 := hF.call hb5
      go_wp2_with fail
      go_roundg (ne - (i + 1))
      case rel => exact ⟨i + 1, by omega, box rfl, by go_num, hgd2, hF5⟩
      case measure => have := hkk.out; omega
    ·obtain rfl : ne = i := by omega
     have hall : Box (∀ x ∈ eds, mRightD x) := box (fun x hx => by
      obtain ⟨j, hj⟩ := List.mem_iff_getElem?.1 hx
      exact hgd.out j x (by rw [hne.out]; exact (List.getElem?_eq_some_iff.1 hj).1) hj)
     clear hgd
     by_cases hi : m = sImage
     ·skip
      have hA : Box (D.media = sImage) := box (by rw [hDm.out]; exact hi)
      have a1 : (m == [97, 112, 112, 108, 105, 99, 97, 116, 105, 111, 110, 47, 118, 110, 100, 46, 111, 99, 105, 46, 105, 109, 97, 103, 101, 46, 109, 97, 110, 105, 102, 101, 115, 116, 46, 118, 49, 43, 106, 115, 111, 110]) = true := by rw [beq_iff_eq]; exact hi
      have a2 : (m != [97, 112, 112, 108, 105, 99, 97, 116, 105, 111, 110, 47, 118, 110, 100, 46, 111, 99, 105, 46, 105, 109, 97, 103, 101, 46, 109, 97, 110, 105, 102, 101, 115, 116, 46, 118, 49, 43, 106, 115, 111, 110]) = false := by rw [bne, a1]; rfl
      have b1 : (m == [97, 112, 112, 108, 105, 99, 97, 116, 105, 111, 110, 47, 118, 110, 100, 46, 111, 99, 105, 46, 105, 109, 97, 103, 101, 46, 105, 110, 100, 101, 120, 46, 118, 49, 43, 106, 115, 111, 110]) = false := by rw [beq_eq_false_iff_ne]; exact (fun h => sImage_ne (hi.symm.trans h))
      have b2 : (m != [97, 112, 112, 108, 105, 99, 97, 116, 105, 111, 110, 47, 118, 110, 100, 46, 111, 99, 105, 46, 105, 109, 97, 103, 101, 46, 105, 110, 100, 101, 120, 46, 118, 49, 43, 106, 115, 111, 110]) = true := by rw [bne, b1]; rfl
      replace hi := box hi
      have hdc := box (rrightD_any D.config _ _ (hCd.out _ hF.below) hsC.out)
      cases hq : decide (mRightD D.config) with
      | false =>
       have hres : Box (decide (mRight D) = false) := box (decide_eq_false (fun h => (of_decide_eq_false hq) (h.2.2.2.2.2.1 hA.out)))
       rw [hq] at hdc
       clear hq
       go_wp2_with (first | (with_reducible refine lsx (wp_fld0 hF uq38 rfl (by with_unfolding_all exact ⟨_, rfl, rfl⟩) (docL_eg hcl.out) ?_)) | (with_reducible refine lsx (wp_fld0 hF uq9 rfl (by with_unfolding_all exact ⟨_, rfl, rfl⟩) docL_m0 ?_)) | (with_reducible refine lsx (wp_fldA0 hF uq37 rfl (by with_unfolding_all exact ⟨_, rfl, rfl⟩) (ds := cf) (by rw [hcl.out]; kernel_rfl) (by rw [hcl.out]; exact docL_cf hcl.out) ?_)) | (with_reducible refine lsx (wp_fld0 hF uq4 rfl (by with_unfolding_all exact ⟨_, rfl, rfl⟩) (docL_has hcl.out hsl.out) ?_)) | (with_reducible refine lsx (wp_fldA0 hF uq37 rfl (by with_unfolding_all exact ⟨_, rfl, rfl⟩) (ds := sj) (by rw [hsl.out]; kernel_rfl) (by rw [hsl.out]; exact docL_sj hcl.out hsl.out) ?_)))
       refine hdc.out.mono ?_
       rintro e w7 ⟨rfl, hb7⟩
       have hF7 := hF.call hb7
       go_wp2_with fail
       go_ret
       exact ⟨by rw [hres.out]; rfl, hF7.below⟩
      | true =>
       have hcg := box (of_decide_eq_true hq)
       rw [hq] at hdc
       clear hq
       go_wp2_with (first | (with_reducible refine lsx (wp_fld0 hF uq38 rfl (by with_unfolding_all exact ⟨_, rfl, rfl⟩) (docL_eg hcl.out) ?_)) | (with_reducible refine lsx (wp_fld0 hF uq9 rfl (by with_unfolding_all exact ⟨_, rfl, rfl⟩) docL_m0 ?_)) | (with_reducible refine lsx (wp_fldA0 hF uq37 rfl (by with_unfolding_all exact ⟨_, rfl, rfl⟩) (ds := cf) (by rw [hcl.out]; kernel_rfl) (by rw [hcl.out]; exact docL_cf hcl.out) ?_)) | (with_reducible refine lsx (wp_fld0 hF uq4 rfl (by with_unfolding_all exact ⟨_, rfl, rfl⟩) (docL_has hcl.out hsl.out) ?_)) | (with_reducible refine lsx (wp_fldA0 hF uq37 rfl (by with_unfolding_all exact ⟨_, rfl, rfl⟩) (ds := sj) (by rw [hsl.out]; kernel_rfl) (by rw [hsl.out]; exact docL_sj hcl.out hsl.out) ?_)))
       refine hdc.out.mono ?_
       rintro e w7 ⟨rfl, hb7⟩
       have hF7 := hF.call hb7
       cases hs with
       | false =>
        have hres : Box (decide (mRight D) = true) := box (decide_eq_true (hok.out hall.out (fun _ => hcg.out) (fun h => by rw [hDh.out] at h; cases h)))
        go_wp2_with (first | (with_reducible refine lsx (wp_fld0 hF7 uq38 rfl (by with_unfolding_all exact ⟨_, rfl, rfl⟩) (docL_eg hcl.out) ?_)) | (with_reducible refine lsx (wp_fld0 hF7 uq9 rfl (by with_unfolding_all exact ⟨_, rfl, rfl⟩) docL_m0 ?_)) | (with_reducible refine lsx (wp_fldA0 hF7 uq37 rfl (by with_unfolding_all exact ⟨_, rfl, rfl⟩) (ds := cf) (by rw [hcl.out]; kernel_rfl) (by rw [hcl.out]; exact docL_cf hcl.out) ?_)) | (with_reducible refine lsx (wp_fld0 hF7 uq4 rfl (by with_unfolding_all exact ⟨_, rfl, rfl⟩) (docL_has hcl.out hsl.out) ?_)) | (with_reducible refine lsx (wp_fldA0 hF7 uq37 rfl (by with_unfolding_all exact ⟨_, rfl, rfl⟩) (ds := sj) (by rw [hsl.out]; kernel_rfl) (by rw [hsl.out]; exact docL_sj hcl.out hsl.out) ?_)))
        go_ret
        exact ⟨by rw [hres.out]; rfl, hF7.below⟩
       | true =>
        have hds := box (rrightD_any D.subject _ _ (hSd.out _ hF7.below) hsS.out)
        have hres : Box (decide (mRight D) = decide (mRightD D.subject)) := box (by
         by_cases h : mRightD D.subject
         ·rw [decide_eq_true h, decide_eq_true (hok.out hall.out (fun _ => hcg.out) (fun _ => h))]
         ·rw [decide_eq_false h, decide_eq_false (fun h2 => h (h2.2.2.2.2.2.2 hDh.out))])
        go_wp2_with (first | (with_reducible refine lsx (wp_fld0 hF7 uq38 rfl (by with_unfolding_all exact ⟨_, rfl, rfl⟩) (docL_eg hcl.out) ?_)) | (with_reducible refine lsx (wp_fld0 hF7 uq9 rfl (by with_unfolding_all exact ⟨_, rfl, rfl⟩) docL_m0 ?_)) | (with_reducible refine lsx (wp_fldA0 hF7 uq37 rfl (by with_unfolding_all exact ⟨_, rfl, rfl⟩) (ds := cf) (by rw [hcl.out]; kernel_rfl) (by rw [hcl.out]; exact docL_cf hcl.out) ?_)) | (with_reducible refine lsx (wp_fld0 hF7 uq4 rfl (by with_unfolding_all exact ⟨_, rfl, rfl⟩) (docL_has hcl.out hsl.out) ?_)) | (with_reducible refine lsx (wp_fldA0 hF7 uq37 rfl (by with_unfolding_all exact ⟨_, rfl, rfl⟩) (ds := sj) (by rw [hsl.out]; kernel_rfl) (by rw [hsl.out]; exact docL_sj hcl.out hsl.out) ?_)))
        refine hds.out.mono ?_
        rintro e w9 ⟨rfl, hb9⟩
        have hF9 := hF7.call hb9
        go_wp2_with fail
        go_ret
        exact ⟨by rw [hres.out]; rfl, hF9.below⟩
     ·skip
      have hA : Box (D.media = sIndex) := box (hA0.out.resolve_left (by rw [hDm.out]; exact hi))
      have hx : m = sIndex := by rw [← hDm.out]; exact hA.out
      have a1 : (m == [97, 112, 112, 108, 105, 99, 97, 116, 105, 111, 110, 47, 118, 110, 100, 46, 111, 99, 105, 46, 105, 109, 97, 103, 101, 46, 105, 110, 100, 101, 120, 46, 118, 49, 43, 106, 115, 111, 110]) = true := by rw [beq_iff_eq]; exact hx
      have a2 : (m != [97, 112, 112, 108, 105, 99, 97, 116, 105, 111, 110, 47, 118, 110, 100, 46, 111, 99, 105, 46, 105, 109, 97, 103, 101, 46, 105, 110, 100, 101, 120, 46, 118, 49, 43, 106, 115, 111, 110]) = false := by rw [bne, a1]; rfl
      have b1 : (m == [97, 112, 112, 108, 105, 99, 97, 116, 105, 111, 110, 47, 118, 110, 100, 46, 111, 99, 105, 46, 105, 109, 97, 103, 101, 46, 109, 97, 110, 105, 102, 101, 115, 116, 46, 118, 49, 43, 106, 115, 111, 110]) = false := by rw [beq_eq_false_iff_ne]; exact hi
      have b2 : (m != [97, 112, 112, 108, 105, 99, 97, 116, 105, 111, 110, 47, 118, 110, 100, 46, 111, 99, 105, 46, 105, 109, 97, 103, 101, 46, 109, 97, 110, 105, 102, 101, 115, 116, 46, 118, 49, 43, 106, 115, 111, 110]) = true := by rw [bne, b1]; rfl
      replace hi := box hi
      replace hx := box hx
      cases hs with
      | false =>
       have hres : Box (decide (mRight D) = true) := box (decide_eq_true (hok.out hall.out (fun h => absurd (h.symm.trans hA.out) sImage_ne) (fun h => by rw [hDh.out] at h; cases h)))
       go_wp2_with (first | (with_reducible refine lsx (wp_fld0 hF uq38 rfl (by with_unfolding_all exact ⟨_, rfl, rfl⟩) (docL_eg hcl.out) ?_)) | (with_reducible refine lsx (wp_fld0 hF uq9 rfl (by with_unfolding_all exact ⟨_, rfl, rfl⟩) docL_m0 ?_)) | (with_reducible refine lsx (wp_fldA0 hF uq37 rfl (by with_unfolding_all exact ⟨_, rfl, rfl⟩) (ds := cf) (by rw [hcl.out]; kernel_rfl) (by rw [hcl.out]; exact docL_cf hcl.out) ?_)) | (with_reducible refine lsx (wp_fld0 hF uq4 rfl (by with_unfolding_all exact ⟨_, rfl, rfl⟩) (docL_has hcl.out hsl.out) ?_)) | (with_reducible refine lsx (wp_fldA0 hF uq37 rfl (by with_unfolding_all exact ⟨_, rfl, rfl⟩) (ds := sj) (by rw [hsl.out]; kernel_rfl) (by rw [hsl.out]; exact docL_sj hcl.out hsl.out) ?_)))
       go_ret
       exact ⟨by rw [hres.out]; rfl, hF.below⟩
      | true =>
       have hds := box (rrightD_any D.subject _ _ (hSd.out _ hF.below) hsS.out)
       have hres : Box (decide (mRight D) = decide (mRightD D.subject)) := box (by
        by_cases h : mRightD D.subject
        ·rw [decide_eq_true h, decide_eq_true (hok.out hall.out (fun h => absurd (h.symm.trans hA.out) sImage_ne) (fun _ => h))]
        ·rw [decide_eq_false h, decide_eq_false (fun h2 => h (h2.2.2.2.2.2.2 hDh.out))])
       go_wp2_with (first | (with_reducible refine lsx (wp_fld0 hF uq38 rfl (by with_unfolding_all exact ⟨_, rfl, rfl⟩) (docL_eg hcl.out) ?_)) | (with_reducible refine lsx (wp_fld0 hF uq9 rfl (by with_unfolding_all exact ⟨_, rfl, rfl⟩) docL_m0 ?_)) | (with_reducible refine lsx (wp_fldA0 hF uq37 rfl (by with_unfolding_all exact ⟨_, rfl, rfl⟩) (ds := cf) (by rw [hcl.out]; kernel_rfl) (by rw [hcl.out]; exact docL_cf hcl.out) ?_)) | (with_reducible refine lsx (wp_fld0 hF uq4 rfl (by with_unfolding_all exact ⟨_, rfl, rfl⟩) (docL_has hcl.out hsl.out) ?_)) | (with_reducible refine lsx (wp_fldA0 hF uq37 rfl (by with_unfolding_all exact ⟨_, rfl, rfl⟩) (ds := sj) (by rw [hsl.out]; kernel_rfl) (by rw [hsl.out]; exact docL_sj hcl.out hsl.out) ?_)))
       refine hds.out.mono ?_
       rintro e w9 ⟨rfl, hb9⟩
       have hF9 := hF.call hb9
       go_wp2_with fail
       go_ret
       exact ⟨by rw [hres.out]; rfl, hF9.below⟩
end Go.Proofs.YtlhicfpmlncomaaGreatDoor

namespace Go.Proofs.YtlhicfpmlncomaaGreatDoor
open Go.RowKit
structure NoteT (P : Program) (t : TypeId) (f0 f1 : Field) : Prop where
 und : P.underlying t = some (.struct #[f0, f1])
 nam : [f0, f1].all (fun f => f.name != "_") = true
 off : [f0, f1].map (·.offset) = [0, 1]
 typ : [f0, f1].map (fun f => P.underlying f.type) = [some .string, some .string]
 stood : P.stoodInHeld t = false
 grd : P.eqGuardType P.depth t = false
section
variable {P : Program} {o : Oper} {a : Act} {w : World}
end
end Go.Proofs.YtlhicfpmlncomaaGreatDoor

namespace Go.Proofs.YtlhicfpmlncomaaGreatDoor
open Go.RowKit
end Go.Proofs.YtlhicfpmlncomaaGreatDoor

namespace Go.Proofs.YtlhicfpmlncomaaGreatDoor
open Go.RowKit
theorem ntsL_take (l : List MNote) : ∀ i : Nat, (ntsL l).take (i * 2) = ntsL (l.take i) := by
 induction l with
 | nil => intro i; simp [ntsL]
 | cons x l ih =>
  intro i
  cases i with
  | zero => simp [ntsL]
  | succ i =>
   have h := ih i
   unfold ntsL at h ⊢
   rw [List.take_succ_cons, List.flatMap_cons, List.flatMap_cons, show (i + 1) * 2 = (ntL x).length + i * 2 by rw [ntL_len]; omega, List.take_length_add_append, h]
theorem nt_k0 {x : MNote} : (ntL x)[0]? = some (.string ⟨x.key.toArray⟩) := rfl
theorem nt_v1 {x : MNote} : (ntL x)[1]? = some (.string ⟨x.val.toArray⟩) := rfl
abbrev nt00 : List Value := [.string ⟨#[]⟩, .string ⟨#[]⟩]
set_option maxRecDepth 20000 in
set_option maxHeartbeats 12800000 in
theorem prightN_any (l : List MNote) (A : Option Addr) (n c : Nat) (w : World) (hL : MLibs w.heap.size w) (hnc : n ≤ c) (hr : Rd w (· < w.heap.size) A 2 n (ntsL l)) (hn' : n = l.length) (hs : NtSm l) :
  Calls Tryz.prog 80 #[.slice A n c] w fun e w' => e = .returned (.bool (decide (mRightN l))) ∧ Below w.heap.size w w' := by
 have hF0 := Fr.nil w
 have hvl := box (fun (s : List UInt8) (w' : World) (hb : Below w.heap.size w w') (h : s.length ≤ 100000000) => valid_ok (hL.on hb).j s (by omega))
 by_cases h32 : n ≤ 32
 rotate_left
 ·have hbad : Box (¬ mRightN l) := box (fun h => h32 (by rw [hn']; exact h.1))
  have d2 : decide ((32 : Int) < (n : Int)) = true := decide_eq_true (by omega)
  replace h32 := box h32
  clear hn' hs
  go_enter Tryz.func80, Tryz.ntmps80
  go_wp2_with fail
  go_ret
  exact ⟨by rw [decide_eq_false hbad.out]; rfl, hF0.below⟩
 have d2 : decide ((32 : Int) < (n : Int)) = false := decide_eq_false (by omega)
 have hn := box hn'
 obtain ⟨hs1, hs2'⟩ := hs
 have hs2 := box hs2'
 clear hn' hs1 hs2'
 go_enter Tryz.func80, Tryz.ntmps80
 go_wp2_with fail
 go_loopg [12] n (fun g a wr => ∃ i : Nat, i ≤ n ∧ Box (g = n - i) ∧ a = .int .i64 (i : Int) ∧ Box (rnGood l i) ∧ Fr [] w wr [])
 case atStart => exact ⟨0, by omega, box rfl, rfl, box (fun j x hj => absurd hj (by omega)), hF0⟩
 case round =>
  clear hF0
  obtain ⟨i, hi, hgi, rfl, hgd, hF⟩ := hrel
  have hkk : Box (_ = n - i) := hgi
  clear hgi
  have hrl := hr.below hF.below
  by_cases hlt : i < n
  ·obtain ⟨x, hx'⟩ : ∃ x, l[i]? = some x := ⟨l[i]'(by rw [← hn.out]; exact hlt), by simp⟩
   have hxa := box (ntsL_at hx')
   have hxs := hs2.out x (List.mem_of_getElem? hx')
   have hx := box hx'
   have hv1 := box (fun w' hb => hvl.out x.key w' hb hxs.1)
   have hv2 := box (fun w' hb => hvl.out x.val w' hb hxs.2)
   clear hx' hxs
   go_wp2_with (first | (with_reducible refine lsx (wp_indexAddr T_notes hrl (by with_unfolding_all exact ⟨_, _, _, _, rfl, rfl, rfl⟩) (by omega) (by omega) ?_)) | (with_reducible refine lsx (wp_loadA hrl uq70 rfl (by with_unfolding_all exact ⟨_, rfl, rfl⟩) (ds := (ntL x)) (by kernel_rfl) (by with_unfolding_all exact hxa.out) ?_)) | ((with_reducible refine lsx (wp_falloc hF (cs := nt00) (z := .agg (List.toArray (nt00))) rfl (by kernel_rfl) (by with_unfolding_all rfl) ?_)); intro w6 g6 hF6 hz6) | ((with_reducible refine lsx (wp_fstA0 hF6 (by with_unfolding_all exact ⟨_, _, rfl, rfl, rfl⟩) (by kernel_rfl) (ntL_one _) (Nat.le_refl 2) (spl_all rfl : spl nt00 0 (ntL x) = ntL x) ?_)); intro w7 hF7 hz7) | (have hrl7 := hr.below hF7.below; (with_reducible refine lsx (wp_cut T_notes hrl7 hnc (lo := none) (hi := some (i : Int)) (mx := none) ?_ (l := 0) (h := i) (m := c) (by simp) (by simp) (by simp) (by simp) (by omega) (by omega) (by omega) (by omega) ?_)); exact ⟨_, _, _, _, .i64, .i64, .i64, rfl, rfl, rfl, rfl, rfl⟩; intro A2 c2 hr2 hc2 hc3))
   have hrw : Rd w (· < w.heap.size) A2 2 i (ntsL (l.take i)) := by
    have h := hr2.same (w0 := w) (fun k hk => (hF7.below.block k hk).symm)
    rw [Nat.zero_mul, List.drop_zero, Nat.sub_zero, ntsL_take] at h
    exact h
   have hb7 := hF7
   clear hF hF6 hrl hr2
   go_loopg [21] i (fun g a wr => ∃ k : Nat, k ≤ i ∧ Box (g = i - k) ∧ a = .int .i64 (k : Int) ∧ Box (∀ k' y, k' < k → l[k']? = some y → y.key ≠ x.key) ∧ Fr [] w wr [.blk g6 70 (ntL x)])
   case atStart => exact ⟨0, by omega, box rfl, rfl, box (fun k' y hk' => absurd hk' (by omega)), hF7⟩
   case round =>
    clear hF7 hb7
    obtain ⟨k, hk, hgk, rfl, hno, hF⟩ := hrel
    have hkj : Box (_ = i - k) := hgk
    clear hgk
    by_cases hki : k < i
    ·obtain ⟨y, hy'⟩ : ∃ y, l[k]? = some y := ⟨l[k]'(by rw [← hn.out]; omega), by simp⟩
     have hya := box (ntsL_at (l := l.take i) (i := k) (x := y) (by rw [List.getElem?_take, if_pos hki]; exact hy'))
     have hy := box hy'
     have hki' := box hki
     have hrk := hrw.below hF.below
     clear hy'
     cases hsu : (y.key == x.key) with
     | true =>
      have hbad := box (rnBad_k hx.out hy.out hki'.out (beq_iff_eq.1 hsu))
      go_wp2_with (first | (with_reducible refine lsx (wp_indexAddr T_notes hrk (by with_unfolding_all exact ⟨_, _, _, _, rfl, rfl, rfl⟩) (by omega) (by omega) ?_)) | (with_reducible refine lsx (wp_loadA hrk uq70 rfl (by with_unfolding_all exact ⟨_, rfl, rfl⟩) (ds := (ntL y)) (by kernel_rfl) (by with_unfolding_all exact hya.out) ?_)) | ((with_reducible refine lsx (wp_falloc hF (cs := nt00) (z := .agg (List.toArray (nt00))) rfl (by kernel_rfl) (by with_unfolding_all rfl) ?_)); intro w8 g8 hF8 hz8) | ((with_reducible refine lsx (wp_fstA0 hF8 (by with_unfolding_all exact ⟨_, _, rfl, rfl, rfl⟩) (by kernel_rfl) (ntL_one _) (Nat.le_refl 2) (spl_all rfl : spl nt00 0 (ntL y) = ntL y) ?_)); intro w9 hF9 hz9) | (with_reducible refine lsx (wp_fld0 hF9 uq9 rfl (by with_unfolding_all exact ⟨_, rfl, rfl⟩) nt_k0 ?_)) | (with_reducible refine lsx (wp_fld1 hF9 uq9 rfl (by with_unfolding_all exact ⟨_, rfl, rfl⟩) nt_k0 ?_)))
      go_ret
      exact ⟨by rw [decide_eq_false hbad.out]; rfl, hF9.below⟩
     | false =>
      have hno2 : Box (∀ k' z, k' < k + 1 → l[k']? = some z → z.key ≠ x.key) := box (fun k' z hk' hz => by
       by_cases h : k' < k
       ·exact hno.out k' z h hz
       ·obtain rfl : k' = k := by omega
        rw [hy.out] at hz
        injection hz with hz
        subst hz
        exact beq_eq_false_iff_ne.1 hsu)
      go_wp2_with (first | (with_reducible refine lsx (wp_indexAddr T_notes hrk (by with_unfolding_all exact ⟨_, _, _, _, rfl, rfl, rfl⟩) (by omega) (by omega) ?_)) | (with_reducible refine lsx (wp_loadA hrk uq70 rfl (by with_unfolding_all exact ⟨_, rfl, rfl⟩) (ds := (ntL y)) (by kernel_rfl) (by with_unfolding_all exact hya.out) ?_)) | ((with_reducible refine lsx (wp_falloc hF (cs := nt00) (z := .agg (List.toArray (nt00))) rfl (by kernel_rfl) (by with_unfolding_all rfl) ?_)); intro w8 g8 hF8 hz8) | ((with_reducible refine lsx (wp_fstA0 hF8 (by with_unfolding_all exact ⟨_, _, rfl, rfl, rfl⟩) (by kernel_rfl) (ntL_one _) (Nat.le_refl 2) (spl_all rfl : spl nt00 0 (ntL y) = ntL y) ?_)); intro w9 hF9 hz9) | (with_reducible refine lsx (wp_fld0 hF9 uq9 rfl (by with_unfolding_all exact ⟨_, rfl, rfl⟩) nt_k0 ?_)) | (with_reducible refine lsx (wp_fld1 hF9 uq9 rfl (by with_unfolding_all exact ⟨_, rfl, rfl⟩) nt_k0 ?_)))
      go_roundg (i - (k + 1))
      case rel => exact ⟨k + 1, by omega, box rfl, by go_num, hno2, hF9.tail⟩
      case measure => have := hkj.out; omega
    ·obtain rfl : i = k := by omega
     cases hq1 : Lib.validD x.key with
     | false =>
      have hbad := box (rnBad_v hx.out (.inl hq1))
      rw [hq1] at hv1
      replace hq1 := box hq1
      go_wp2_with (first | (with_reducible refine lsx (wp_fld0 hF uq9 rfl (by with_unfolding_all exact ⟨_, rfl, rfl⟩) nt_k0 ?_)))
      refine (hv1.out _ hF.below).mono ?_
      rintro e w2 ⟨rfl, hb2⟩
      have hF2 := hF.call hb2
      go_wp2_with fail
      go_ret
      exact ⟨by rw [decide_eq_false hbad.out]; rfl, hF2.below⟩
     | true =>
      rw [hq1] at hv1
      replace hq1 := box hq1
      cases hq2 : Lib.validD x.val with
      | false =>
       have hbad := box (rnBad_v hx.out (.inr hq2))
       rw [hq2] at hv2
       replace hq2 := box hq2
       go_wp2_with (first | (with_reducible refine lsx (wp_fld0 hF uq9 rfl (by with_unfolding_all exact ⟨_, rfl, rfl⟩) nt_k0 ?_)))
       refine (hv1.out _ hF.below).mono ?_
       rintro e w2 ⟨rfl, hb2⟩
       have hF2 := hF.call hb2
       go_wp2_with (first | (with_reducible refine lsx (wp_fld0 hF2 uq9 rfl (by with_unfolding_all exact ⟨_, rfl, rfl⟩) nt_v1 ?_)))
       refine (hv2.out _ hF2.below).mono ?_
       rintro e w3 ⟨rfl, hb3⟩
       have hF3 := hF2.call hb3
       go_wp2_with fail
       go_ret
       exact ⟨by rw [decide_eq_false hbad.out]; rfl, hF3.below⟩
      | true =>
       rw [hq2] at hv2
       replace hq2 := box hq2
       have hgd2 : Box (rnGood l (i + 1)) := box (fun j z hj hz => by
        by_cases h : j < i
        ·exact hgd.out j z h hz
        ·obtain rfl : j = i := by omega
         rw [hx.out] at hz
         injection hz with hz
         subst hz
         exact ⟨hq1.out, hq2.out, hno.out⟩)
       go_wp2_with (first | (with_reducible refine lsx (wp_fld0 hF uq9 rfl (by with_unfolding_all exact ⟨_, rfl, rfl⟩) nt_k0 ?_)))
       refine (hv1.out _ hF.below).mono ?_
       rintro e w2 ⟨rfl, hb2⟩
       have hF2 := hF.call hb2
       go_wp2_with (first | (with_reducible refine lsx (wp_fld0 hF2 uq9 rfl (by with_unfolding_all exact ⟨_, rfl, rfl⟩) nt_v1 ?_)))
       refine (hv2.out _ hF2.below).mono ?_
       rintro e w3 ⟨rfl, hb3⟩
       have hF3 := hF2.call hb3
       go_wp2_with fail
       go_roundg (n - (i + 1))
       case rel => exact ⟨i + 1, by omega, box rfl, by go_num, hgd2, hF3.tail⟩
       case measure => have := hkk.out; omega
  ·obtain rfl : n = i := by omega
   have hok := box (rnGood_all (by rw [← hn.out]; exact h32) (by rw [← hn.out]; exact hgd.out))
   go_wp2_with fail
   go_ret
   exact ⟨by rw [decide_eq_true hok.out]; rfl, hF.below⟩
set_option maxRecDepth 20000 in
set_option maxHeartbeats 6400000 in
theorem prightD_any (d : MDesc) (cs : List Value) (w : World) (hL : MLibs w.heap.size w) (hD : RdD w d cs) (hs : DsSm d) :
  Calls Tryz.prog 81 #[.agg cs.toArray] w fun e w' => e = .returned (.bool (decide (mRightD d))) ∧ Below w.heap.size w w' := by
 obtain ⟨nt, hd', ⟨A, n, c, hnc, hn', rfl, hr'⟩, rfl⟩ := hD
 obtain ⟨m, dg, z, l⟩ := d
 obtain ⟨hs1, hs2⟩ := hs
 simp only [] at hd' hn' hr' hs1 hs2
 have hd := box hd'
 have hrn := box (fun w' (hb : Below w.heap.size w w') => prightN_any l A n c w' ((hL.on hb).up hb.size) hnc (hr'.on hb) hn' hs2)
 have hmed := box (fun w' (hb : Below w.heap.size w w') => media_any ⟨m.toArray⟩ w' ((hL.on hb).m.now) (by rw [← str_len]; exact Nat.lt_of_le_of_lt hs1 (by decide)))
 have hR : Box (decide (mRightD ⟨m, dg, z, l⟩) = (mediaB m && (decide (0 ≤ z) && (decide (z ≤ 1099511627776) && decide (mRightN l))))) := box (by
  by_cases h : mediaB m = true ∧ 0 ≤ z ∧ z ≤ 1099511627776 ∧ mRightN l
  ·rw [decide_eq_true (show mRightD ⟨m, dg, z, l⟩ from h), h.1, decide_eq_true h.2.1, decide_eq_true h.2.2.1, decide_eq_true h.2.2.2]; rfl
  ·rw [decide_eq_false (show ¬ mRightD ⟨m, dg, z, l⟩ from h)]
   cases hb : (mediaB m && (decide (0 ≤ z) && (decide (z ≤ 1099511627776) && decide (mRightN l)))) with
   | false => rfl
   | true =>
    simp only [Bool.and_eq_true, decide_eq_true_eq] at hb
    exact absurd hb h)
 clear hd' hr' hn' hs1 hs2
 have hF0 := Fr.nil w
 show Calls _ _ #[.agg (dsL m dg z (.slice A n c)).toArray] _ _
 rw [show (⟨m.toArray⟩ : ByteArray).data.toList = m from rfl] at hmed
 cases h1 : mediaB m with
 | false =>
  have hres := box (hR.out.trans (by rw [h1]; rfl : _ = false))
  rw [h1] at hmed
  clear h1 hR
  go_enter Tryz.func81, Tryz.ntmps81
  go_wp2_with (first | ((with_reducible refine lsx (wp_fbox hF0 (cs := (dsL m dg z (.slice A n c))) rfl (by with_unfolding_all rfl) (by with_unfolding_all rfl) ?_)); intro w1 g1 hF1 hz1) | (with_reducible refine lsx (wp_fld0 hF1 uq9 rfl (by with_unfolding_all exact ⟨_, rfl, rfl⟩) dsL_m0 ?_)))
  refine (hmed.out _ hF1.below).mono ?_
  rintro e w2 ⟨rfl, hb2⟩
  have hF2 := hF1.call hb2
  go_wp2_with (first | (with_reducible refine lsx (wp_fld0 hF2 uq3 rfl (by with_unfolding_all exact ⟨_, rfl, rfl⟩) (dsL_size hd.out) ?_)) | (with_reducible refine lsx (wp_fld0 hF2 uq26 rfl (by with_unfolding_all exact ⟨_, rfl, rfl⟩) (dsL_notes hd.out) ?_)))
  go_ret
  exact ⟨by rw [hres.out]; rfl, hF2.below⟩
 | true =>
  rw [h1] at hmed
  by_cases h2 : 0 ≤ z
  ·have d2 : decide (0 ≤ z) = true := decide_eq_true h2
   by_cases h3 : z ≤ 1099511627776
   ·have d3 : decide (z ≤ 1099511627776) = true := decide_eq_true h3
    have hres := box (hR.out.trans (by rw [h1, d2, d3]; rfl : _ = decide (mRightN l)))
    clear h1 hR
    replace h2 := box h2
    replace h3 := box h3
    go_enter Tryz.func81, Tryz.ntmps81
    go_wp2_with (first | ((with_reducible refine lsx (wp_fbox hF0 (cs := (dsL m dg z (.slice A n c))) rfl (by with_unfolding_all rfl) (by with_unfolding_all rfl) ?_)); intro w1 g1 hF1 hz1) | (with_reducible refine lsx (wp_fld0 hF1 uq9 rfl (by with_unfolding_all exact ⟨_, rfl, rfl⟩) dsL_m0 ?_)))
    refine (hmed.out _ hF1.below).mono ?_
    rintro e w2 ⟨rfl, hb2⟩
    have hF2 := hF1.call hb2
    go_wp2_with (first | (with_reducible refine lsx (wp_fld0 hF2 uq3 rfl (by with_unfolding_all exact ⟨_, rfl, rfl⟩) (dsL_size hd.out) ?_)) | (with_reducible refine lsx (wp_fld0 hF2 uq26 rfl (by with_unfolding_all exact ⟨_, rfl, rfl⟩) (dsL_notes hd.out) ?_)))
    refine (hrn.out _ hF2.below).mono ?_
    rintro e w3 ⟨rfl, hb3⟩
    have hF3 := hF2.call hb3
    go_wp2_with fail
    go_ret
    exact ⟨by rw [hres.out]; rfl, hF3.below⟩
   ·have d3 : decide (z ≤ 1099511627776) = false := decide_eq_false h3
    have hres := box (hR.out.trans (by rw [h1, d2, d3]; rfl : _ = false))
    clear h1 hR
    replace h2 := box h2
    replace h3 := box h3
    go_enter Tryz.func81, Tryz.ntmps81
    go_wp2_with (first | ((with_reducible refine lsx (wp_fbox hF0 (cs := (dsL m dg z (.slice A n c))) rfl (by with_unfolding_all rfl) (by with_unfolding_all rfl) ?_)); intro w1 g1 hF1 hz1) | (with_reducible refine lsx (wp_fld0 hF1 uq9 rfl (by with_unfolding_all exact ⟨_, rfl, rfl⟩) dsL_m0 ?_)))
    refine (hmed.out _ hF1.below).mono ?_
    rintro e w2 ⟨rfl, hb2⟩
    have hF2 := hF1.call hb2
    go_wp2_with (first | (with_reducible refine lsx (wp_fld0 hF2 uq3 rfl (by with_unfolding_all exact ⟨_, rfl, rfl⟩) (dsL_size hd.out) ?_)) | (with_reducible refine lsx (wp_fld0 hF2 uq26 rfl (by with_unfolding_all exact ⟨_, rfl, rfl⟩) (dsL_notes hd.out) ?_)))
    go_ret
    exact ⟨by rw [hres.out]; rfl, hF2.below⟩
  ·have d2 : decide (0 ≤ z) = false := decide_eq_false h2
   have hres := box (hR.out.trans (by rw [h1, d2]; rfl : _ = false))
   clear h1 hR
   replace h2 := box h2
   go_enter Tryz.func81, Tryz.ntmps81
   go_wp2_with (first | ((with_reducible refine lsx (wp_fbox hF0 (cs := (dsL m dg z (.slice A n c))) rfl (by with_unfolding_all rfl) (by with_unfolding_all rfl) ?_)); intro w1 g1 hF1 hz1) | (with_reducible refine lsx (wp_fld0 hF1 uq9 rfl (by with_unfolding_all exact ⟨_, rfl, rfl⟩) dsL_m0 ?_)))
   refine (hmed.out _ hF1.below).mono ?_
   rintro e w2 ⟨rfl, hb2⟩
   have hF2 := hF1.call hb2
   go_wp2_with (first | (with_reducible refine lsx (wp_fld0 hF2 uq3 rfl (by with_unfolding_all exact ⟨_, rfl, rfl⟩) (dsL_size hd.out) ?_)) | (with_reducible refine lsx (wp_fld0 hF2 uq26 rfl (by with_unfolding_all exact ⟨_, rfl, rfl⟩) (dsL_notes hd.out) ?_)))
   go_ret
   exact ⟨by rw [hres.out]; rfl, hF2.below⟩
end Go.Proofs.YtlhicfpmlncomaaGreatDoor
