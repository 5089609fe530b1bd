/-
 Layer 8: the document's RightDesc and Right, walked.
 Layer 8: a document that came in. No program is named here.
 Layer 8, plain law: the order of members turns nothing; a member that lacks, and one too many, are refused. No program is named here.
-/
import Derived.Test.YtlhicfpmlncomaaGreatDoorF13
import Derived.Test.YtlhicfpmlncomaaGreatDoorF02
import Derived.Test.YtlhicfpmlncomaaGreatDoorF12
import Derived.Test.YtlhicfpmlncomaaGreatDoorF08
import Derived.Test.YtlhicfpmlncomaaGreatDoorF11
import Derived.Test.YtlhicfpmlncomaaGreatDoorF00
set_option linter.unusedSimpArgs false
set_option linter.unusedVariables false
namespace Go.Proofs.YtlhicfpmlncomaaGreatDoor
open Go.RowKit
def DsSm (d : MDesc) : Prop := d.media.length ≤ 100000000 ∧ NtSm d.notes
def DcSm (d : MDoc) : Prop := d.media.length ≤ 100000000 ∧ d.type.length ≤ 100000000 ∧ DsSm d.config ∧ (d.edges.length ≤ 1000000 ∧ ∀ x ∈ d.edges, DsSm x) ∧ DsSm d.subject ∧ NtSm d.notes
set_option maxRecDepth 20000 in
set_option maxHeartbeats 6400000 in
theorem rrightD_any (d : MDesc) (cs : List Value) (w : World) (hD : RdD w d cs) (hs : DsSm d) :
  Calls Tryz.prog 48 #[.agg cs.toArray] w fun e w' => e = .returned (.bool (decide (mRightD d))) ∧ Below w.heap.size w w' := by
 obtain ⟨nt, hd', ⟨A, n, c, hnc, hn', rfl, hr'⟩, rfl⟩ := hD
 obtain ⟨m, dg, z, l⟩ := d
 obtain ⟨hs1, hs2⟩ := hs
 simp only [] at hd' hn' hr' hs1 hs2
 have hd := box hd'
 have hrn := box (fun w' (hb : Below w.heap.size w w') => rrightN_any l A n c w' (hr'.on hb) hn' hs2)
 have hmed := box (fun w' => mediaF_any ⟨m.toArray⟩ w' (by rw [← str_len]; exact Nat.le_trans hs1 (by decide)))
 have hR : Box (decide (mRightD ⟨m, dg, z, l⟩) = (mediaB m && (decide (0 ≤ z) && (decide (z ≤ 1099511627776) && decide (mRightN l))))) := box (by
  by_cases h : mediaB m = true ∧ 0 ≤ z ∧ z ≤ 1099511627776 ∧ mRightN l
  ·rw [decide_eq_true (show mRightD ⟨m, dg, z, l⟩ from h), h.1, decide_eq_true h.2.1, decide_eq_true h.2.2.1, decide_eq_true h.2.2.2]; rfl
  ·rw [decide_eq_false (show ¬ mRightD ⟨m, dg, z, l⟩ from h)]
   cases hb : (mediaB m && (decide (0 ≤ z) && (decide (z ≤ 1099511627776) && decide (mRightN l)))) with
   | false => rfl
   | true =>
    simp only [Bool.and_eq_true, decide_eq_true_eq] at hb
    exact absurd hb h)
 clear hd' hr' hn' hs1 hs2
 have hF0 := Fr.nil w
 show Calls _ _ #[.agg (dsL m dg z (.slice A n c)).toArray] _ _
 rw [show (⟨m.toArray⟩ : ByteArray).data.toList = m from rfl] at hmed
 cases h1 : mediaB m with
 | false =>
  have hres := box (hR.out.trans (by rw [h1]; rfl : _ = false))
  rw [h1] at hmed
  clear h1 hR
  go_enter Tryz.func48, Tryz.ntmps48
  go_wp2_with (first | ((with_reducible refine lsx (wp_fbox hF0 (cs := (dsL m dg z (.slice A n c))) rfl (by with_unfolding_all rfl) (by with_unfolding_all rfl) ?_)); intro w1 g1 hF1 hz1) | (with_reducible refine lsx (wp_fld0 hF1 uq9 rfl (by with_unfolding_all exact ⟨_, rfl, rfl⟩) dsL_m0 ?_)))
  refine (hmed.out _).mono ?_
  rintro e w2 ⟨rfl, rfl⟩
  go_wp2_with (first | (with_reducible refine lsx (wp_fld0 hF1 uq3 rfl (by with_unfolding_all exact ⟨_, rfl, rfl⟩) (dsL_size hd.out) ?_)) | (with_reducible refine lsx (wp_fld0 hF1 uq35 rfl (by with_unfolding_all exact ⟨_, rfl, rfl⟩) (dsL_notes hd.out) ?_)))
  go_ret
  exact ⟨by rw [hres.out]; rfl, hF1.below⟩
 | true =>
  rw [h1] at hmed
  by_cases h2 : 0 ≤ z
  ·have d2 : decide (0 ≤ z) = true := decide_eq_true h2
   by_cases h3 : z ≤ 1099511627776
   ·have d3 : decide (z ≤ 1099511627776) = true := decide_eq_true h3
    have hres := box (hR.out.trans (by rw [h1, d2, d3]; rfl : _ = decide (mRightN l)))
    clear h1 hR
    replace h2 := box h2
    replace h3 := box h3
    go_enter Tryz.func48, Tryz.ntmps48
    go_wp2_with (first | ((with_reducible refine lsx (wp_fbox hF0 (cs := (dsL m dg z (.slice A n c))) rfl (by with_unfolding_all rfl) (by with_unfolding_all rfl) ?_)); intro w1 g1 hF1 hz1) | (with_reducible refine lsx (wp_fld0 hF1 uq9 rfl (by with_unfolding_all exact ⟨_, rfl, rfl⟩) dsL_m0 ?_)))
    refine (hmed.out _).mono ?_
    rintro e w2 ⟨rfl, rfl⟩
    go_wp2_with (first | (with_reducible refine lsx (wp_fld0 hF1 uq3 rfl (by with_unfolding_all exact ⟨_, rfl, rfl⟩) (dsL_size hd.out) ?_)) | (with_reducible refine lsx (wp_fld0 hF1 uq35 rfl (by with_unfolding_all exact ⟨_, rfl, rfl⟩) (dsL_notes hd.out) ?_)))
    refine (hrn.out _ hF1.below).mono ?_
    rintro e w3 ⟨rfl, hb3⟩
    have hF3 := hF1.call hb3
    go_wp2_with fail
    go_ret
    exact ⟨by rw [hres.out]; rfl, hF3.below⟩
   ·have d3 : decide (z ≤ 1099511627776) = false := decide_eq_false h3
    have hres := box (hR.out.trans (by rw [h1, d2, d3]; rfl : _ = false))
    clear h1 hR
    replace h2 := box h2
    replace h3 := box h3
    go_enter Tryz.func48, Tryz.ntmps48
    go_wp2_with (first | ((with_reducible refine lsx (wp_fbox hF0 (cs := (dsL m dg z (.slice A n c))) rfl (by with_unfolding_all rfl) (by with_unfolding_all rfl) ?_)); intro w1 g1 hF1 hz1) | (with_reducible refine lsx (wp_fld0 hF1 uq9 rfl (by with_unfolding_all exact ⟨_, rfl, rfl⟩) dsL_m0 ?_)))
    refine (hmed.out _).mono ?_
    rintro e w2 ⟨rfl, rfl⟩
    go_wp2_with (first | (with_reducible refine lsx (wp_fld0 hF1 uq3 rfl (by with_unfolding_all exact ⟨_, rfl, rfl⟩) (dsL_size hd.out) ?_)) | (with_reducible refine lsx (wp_fld0 hF1 uq35 rfl (by with_unfolding_all exact ⟨_, rfl, rfl⟩) (dsL_notes hd.out) ?_)))
    go_ret
    exact ⟨by rw [hres.out]; rfl, hF1.below⟩
  ·have d2 : decide (0 ≤ z) = false := decide_eq_false h2
   have hres := box (hR.out.trans (by rw [h1, d2]; rfl : _ = false))
   clear h1 hR
   replace h2 := box h2
   go_enter Tryz.func48, Tryz.ntmps48
   go_wp2_with (first | ((with_reducible refine lsx (wp_fbox hF0 (cs := (dsL m dg z (.slice A n c))) rfl (by with_unfolding_all rfl) (by with_unfolding_all rfl) ?_)); intro w1 g1 hF1 hz1) | (with_reducible refine lsx (wp_fld0 hF1 uq9 rfl (by with_unfolding_all exact ⟨_, rfl, rfl⟩) dsL_m0 ?_)))
   refine (hmed.out _).mono ?_
   rintro e w2 ⟨rfl, rfl⟩
   go_wp2_with (first | (with_reducible refine lsx (wp_fld0 hF1 uq3 rfl (by with_unfolding_all exact ⟨_, rfl, rfl⟩) (dsL_size hd.out) ?_)) | (with_reducible refine lsx (wp_fld0 hF1 uq35 rfl (by with_unfolding_all exact ⟨_, rfl, rfl⟩) (dsL_notes hd.out) ?_)))
   go_ret
   exact ⟨by rw [hres.out]; rfl, hF1.below⟩
set_option maxRecDepth 20000 in
set_option maxHeartbeats 25600000 in
theorem rright_any (D : MDoc) (cs : List Value) (w : World) (hDD : RdDoc w D cs) (hsm : DcSm D) :
  Calls Tryz.prog 20 #[.agg cs.toArray] w fun e w' => e = .returned (.bool (decide (mRight D))) ∧ Below w.heap.size w w' := by
 obtain ⟨cf, eg, sj, nt, hC0, ⟨Ae, ne, ce, xe, hnce, hne', rfl, hre0, hEd0⟩, hS0, ⟨An, nn, cn, hnn, hnn', rfl, hrn0⟩, rfl⟩ := hDD
 obtain ⟨hsm1, hsm2, hsC', ⟨hsE0, hsE'⟩, hsS', hsN⟩ := hsm
 have hcl := box hC0.len
 have hsl := box hS0.len
 have hre := box hre0
 have hCd := box (fun w' (hb : Below w.heap.size w w') => hC0.on hb)
 have hSd := box (fun w' (hb : Below w.heap.size w w') => hS0.on hb)
 obtain ⟨eds, hDe'⟩ : ∃ eds, D.edges = eds := ⟨_, rfl⟩
 rw [hDe'] at hne' hEd0 hsE'
 have hDe := box hDe'
 have hEd := box hEd0
 have hne := box hne'
 have hsC := box hsC'
 have hsS := box hsS'
 have hsE := box hsE'
 have hnr := box (fun w' (hb : Below w.heap.size w w') => rrightN_any D.notes An nn cn w' (hrn0.on hb) hnn' hsN)
 obtain ⟨m, hDm'⟩ : ∃ m, D.media = m := ⟨_, rfl⟩
 obtain ⟨ty, hDt'⟩ : ∃ ty, D.type = ty := ⟨_, rfl⟩
 obtain ⟨hs, hDh'⟩ : ∃ hs, D.has = hs := ⟨_, rfl⟩
 rw [hDm', hDt', hDh']
 rw [hDt'] at hsm2
 have hDm := box hDm'
 have hDt := box hDt'
 have hDh := box hDh'
 have hmed := box (fun w' => mediaF_any ⟨ty.toArray⟩ w' (by rw [← str_len]; exact Nat.le_trans hsm2 (by decide)))
 rw [show (⟨ty.toArray⟩ : ByteArray).data.toList = ty from rfl] at hmed
 clear hC0 hS0 hre0 hEd0 hne' hsC' hsS' hsE' hrn0 hnn' hsN hDe' hDm' hDt' hDh' hsm1 hsm2 hsE0
 have hF0 := Fr.nil w
 go_enter Tryz.func20, Tryz.ntmps20
 go_step
 go_step
 (try simp only [zP, zQ, zS, zZ, zN])
 go_cut [1] (fun u1 wx => ∃ g1, u1 = .pointer (some ⟨g1, 0, none⟩) ∧ Fr [] w wx [.blk g1 40 (docL m ty cf (.slice Ae ne ce) sj hs (.slice An nn cn))])
 case first =>
  go_wp2_with (first | ((with_reducible refine lsx (wp_fbox hF0 (cs := (docL m ty cf (.slice Ae ne ce) sj hs (.slice An nn cn))) rfl (by with_unfolding_all rfl) (by with_unfolding_all rfl) ?_)); intro w1 g1 hF1 hz1))
  go_meet
  exact ⟨g1, rfl, hF1⟩
 case rest =>
  obtain ⟨g1, rfl, hF1⟩ := hcut
  clear hF0
  go_step
  go_step
  (try simp only [zP, zQ, zS, zZ, zN])
  go_cut [] (fun wx => ((D.media = sImage ∨ D.media = sIndex) ∧ (D.type = [] ∨ mediaB D.type = true) ∧ D.edges.length ≤ 64 ∧ mRightN D.notes) ∧ Fr [] w wx [.blk g1 40 (docL m ty cf (.slice Ae ne ce) sj hs (.slice An nn cn))])
  case first =>
   by_cases hi : m = sImage
   ·skip
    have hA : Box (D.media = sImage) := box (by rw [hDm.out]; exact hi)
    have a1 : (m == [97, 112, 112, 108, 105, 99, 97, 116, 105, 111, 110, 47, 118, 110, 100, 46, 111, 99, 105, 46, 105, 109, 97, 103, 101, 46, 109, 97, 110, 105, 102, 101, 115, 116, 46, 118, 49, 43, 106, 115, 111, 110]) = true := by rw [beq_iff_eq]; exact hi
    have a2 : (m != [97, 112, 112, 108, 105, 99, 97, 116, 105, 111, 110, 47, 118, 110, 100, 46, 111, 99, 105, 46, 105, 109, 97, 103, 101, 46, 109, 97, 110, 105, 102, 101, 115, 116, 46, 118, 49, 43, 106, 115, 111, 110]) = false := by rw [bne, a1]; rfl
    have b1 : (m == [97, 112, 112, 108, 105, 99, 97, 116, 105, 111, 110, 47, 118, 110, 100, 46, 111, 99, 105, 46, 105, 109, 97, 103, 101, 46, 105, 110, 100, 101, 120, 46, 118, 49, 43, 106, 115, 111, 110]) = false := by rw [beq_eq_false_iff_ne]; exact (fun h => sImage_ne (hi.symm.trans h))
    have b2 : (m != [97, 112, 112, 108, 105, 99, 97, 116, 105, 111, 110, 47, 118, 110, 100, 46, 111, 99, 105, 46, 105, 109, 97, 103, 101, 46, 105, 110, 100, 101, 120, 46, 118, 49, 43, 106, 115, 111, 110]) = true := by rw [bne, b1]; rfl
    replace hi := box hi
    by_cases ht : ty = []
    ·skip
     have t1 : (ty == []) = true := by rw [beq_iff_eq]; exact ht
     have t2 : (ty != []) = false := by rw [bne, t1]; rfl
     have hB : Box (D.type = [] ∨ mediaB D.type = true) := box (.inl (by rw [hDt.out]; exact ht))
     replace ht := box ht
     by_cases he : 64 < ne
     ·have e64 : decide ((64 : Int) < (ne : Int)) = true := decide_eq_true (by omega)
      have hres : Box (decide (mRight D) = false) := box (decide_eq_false (fun h => by have h3 := h.2.2.1; rw [hDe.out, ← hne.out] at h3; omega))
      replace he := box he
      go_wp2_with (first | (with_reducible refine lsx (wp_fld0 hF1 uq9 rfl (by with_unfolding_all exact ⟨_, rfl, rfl⟩) docL_m0 ?_)) | (with_reducible refine lsx (wp_fld0 hF1 uq9 rfl (by with_unfolding_all exact ⟨_, rfl, rfl⟩) docL_t0 ?_)) | (with_reducible refine lsx (wp_fld0 hF1 uq38 rfl (by with_unfolding_all exact ⟨_, rfl, rfl⟩) (docL_eg hcl.out) ?_)) | (with_reducible refine lsx (wp_fld0 hF1 uq35 rfl (by with_unfolding_all exact ⟨_, rfl, rfl⟩) (docL_nt hcl.out hsl.out) ?_)))
      go_ret
      exact ⟨by rw [hres.out]; rfl, hF1.below⟩
     have e64 : decide ((64 : Int) < (ne : Int)) = false := decide_eq_false (by omega)
     have hC : Box (D.edges.length ≤ 64) := box (by rw [hDe.out, ← hne.out]; omega)
     have hne64 : ne ≤ 64 := by omega
     replace he := box he
     cases hq : decide (mRightN D.notes) with
     | false =>
      have hres : Box (decide (mRight D) = false) := box (decide_eq_false (fun h => (of_decide_eq_false hq) h.2.2.2.1))
      rw [hq] at hnr
      clear hq
      go_wp2_with (first | (with_reducible refine lsx (wp_fld0 hF1 uq9 rfl (by with_unfolding_all exact ⟨_, rfl, rfl⟩) docL_m0 ?_)) | (with_reducible refine lsx (wp_fld0 hF1 uq9 rfl (by with_unfolding_all exact ⟨_, rfl, rfl⟩) docL_t0 ?_)) | (with_reducible refine lsx (wp_fld0 hF1 uq38 rfl (by with_unfolding_all exact ⟨_, rfl, rfl⟩) (docL_eg hcl.out) ?_)) | (with_reducible refine lsx (wp_fld0 hF1 uq35 rfl (by with_unfolding_all exact ⟨_, rfl, rfl⟩) (docL_nt hcl.out hsl.out) ?_)))
      refine (hnr.out _ hF1.below).mono ?_
      rintro e w2 ⟨rfl, hb2⟩
      have hF2 := hF1.call hb2
      go_wp2_with fail
      go_ret
      exact ⟨by rw [hres.out]; rfl, hF2.below⟩
     | true =>
      have hN := box (of_decide_eq_true hq)
      rw [hq] at hnr
      clear hq
      go_wp2_with (first | (with_reducible refine lsx (wp_fld0 hF1 uq9 rfl (by with_unfolding_all exact ⟨_, rfl, rfl⟩) docL_m0 ?_)) | (with_reducible refine lsx (wp_fld0 hF1 uq9 rfl (by with_unfolding_all exact ⟨_, rfl, rfl⟩) docL_t0 ?_)) | (with_reducible refine lsx (wp_fld0 hF1 uq38 rfl (by with_unfolding_all exact ⟨_, rfl, rfl⟩) (docL_eg hcl.out) ?_)) | (with_reducible refine lsx (wp_fld0 hF1 uq35 rfl (by with_unfolding_all exact ⟨_, rfl, rfl⟩) (docL_nt hcl.out hsl.out) ?_)))
      refine (hnr.out _ hF1.below).mono ?_
      rintro e w2 ⟨rfl, hb2⟩
      have hF2 := hF1.call hb2
      clear hF1 hb2
      go_wp2_with fail
      go_meet
      exact ⟨⟨.inl hA.out, hB.out, hC.out, hN.out⟩, hF2⟩
    have t1 : (ty == []) = false := by rw [beq_eq_false_iff_ne]; exact ht
    have t2 : (ty != []) = true := by rw [bne, t1]; rfl
    cases hm : mediaB ty with
    | true =>
     have hB : Box (D.type = [] ∨ mediaB D.type = true) := box (.inr (by rw [hDt.out]; exact hm))
     rw [hm] at hmed
     replace hm := box hm
     replace ht := box ht
     by_cases he : 64 < ne
     ·have e64 : decide ((64 : Int) < (ne : Int)) = true := decide_eq_true (by omega)
      have hres : Box (decide (mRight D) = false) := box (decide_eq_false (fun h => by have h3 := h.2.2.1; rw [hDe.out, ← hne.out] at h3; omega))
      replace he := box he
      go_wp2_with (first | (with_reducible refine lsx (wp_fld0 hF1 uq9 rfl (by with_unfolding_all exact ⟨_, rfl, rfl⟩) docL_m0 ?_)) | (with_reducible refine lsx (wp_fld0 hF1 uq9 rfl (by with_unfolding_all exact ⟨_, rfl, rfl⟩) docL_t0 ?_)) | (with_reducible refine lsx (wp_fld0 hF1 uq38 rfl (by with_unfolding_all exact ⟨_, rfl, rfl⟩) (docL_eg hcl.out) ?_)) | (with_reducible refine lsx (wp_fld0 hF1 uq35 rfl (by with_unfolding_all exact ⟨_, rfl, rfl⟩) (docL_nt hcl.out hsl.out) ?_)))
      refine (hmed.out _).mono ?_
      rintro e w2 ⟨rfl, rfl⟩
      go_wp2_with (first | (with_reducible refine lsx (wp_fld0 hF1 uq9 rfl (by with_unfolding_all exact ⟨_, rfl, rfl⟩) docL_m0 ?_)) | (with_reducible refine lsx (wp_fld0 hF1 uq9 rfl (by with_unfolding_all exact ⟨_, rfl, rfl⟩) docL_t0 ?_)) | (with_reducible refine lsx (wp_fld0 hF1 uq38 rfl (by with_unfolding_all exact ⟨_, rfl, rfl⟩) (docL_eg hcl.out) ?_)) | (with_reducible refine lsx (wp_fld0 hF1 uq35 rfl (by with_unfolding_all exact ⟨_, rfl, rfl⟩) (docL_nt hcl.out hsl.out) ?_)))
      go_ret
      exact ⟨by rw [hres.out]; rfl, hF1.below⟩
     have e64 : decide ((64 : Int) < (ne : Int)) = false := decide_eq_false (by omega)
     have hC : Box (D.edges.length ≤ 64) := box (by rw [hDe.out, ← hne.out]; omega)
     have hne64 : ne ≤ 64 := by omega
     replace he := box he
     cases hq : decide (mRightN D.notes) with
     | false =>
      have hres : Box (decide (mRight D) = false) := box (decide_eq_false (fun h => (of_decide_eq_false hq) h.2.2.2.1))
      rw [hq] at hnr
      clear hq
      go_wp2_with (first | (with_reducible refine lsx (wp_fld0 hF1 uq9 rfl (by with_unfolding_all exact ⟨_, rfl, rfl⟩) docL_m0 ?_)) | (with_reducible refine lsx (wp_fld0 hF1 uq9 rfl (by with_unfolding_all exact ⟨_, rfl, rfl⟩) docL_t0 ?_)) | (with_reducible refine lsx (wp_fld0 hF1 uq38 rfl (by with_unfolding_all exact ⟨_, rfl, rfl⟩) (docL_eg hcl.out) ?_)) | (with_reducible refine lsx (wp_fld0 hF1 uq35 rfl (by with_unfolding_all exact ⟨_, rfl, rfl⟩) (docL_nt hcl.out hsl.out) ?_)))
      refine (hmed.out _).mono ?_
      rintro e w2 ⟨rfl, rfl⟩
      go_wp2_with (first | (with_reducible refine lsx (wp_fld0 hF1 uq9 rfl (by with_unfolding_all exact ⟨_, rfl, rfl⟩) docL_m0 ?_)) | (with_reducible refine lsx (wp_fld0 hF1 uq9 rfl (by with_unfolding_all exact ⟨_, rfl, rfl⟩) docL_t0 ?_)) | (with_reducible refine lsx (wp_fld0 hF1 uq38 rfl (by with_unfolding_all exact ⟨_, rfl, rfl⟩) (docL_eg hcl.out) ?_)) | (with_reducible refine lsx (wp_fld0 hF1 uq35 rfl (by with_unfolding_all exact ⟨_, rfl, rfl⟩) (docL_nt hcl.out hsl.out) ?_)))
      refine (hnr.out _ hF1.below).mono ?_
      rintro e w2 ⟨rfl, hb2⟩
      have hF2 := hF1.call hb2
      go_wp2_with fail
      go_ret
      exact ⟨by rw [hres.out]; rfl, hF2.below⟩
     | true =>
      have hN := box (of_decide_eq_true hq)
      rw [hq] at hnr
      clear hq
      go_wp2_with (first | (with_reducible refine lsx (wp_fld0 hF1 uq9 rfl (by with_unfolding_all exact ⟨_, rfl, rfl⟩) docL_m0 ?_)) | (with_reducible refine lsx (wp_fld0 hF1 uq9 rfl (by with_unfolding_all exact ⟨_, rfl, rfl⟩) docL_t0 ?_)) | (with_reducible refine lsx (wp_fld0 hF1 uq38 rfl (by with_unfolding_all exact ⟨_, rfl, rfl⟩) (docL_eg hcl.out) ?_)) | (with_reducible refine lsx (wp_fld0 hF1 uq35 rfl (by with_unfolding_all exact ⟨_, rfl, rfl⟩) (docL_nt hcl.out hsl.out) ?_)))
      refine (hmed.out _).mono ?_
      rintro e w2 ⟨rfl, rfl⟩
      go_wp2_with (first | (with_reducible refine lsx (wp_fld0 hF1 uq9 rfl (by with_unfolding_all exact ⟨_, rfl, rfl⟩) docL_m0 ?_)) | (with_reducible refine lsx (wp_fld0 hF1 uq9 rfl (by with_unfolding_all exact ⟨_, rfl, rfl⟩) docL_t0 ?_)) | (with_reducible refine lsx (wp_fld0 hF1 uq38 rfl (by with_unfolding_all exact ⟨_, rfl, rfl⟩) (docL_eg hcl.out) ?_)) | (with_reducible refine lsx (wp_fld0 hF1 uq35 rfl (by with_unfolding_all exact ⟨_, rfl, rfl⟩) (docL_nt hcl.out hsl.out) ?_)))
      refine (hnr.out _ hF1.below).mono ?_
      rintro e w2 ⟨rfl, hb2⟩
      have hF2 := hF1.call hb2
      clear hF1 hb2
      go_wp2_with fail
      go_meet
      exact ⟨⟨.inl hA.out, hB.out, hC.out, hN.out⟩, hF2⟩
    | false =>
     have hres : Box (decide (mRight D) = false) := box (decide_eq_false (fun h => by
      rcases h.2.1 with h | h
      ·exact ht (by rw [← hDt.out]; exact h)
      ·rw [hDt.out, hm] at h; cases h))
     rw [hm] at hmed
     replace hm := box hm
     replace ht := box ht
     go_wp2_with (first | (with_reducible refine lsx (wp_fld0 hF1 uq9 rfl (by with_unfolding_all exact ⟨_, rfl, rfl⟩) docL_m0 ?_)) | (with_reducible refine lsx (wp_fld0 hF1 uq9 rfl (by with_unfolding_all exact ⟨_, rfl, rfl⟩) docL_t0 ?_)) | (with_reducible refine lsx (wp_fld0 hF1 uq38 rfl (by with_unfolding_all exact ⟨_, rfl, rfl⟩) (docL_eg hcl.out) ?_)) | (with_reducible refine lsx (wp_fld0 hF1 uq35 rfl (by with_unfolding_all exact ⟨_, rfl, rfl⟩) (docL_nt hcl.out hsl.out) ?_)))
     refine (hmed.out _).mono ?_
     rintro e w2 ⟨rfl, rfl⟩
     go_wp2_with (first | (with_reducible refine lsx (wp_fld0 hF1 uq9 rfl (by with_unfolding_all exact ⟨_, rfl, rfl⟩) docL_m0 ?_)) | (with_reducible refine lsx (wp_fld0 hF1 uq9 rfl (by with_unfolding_all exact ⟨_, rfl, rfl⟩) docL_t0 ?_)) | (with_reducible refine lsx (wp_fld0 hF1 uq38 rfl (by with_unfolding_all exact ⟨_, rfl, rfl⟩) (docL_eg hcl.out) ?_)) | (with_reducible refine lsx (wp_fld0 hF1 uq35 rfl (by with_unfolding_all exact ⟨_, rfl, rfl⟩) (docL_nt hcl.out hsl.out) ?_)))
     go_ret
     exact ⟨by rw [hres.out]; rfl, hF1.below⟩
   by_cases hx : m = sIndex
   ·skip
    have hA : Box (D.media = sIndex) := box (by rw [hDm.out]; exact hx)
    have a1 : (m == [97, 112, 112, 108, 105, 99, 97, 116, 105, 111, 110, 47, 118, 110, 100, 46, 111, 99, 105, 46, 105, 109, 97, 103, 101, 46, 105, 110, 100, 101, 120, 46, 118, 49, 43, 106, 115, 111, 110]) = true := by rw [beq_iff_eq]; exact hx
    have a2 : (m != [97, 112, 112, 108, 105, 99, 97, 116, 105, 111, 110, 47, 118, 110, 100, 46, 111, 99, 105, 46, 105, 109, 97, 103, 101, 46, 105, 110, 100, 101, 120, 46, 118, 49, 43, 106, 115, 111, 110]) = false := by rw [bne, a1]; rfl
    have b1 : (m == [97, 112, 112, 108, 105, 99, 97, 116, 105, 111, 110, 47, 118, 110, 100, 46, 111, 99, 105, 46, 105, 109, 97, 103, 101, 46, 109, 97, 110, 105, 102, 101, 115, 116, 46, 118, 49, 43, 106, 115, 111, 110]) = false := by rw [beq_eq_false_iff_ne]; exact hi
    have b2 : (m != [97, 112, 112, 108, 105, 99, 97, 116, 105, 111, 110, 47, 118, 110, 100, 46, 111, 99, 105, 46, 105, 109, 97, 103, 101, 46, 109, 97, 110, 105, 102, 101, 115, 116, 46, 118, 49, 43, 106, 115, 111, 110]) = true := by rw [bne, b1]; rfl
    replace hi := box hi
    replace hx := box hx
    by_cases ht : ty = []
    ·skip
     have t1 : (ty == []) = true := by rw [beq_iff_eq]; exact ht
     have t2 : (ty != []) = false := by rw [bne, t1]; rfl
     have hB : Box (D.type = [] ∨ mediaB D.type = true) := box (.inl (by rw [hDt.out]; exact ht))
     replace ht := box ht
     by_cases he : 64 < ne
     ·have e64 : decide ((64 : Int) < (ne : Int)) = true := decide_eq_true (by omega)
      have hres : Box (decide (mRight D) = false) := box (decide_eq_false (fun h => by have h3 := h.2.2.1; rw [hDe.out, ← hne.out] at h3; omega))
      replace he := box he
      go_wp2_with (first | (with_reducible refine lsx (wp_fld0 hF1 uq9 rfl (by with_unfolding_all exact ⟨_, rfl, rfl⟩) docL_m0 ?_)) | (with_reducible refine lsx (wp_fld0 hF1 uq9 rfl (by with_unfolding_all exact ⟨_, rfl, rfl⟩) docL_t0 ?_)) | (with_reducible refine lsx (wp_fld0 hF1 uq38 rfl (by with_unfolding_all exact ⟨_, rfl, rfl⟩) (docL_eg hcl.out) ?_)) | (with_reducible refine lsx (wp_fld0 hF1 uq35 rfl (by with_unfolding_all exact ⟨_, rfl, rfl⟩) (docL_nt hcl.out hsl.out) ?_)))
      go_ret
      exact ⟨by rw [hres.out]; rfl, hF1.below⟩
     have e64 : decide ((64 : Int) < (ne : Int)) = false := decide_eq_false (by omega)
     have hC : Box (D.edges.length ≤ 64) := box (by rw [hDe.out, ← hne.out]; omega)
     have hne64 : ne ≤ 64 := by omega
     replace he := box he
     cases hq : decide (mRightN D.notes) with
     | false =>
      have hres : Box (decide (mRight D) = false) := box (decide_eq_false (fun h => (of_decide_eq_false hq) h.2.2.2.1))
      rw [hq] at hnr
      clear hq
      go_wp2_with (first | (with_reducible refine lsx (wp_fld0 hF1 uq9 rfl (by with_unfolding_all exact ⟨_, rfl, rfl⟩) docL_m0 ?_)) | (with_reducible refine lsx (wp_fld0 hF1 uq9 rfl (by with_unfolding_all exact ⟨_, rfl, rfl⟩) docL_t0 ?_)) | (with_reducible refine lsx (wp_fld0 hF1 uq38 rfl (by with_unfolding_all exact ⟨_, rfl, rfl⟩) (docL_eg hcl.out) ?_)) | (with_reducible refine lsx (wp_fld0 hF1 uq35 rfl (by with_unfolding_all exact ⟨_, rfl, rfl⟩) (docL_nt hcl.out hsl.out) ?_)))
      refine (hnr.out _ hF1.below).mono ?_
      rintro e w2 ⟨rfl, hb2⟩
      have hF2 := hF1.call hb2
      go_wp2_with fail
      go_ret
      exact ⟨by rw [hres.out]; rfl, hF2.below⟩
     | true =>
      have hN := box (of_decide_eq_true hq)
      rw [hq] at hnr
      clear hq
      go_wp2_with (first | (with_reducible refine lsx (wp_fld0 hF1 uq9 rfl (by with_unfolding_all exact ⟨_, rfl, rfl⟩) docL_m0 ?_)) | (with_reducible refine lsx (wp_fld0 hF1 uq9 rfl (by with_unfolding_all exact ⟨_, rfl, rfl⟩) docL_t0 ?_)) | (with_reducible refine lsx (wp_fld0 hF1 uq38 rfl (by with_unfolding_all exact ⟨_, rfl, rfl⟩) (docL_eg hcl.out) ?_)) | (with_reducible refine lsx (wp_fld0 hF1 uq35 rfl (by with_unfolding_all exact ⟨_, rfl, rfl⟩) (docL_nt hcl.out hsl.out) ?_)))
      refine (hnr.out _ hF1.below).mono ?_
      rintro e w2 ⟨rfl, hb2⟩
      have hF2 := hF1.call hb2
      clear hF1 hb2
      go_wp2_with fail
      go_meet
      exact ⟨⟨.inr hA.out, hB.out, hC.out, hN.out⟩, hF2⟩
    have t1 : (ty == []) = false := by rw [beq_eq_false_iff_ne]; exact ht
    have t2 : (ty != []) = true := by rw [bne, t1]; rfl
    cases hm : mediaB ty with
    | true =>
     have hB : Box (D.type = [] ∨ mediaB D.type = true) := box (.inr (by rw [hDt.out]; exact hm))
     rw [hm] at hmed
     replace hm := box hm
     replace ht := box ht
     by_cases he : 64 < ne
     ·have e64 : decide ((64 : Int) < (ne : Int)) = true := decide_eq_true (by omega)
      have hres : Box (decide (mRight D) = false) := box (decide_eq_false (fun h => by have h3 := h.2.2.1; rw [hDe.out, ← hne.out] at h3; omega))
      replace he := box he
      go_wp2_with (first | (with_reducible refine lsx (wp_fld0 hF1 uq9 rfl (by with_unfolding_all exact ⟨_, rfl, rfl⟩) docL_m0 ?_)) | (with_reducible refine lsx (wp_fld0 hF1 uq9 rfl (by with_unfolding_all exact ⟨_, rfl, rfl⟩) docL_t0 ?_)) | (with_reducible refine lsx (wp_fld0 hF1 uq38 rfl (by with_unfolding_all exact ⟨_, rfl, rfl⟩) (docL_eg hcl.out) ?_)) | (with_reducible refine lsx (wp_fld0 hF1 uq35 rfl (by with_unfolding_all exact ⟨_, rfl, rfl⟩) (docL_nt hcl.out hsl.out) ?_)))
      refine (hmed.out _).mono ?_
      rintro e w2 ⟨rfl, rfl⟩
      go_wp2_with (first | (with_reducible refine lsx (wp_fld0 hF1 uq9 rfl (by with_unfolding_all exact ⟨_, rfl, rfl⟩) docL_m0 ?_)) | (with_reducible refine lsx (wp_fld0 hF1 uq9 rfl (by with_unfolding_all exact ⟨_, rfl, rfl⟩) docL_t0 ?_)) | (with_reducible refine lsx (wp_fld0 hF1 uq38 rfl (by with_unfolding_all exact ⟨_, rfl, rfl⟩) (docL_eg hcl.out) ?_)) | (with_reducible refine lsx (wp_fld0 hF1 uq35 rfl (by with_unfolding_all exact ⟨_, rfl, rfl⟩) (docL_nt hcl.out hsl.out) ?_)))
      go_ret
      exact ⟨by rw [hres.out]; rfl, hF1.below⟩
     have e64 : decide ((64 : Int) < (ne : Int)) = false := decide_eq_false (by omega)
     have hC : Box (D.edges.length ≤ 64) := box (by rw [hDe.out, ← hne.out]; omega)
     have hne64 : ne ≤ 64 := by omega
     replace he := box he
     cases hq : decide (mRightN D.notes) with
     | false =>
      have hres : Box (decide (mRight D) = false) := box (decide_eq_false (fun h => (of_decide_eq_false hq) h.2.2.2.1))
      rw [hq] at hnr
      clear hq
      go_wp2_with (first | (with_reducible refine lsx (wp_fld0 hF1 uq9 rfl (by with_unfolding_all exact ⟨_, rfl, rfl⟩) docL_m0 ?_)) | (with_reducible refine lsx (wp_fld0 hF1 uq9 rfl (by with_unfolding_all exact ⟨_, rfl, rfl⟩) docL_t0 ?_)) | (with_reducible refine lsx (wp_fld0 hF1 uq38 rfl (by with_unfolding_all exact ⟨_, rfl, rfl⟩) (docL_eg hcl.out) ?_)) | (with_reducible refine lsx (wp_fld0 hF1 uq35 rfl (by with_unfolding_all exact ⟨_, rfl, rfl⟩) (docL_nt hcl.out hsl.out) ?_)))
      refine (hmed.out _).mono ?_
      rintro e w2 ⟨rfl, rfl⟩
      go_wp2_with (first | (with_reducible refine lsx (wp_fld0 hF1 uq9 rfl (by with_unfolding_all exact ⟨_, rfl, rfl⟩) docL_m0 ?_)) | (with_reducible refine lsx (wp_fld0 hF1 uq9 rfl (by with_unfolding_all exact ⟨_, rfl, rfl⟩) docL_t0 ?_)) | (with_reducible refine lsx (wp_fld0 hF1 uq38 rfl (by with_unfolding_all exact ⟨_, rfl, rfl⟩) (docL_eg hcl.out) ?_)) | (with_reducible refine lsx (wp_fld0 hF1 uq35 rfl (by with_unfolding_all exact ⟨_, rfl, rfl⟩) (docL_nt hcl.out hsl.out) ?_)))
      refine (hnr.out _ hF1.below).mono ?_
      rintro e w2 ⟨rfl, hb2⟩
      have hF2 := hF1.call hb2
      go_wp2_with fail
      go_ret
      exact ⟨by rw [hres.out]; rfl, hF2.below⟩
     | true =>
      have hN := box (of_decide_eq_true hq)
      rw [hq] at hnr
      clear hq
      go_wp2_with (first | (with_reducible refine lsx (wp_fld0 hF1 uq9 rfl (by with_unfolding_all exact ⟨_, rfl, rfl⟩) docL_m0 ?_)) | (with_reducible refine lsx (wp_fld0 hF1 uq9 rfl (by with_unfolding_all exact ⟨_, rfl, rfl⟩) docL_t0 ?_)) | (with_reducible refine lsx (wp_fld0 hF1 uq38 rfl (by with_unfolding_all exact ⟨_, rfl, rfl⟩) (docL_eg hcl.out) ?_)) | (with_reducible refine lsx (wp_fld0 hF1 uq35 rfl (by with_unfolding_all exact ⟨_, rfl, rfl⟩) (docL_nt hcl.out hsl.out) ?_)))
      refine (hmed.out _).mono ?_
      rintro e w2 ⟨rfl, rfl⟩
      go_wp2_with (first | (with_reducible refine lsx (wp_fld0 hF1 uq9 rfl (by with_unfolding_all exact ⟨_, rfl, rfl⟩) docL_m0 ?_)) | (with_reducible refine lsx (wp_fld0 hF1 uq9 rfl (by with_unfolding_all exact ⟨_, rfl, rfl⟩) docL_t0 ?_)) | (with_reducible refine lsx (wp_fld0 hF1 uq38 rfl (by with_unfolding_all exact ⟨_, rfl, rfl⟩) (docL_eg hcl.out) ?_)) | (with_reducible refine lsx (wp_fld0 hF1 uq35 rfl (by with_unfolding_all exact ⟨_, rfl, rfl⟩) (docL_nt hcl.out hsl.out) ?_)))
      refine (hnr.out _ hF1.below).mono ?_
      rintro e w2 ⟨rfl, hb2⟩
      have hF2 := hF1.call hb2
      clear hF1 hb2
      go_wp2_with fail
      go_meet
      exact ⟨⟨.inr hA.out, hB.out, hC.out, hN.out⟩, hF2⟩
    | false =>
     have hres : Box (decide (mRight D) = false) := box (decide_eq_false (fun h => by
      rcases h.2.1 with h | h
      ·exact ht (by rw [← hDt.out]; exact h)
      ·rw [hDt.out, hm] at h; cases h))
     rw [hm] at hmed
     replace hm := box hm
     replace ht := box ht
     go_wp2_with (first | (with_reducible refine lsx (wp_fld0 hF1 uq9 rfl (by with_unfolding_all exact ⟨_, rfl, rfl⟩) docL_m0 ?_)) | (with_reducible refine lsx (wp_fld0 hF1 uq9 rfl (by with_unfolding_all exact ⟨_, rfl, rfl⟩) docL_t0 ?_)) | (with_reducible refine lsx (wp_fld0 hF1 uq38 rfl (by with_unfolding_all exact ⟨_, rfl, rfl⟩) (docL_eg hcl.out) ?_)) | (with_reducible refine lsx (wp_fld0 hF1 uq35 rfl (by with_unfolding_all exact ⟨_, rfl, rfl⟩) (docL_nt hcl.out hsl.out) ?_)))
     refine (hmed.out _).mono ?_
     rintro e w2 ⟨rfl, rfl⟩
     go_wp2_with (first | (with_reducible refine lsx (wp_fld0 hF1 uq9 rfl (by with_unfolding_all exact ⟨_, rfl, rfl⟩) docL_m0 ?_)) | (with_reducible refine lsx (wp_fld0 hF1 uq9 rfl (by with_unfolding_all exact ⟨_, rfl, rfl⟩) docL_t0 ?_)) | (with_reducible refine lsx (wp_fld0 hF1 uq38 rfl (by with_unfolding_all exact ⟨_, rfl, rfl⟩) (docL_eg hcl.out) ?_)) | (with_reducible refine lsx (wp_fld0 hF1 uq35 rfl (by with_unfolding_all exact ⟨_, rfl, rfl⟩) (docL_nt hcl.out hsl.out) ?_)))
     go_ret
     exact ⟨by rw [hres.out]; rfl, hF1.below⟩
   have a1 : (m == [97, 112, 112, 108, 105, 99, 97, 116, 105, 111, 110, 47, 118, 110, 100, 46, 111, 99, 105, 46, 105, 109, 97, 103, 101, 46, 109, 97, 110, 105, 102, 101, 115, 116, 46, 118, 49, 43, 106, 115, 111, 110]) = false := by rw [beq_eq_false_iff_ne]; exact hi
   have a2 : (m != [97, 112, 112, 108, 105, 99, 97, 116, 105, 111, 110, 47, 118, 110, 100, 46, 111, 99, 105, 46, 105, 109, 97, 103, 101, 46, 109, 97, 110, 105, 102, 101, 115, 116, 46, 118, 49, 43, 106, 115, 111, 110]) = true := by rw [bne, a1]; rfl
   have b1 : (m == [97, 112, 112, 108, 105, 99, 97, 116, 105, 111, 110, 47, 118, 110, 100, 46, 111, 99, 105, 46, 105, 109, 97, 103, 101, 46, 105, 110, 100, 101, 120, 46, 118, 49, 43, 106, 115, 111, 110]) = false := by rw [beq_eq_false_iff_ne]; exact hx
   have b2 : (m != [97, 112, 112, 108, 105, 99, 97, 116, 105, 111, 110, 47, 118, 110, 100, 46, 111, 99, 105, 46, 105, 109, 97, 103, 101, 46, 105, 110, 100, 101, 120, 46, 118, 49, 43, 106, 115, 111, 110]) = true := by rw [bne, b1]; rfl
   have hres : Box (decide (mRight D) = false) := box (decide_eq_false (fun h => by
    have h1 := h.1
    rw [hDm.out] at h1
    rcases h1 with h1 | h1
    ·exact hi h1
    ·exact hx h1))
   replace hi := box hi
   replace hx := box hx
   go_wp2_with (first | (with_reducible refine lsx (wp_fld0 hF1 uq9 rfl (by with_unfolding_all exact ⟨_, rfl, rfl⟩) docL_m0 ?_)) | (with_reducible refine lsx (wp_fld0 hF1 uq9 rfl (by with_unfolding_all exact ⟨_, rfl, rfl⟩) docL_t0 ?_)) | (with_reducible refine lsx (wp_fld0 hF1 uq38 rfl (by with_unfolding_all exact ⟨_, rfl, rfl⟩) (docL_eg hcl.out) ?_)) | (with_reducible refine lsx (wp_fld0 hF1 uq35 rfl (by with_unfolding_all exact ⟨_, rfl, rfl⟩) (docL_nt hcl.out hsl.out) ?_)))
   go_ret
   exact ⟨by rw [hres.out]; rfl, hF1.below⟩
  case rest =>
   obtain ⟨⟨hA0, hB', hC', hN'⟩, hF2⟩ := hcut
   clear hF1 hnr hmed
   have hB := box hB'
   have hC := box hC'
   have hN := box hN'
   have hne64 : ne ≤ 64 := by rw [hDe.out] at hC'; rw [hne.out]; exact hC'
   clear hB' hC' hN'
   have hok : Box ((∀ x ∈ eds, mRightD x) → (D.media = sImage → mRightD D.config) → (D.has = true → mRightD D.subject) → mRight D) := box (fun h1 h2 h3 => ⟨hA0, hB.out, hC.out, hN.out, by rw [hDe.out]; exact h1, h2, h3⟩)
   replace hA0 := box hA0
   go_wp2_with fail
   go_loopg [3] ne (fun g a wr => ∃ i : Nat, i ≤ ne ∧ Box (g = ne - i) ∧ a = .int .i64 (i : Int) ∧ Box (∀ j x, j < i → eds[j]? = some x → mRightD x) ∧ Fr [] w wr [.blk g1 40 (docL m ty cf (.slice Ae ne ce) sj hs (.slice An nn cn))])
   case atStart => exact ⟨0, by omega, box rfl, rfl, box (fun j x hj => absurd hj (by omega)), hF2⟩
   case round =>
    clear hF2
    obtain ⟨i, hi, hgi, rfl, hgd, hF⟩ := hrel
    have hkk : Box (_ = ne - i) := hgi
    clear hgi
    have hre' := hre.out.below hF.below
    by_cases hlt : i < ne
    ·obtain ⟨x, hx'⟩ : ∃ x, eds[i]? = some x := ⟨eds[i]'(by rw [← hne.out]; exact hlt), by simp⟩
     have hxm := List.mem_of_getElem? hx'
     have hxd := (hEd.out i x hx').on hF.below
     have hxl := box hxd.len
     have hdx := box (rrightD_any x _ _ hxd (hsE.out x hxm))
     have hx := box hx'
     have hci := box (rfl : ((xe.drop (i * 35)).take 35) = ((xe.drop (i * 35)).take 35))
     obtain ⟨ci, hce⟩ : ∃ ci, ci = (xe.drop (i * 35)).take 35 := ⟨_, rfl⟩
     rw [← hce] at hxl hdx
     replace hce := box hce.symm
     clear hci hx' hxd
     cases hq : decide (mRightD x) with
     | false =>
      have hres : Box (decide (mRight D) = false) := box (decide_eq_false (fun h => (of_decide_eq_false hq) (h.2.2.2.2.1 x (by rw [hDe.out]; exact hxm))))
      rw [hq] at hdx
      clear hq hxm
      go_wp2_with (first | (with_reducible refine lsx (wp_fld0 hF uq38 rfl (by with_unfolding_all exact ⟨_, rfl, rfl⟩) (docL_eg hcl.out) ?_)) | (with_reducible refine lsx (wp_indexAddr T_rdesc17 hre' (by with_unfolding_all exact ⟨_, _, _, _, rfl, rfl, rfl⟩) (by omega) (by omega) ?_)) | (with_reducible refine lsx (wp_loadA hre' uq37 rfl (by with_unfolding_all exact ⟨_, rfl, rfl⟩) (ds := ci) (by rw [hxl.out]; kernel_rfl) (by rw [hxl.out]; with_unfolding_all exact hce.out) ?_)))
      refine hdx.out.mono ?_
      rintro e w5 ⟨rfl, hb5⟩
      have hF5 := hF.call hb5
      go_wp2_with fail
      go_ret
      exact ⟨by rw [hres.out]; rfl, hF5.below⟩
     | true =>
      have hgd2 : Box (∀ j y, j < i + 1 → eds[j]? = some y → mRightD y) := box (fun j y hj hy => by
       by_cases h : j < i
       ·exact hgd.out j y h hy
       ·obtain rfl : j = i := by omega
        rw [hx.out] at hy
        injection hy with hy
        subst hy
        exact of_decide_eq_true hq)
      rw [hq] at hdx
      clear hq hxm
      go_wp2_with (first | (with_reducible refine lsx (wp_fld0 hF uq38 rfl (by with_unfolding_all exact ⟨_, rfl, rfl⟩) (docL_eg hcl.out) ?_)) | (with_reducible refine lsx (wp_indexAddr T_rdesc17 hre' (by with_unfolding_all exact ⟨_, _, _, _, rfl, rfl, rfl⟩) (by omega) (by omega) ?_)) | (with_reducible refine lsx (wp_loadA hre' uq37 rfl (by with_unfolding_all exact ⟨_, rfl, rfl⟩) (ds := ci) (by rw [hxl.out]; kernel_rfl) (by rw [hxl.out]; with_unfolding_all exact hce.out) ?_)))
      refine hdx.out.mono ?_
      rintro e w5 ⟨rfl, hb5⟩
      have hF5 := hF.call hb5
      go_wp2_with fail
      go_roundg (ne - (i + 1))
      case rel => exact ⟨i + 1, by omega, box rfl, by go_num, hgd2, hF5⟩
      case measure => have := hkk.out; omega
    ·obtain rfl : ne = i := by omega
     have hall : Box (∀ x ∈ eds, mRightD x) := box (fun x hx => by
      obtain ⟨j, hj⟩ := List.mem_iff_getElem?.1 hx
      exact hgd.out j x (by rw [hne.out]; exact (List.getElem?_eq_some_iff.1 hj).1) hj)
     clear hgd
     by_cases hi : m = sImage
     ·skip
      have hA : Box (D.media = sImage) := box (by rw [hDm.out]; exact hi)
      have a1 : (m == [97, 112, 112, 108, 105, 99, 97, 116, 105, 111, 110, 47, 118, 110, 100, 46, 111, 99, 105, 46, 105, 109, 97, 103, 101, 46, 109, 97, 110, 105, 102, 101, 115, 116, 46, 118, 49, 43, 106, 115, 111, 110]) = true := by rw [beq_iff_eq]; exact hi
      have a2 : (m != [97, 112, 112, 108, 105, 99, 97, 116, 105, 111, 110, 47, 118, 110, 100, 46, 111, 99, 105, 46, 105, 109, 97, 103, 101, 46, 109, 97, 110, 105, 102, 101, 115, 116, 46, 118, 49, 43, 106, 115, 111, 110]) = false := by rw [bne, a1]; rfl
      have b1 : (m == [97, 112, 112, 108, 105, 99, 97, 116, 105, 111, 110, 47, 118, 110, 100, 46, 111, 99, 105, 46, 105, 109, 97, 103, 101, 46, 105, 110, 100, 101, 120, 46, 118, 49, 43, 106, 115, 111, 110]) = false := by rw [beq_eq_false_iff_ne]; exact (fun h => sImage_ne (hi.symm.trans h))
      have b2 : (m != [97, 112, 112, 108, 105, 99, 97, 116, 105, 111, 110, 47, 118, 110, 100, 46, 111, 99, 105, 46, 105, 109, 97, 103, 101, 46, 105, 110, 100, 101, 120, 46, 118, 49, 43, 106, 115, 111, 110]) = true := by rw [bne, b1]; rfl
      replace hi := box hi
      have hdc := box (rrightD_any D.config _ _ (hCd.out _ hF.below) hsC.out)
      cases hq : decide (mRightD D.config) with
      | false =>
       have hres : Box (decide (mRight D) = false) := box (decide_eq_false (fun h => (of_decide_eq_false hq) (h.2.2.2.2.2.1 hA.out)))
       rw [hq] at hdc
       clear hq
       go_wp2_with (first | (with_reducible refine lsx (wp_fld0 hF uq38 rfl (by with_unfolding_all exact ⟨_, rfl, rfl⟩) (docL_eg hcl.out) ?_)) | (with_reducible refine lsx (wp_fld0 hF uq9 rfl (by with_unfolding_all exact ⟨_, rfl, rfl⟩) docL_m0 ?_)) | (with_reducible refine lsx (wp_fldA0 hF uq37 rfl (by with_unfolding_all exact ⟨_, rfl, rfl⟩) (ds := cf) (by rw [hcl.out]; kernel_rfl) (by rw [hcl.out]; exact docL_cf hcl.out) ?_)) | (with_reducible refine lsx (wp_fld0 hF uq4 rfl (by with_unfolding_all exact ⟨_, rfl, rfl⟩) (docL_has hcl.out hsl.out) ?_)) | (with_reducible refine lsx (wp_fldA0 hF uq37 rfl (by with_unfolding_all exact ⟨_, rfl, rfl⟩) (ds := sj) (by rw [hsl.out]; kernel_rfl) (by rw [hsl.out]; exact docL_sj hcl.out hsl.out) ?_)))
       refine hdc.out.mono ?_
       rintro e w7 ⟨rfl, hb7⟩
       have hF7 := hF.call hb7
       go_wp2_with fail
       go_ret
       exact ⟨by rw [hres.out]; rfl, hF7.below⟩
      | true =>
       have hcg := box (of_decide_eq_true hq)
       rw [hq] at hdc
       clear hq
       go_wp2_with (first | (with_reducible refine lsx (wp_fld0 hF uq38 rfl (by with_unfolding_all exact ⟨_, rfl, rfl⟩) (docL_eg hcl.out) ?_)) | (with_reducible refine lsx (wp_fld0 hF uq9 rfl (by with_unfolding_all exact ⟨_, rfl, rfl⟩) docL_m0 ?_)) | (with_reducible refine lsx (wp_fldA0 hF uq37 rfl (by with_unfolding_all exact ⟨_, rfl, rfl⟩) (ds := cf) (by rw [hcl.out]; kernel_rfl) (by rw [hcl.out]; exact docL_cf hcl.out) ?_)) | (with_reducible refine lsx (wp_fld0 hF uq4 rfl (by with_unfolding_all exact ⟨_, rfl, rfl⟩) (docL_has hcl.out hsl.out) ?_)) | (with_reducible refine lsx (wp_fldA0 hF uq37 rfl (by with_unfolding_all exact ⟨_, rfl, rfl⟩) (ds := sj) (by rw [hsl.out]; kernel_rfl) (by rw [hsl.out]; exact docL_sj hcl.out hsl.out) ?_)))
       refine hdc.out.mono ?_
       rintro e w7 ⟨rfl, hb7⟩
       have hF7 := hF.call hb7
       cases hs with
       | false =>
        have hres : Box (decide (mRight D) = true) := box (decide_eq_true (hok.out hall.out (fun _ => hcg.out) (fun h => by rw [hDh.out] at h; cases h)))
        go_wp2_with (first | (with_reducible refine lsx (wp_fld0 hF7 uq38 rfl (by with_unfolding_all exact ⟨_, rfl, rfl⟩) (docL_eg hcl.out) ?_)) | (with_reducible refine lsx (wp_fld0 hF7 uq9 rfl (by with_unfolding_all exact ⟨_, rfl, rfl⟩) docL_m0 ?_)) | (with_reducible refine lsx (wp_fldA0 hF7 uq37 rfl (by with_unfolding_all exact ⟨_, rfl, rfl⟩) (ds := cf) (by rw [hcl.out]; kernel_rfl) (by rw [hcl.out]; exact docL_cf hcl.out) ?_)) | (with_reducible refine lsx (wp_fld0 hF7 uq4 rfl (by with_unfolding_all exact ⟨_, rfl, rfl⟩) (docL_has hcl.out hsl.out) ?_)) | (with_reducible refine lsx (wp_fldA0 hF7 uq37 rfl (by with_unfolding_all exact ⟨_, rfl, rfl⟩) (ds := sj) (by rw [hsl.out]; kernel_rfl) (by rw [hsl.out]; exact docL_sj hcl.out hsl.out) ?_)))
        go_ret
        exact ⟨by rw [hres.out]; rfl, hF7.below⟩
       | true =>
        have hds := box (rrightD_any D.subject _ _ (hSd.out _ hF7.below) hsS.out)
        have hres : Box (decide (mRight D) = decide (mRightD D.subject)) := box (by
         by_cases h : mRightD D.subject
         ·rw [decide_eq_true h, decide_eq_true (hok.out hall.out (fun _ => hcg.out) (fun _ => h))]
         ·rw [decide_eq_false h, decide_eq_false (fun h2 => h (h2.2.2.2.2.2.2 hDh.out))])
        go_wp2_with (first | (with_reducible refine lsx (wp_fld0 hF7 uq38 rfl (by with_unfolding_all exact ⟨_, rfl, rfl⟩) (docL_eg hcl.out) ?_)) | (with_reducible refine lsx (wp_fld0 hF7 uq9 rfl (by with_unfolding_all exact ⟨_, rfl, rfl⟩) docL_m0 ?_)) | (with_reducible refine lsx (wp_fldA0 hF7 uq37 rfl (by with_unfolding_all exact ⟨_, rfl, rfl⟩) (ds := cf) (by rw [hcl.out]; kernel_rfl) (by rw [hcl.out]; exact docL_cf hcl.out) ?_)) | (with_reducible refine lsx (wp_fld0 hF7 uq4 rfl (by with_unfolding_all exact ⟨_, rfl, rfl⟩) (docL_has hcl.out hsl.out) ?_)) | (with_reducible refine lsx (wp_fldA0 hF7 uq37 rfl (by with_unfolding_all exact ⟨_, rfl, rfl⟩) (ds := sj) (by rw [hsl.out]; kernel_rfl) (by rw [hsl.out]; exact docL_sj hcl.out hsl.out) ?_)))
        refine hds.out.mono ?_
        rintro e w9 ⟨rfl, hb9⟩
        have hF9 := hF7.call hb9
        go_wp2_with fail
        go_ret
        exact ⟨by rw [hres.out]; rfl, hF9.below⟩
     ·skip
      have hA : Box (D.media = sIndex) := box (hA0.out.resolve_left (by rw [hDm.out]; exact hi))
      have hx : m = sIndex := by rw [← hDm.out]; exact hA.out
      have a1 : (m == [97, 112, 112, 108, 105, 99, 97, 116, 105, 111, 110, 47, 118, 110, 100, 46, 111, 99, 105, 46, 105, 109, 97, 103, 101, 46, 105, 110, 100, 101, 120, 46, 118, 49, 43, 106, 115, 111, 110]) = true := by rw [beq_iff_eq]; exact hx
      have a2 : (m != [97, 112, 112, 108, 105, 99, 97, 116, 105, 111, 110, 47, 118, 110, 100, 46, 111, 99, 105, 46, 105, 109, 97, 103, 101, 46, 105, 110, 100, 101, 120, 46, 118, 49, 43, 106, 115, 111, 110]) = false := by rw [bne, a1]; rfl
      have b1 : (m == [97, 112, 112, 108, 105, 99, 97, 116, 105, 111, 110, 47, 118, 110, 100, 46, 111, 99, 105, 46, 105, 109, 97, 103, 101, 46, 109, 97, 110, 105, 102, 101, 115, 116, 46, 118, 49, 43, 106, 115, 111, 110]) = false := by rw [beq_eq_false_iff_ne]; exact hi
      have b2 : (m != [97, 112, 112, 108, 105, 99, 97, 116, 105, 111, 110, 47, 118, 110, 100, 46, 111, 99, 105, 46, 105, 109, 97, 103, 101, 46, 109, 97, 110, 105, 102, 101, 115, 116, 46, 118, 49, 43, 106, 115, 111, 110]) = true := by rw [bne, b1]; rfl
      replace hi := box hi
      replace hx := box hx
      cases hs with
      | false =>
       have hres : Box (decide (mRight D) = true) := box (decide_eq_true (hok.out hall.out (fun h => absurd (h.symm.trans hA.out) sImage_ne) (fun h => by rw [hDh.out] at h; cases h)))
       go_wp2_with (first | (with_reducible refine lsx (wp_fld0 hF uq38 rfl (by with_unfolding_all exact ⟨_, rfl, rfl⟩) (docL_eg hcl.out) ?_)) | (with_reducible refine lsx (wp_fld0 hF uq9 rfl (by with_unfolding_all exact ⟨_, rfl, rfl⟩) docL_m0 ?_)) | (with_reducible refine lsx (wp_fldA0 hF uq37 rfl (by with_unfolding_all exact ⟨_, rfl, rfl⟩) (ds := cf) (by rw [hcl.out]; kernel_rfl) (by rw [hcl.out]; exact docL_cf hcl.out) ?_)) | (with_reducible refine lsx (wp_fld0 hF uq4 rfl (by with_unfolding_all exact ⟨_, rfl, rfl⟩) (docL_has hcl.out hsl.out) ?_)) | (with_reducible refine lsx (wp_fldA0 hF uq37 rfl (by with_unfolding_all exact ⟨_, rfl, rfl⟩) (ds := sj) (by rw [hsl.out]; kernel_rfl) (by rw [hsl.out]; exact docL_sj hcl.out hsl.out) ?_)))
       go_ret
       exact ⟨by rw [hres.out]; rfl, hF.below⟩
      | true =>
       have hds := box (rrightD_any D.subject _ _ (hSd.out _ hF.below) hsS.out)
       have hres : Box (decide (mRight D) = decide (mRightD D.subject)) := box (by
        by_cases h : mRightD D.subject
        ·rw [decide_eq_true h, decide_eq_true (hok.out hall.out (fun h => absurd (h.symm.trans hA.out) sImage_ne) (fun _ => h))]
        ·rw [decide_eq_false h, decide_eq_false (fun h2 => h (h2.2.2.2.2.2.2 hDh.out))])
       go_wp2_with (first | (with_reducible refine lsx (wp_fld0 hF uq38 rfl (by with_unfolding_all exact ⟨_, rfl, rfl⟩) (docL_eg hcl.out) ?_)) | (with_reducible refine lsx (wp_fld0 hF uq9 rfl (by with_unfolding_all exact ⟨_, rfl, rfl⟩) docL_m0 ?_)) | (with_reducible refine lsx (wp_fldA0 hF uq37 rfl (by with_unfolding_all exact ⟨_, rfl, rfl⟩) (ds := cf) (by rw [hcl.out]; kernel_rfl) (by rw [hcl.out]; exact docL_cf hcl.out) ?_)) | (with_reducible refine lsx (wp_fld0 hF uq4 rfl (by with_unfolding_all exact ⟨_, rfl, rfl⟩) (docL_has hcl.out hsl.out) ?_)) | (with_reducible refine lsx (wp_fldA0 hF uq37 rfl (by with_unfolding_all exact ⟨_, rfl, rfl⟩) (ds := sj) (by rw [hsl.out]; kernel_rfl) (by rw [hsl.out]; exact docL_sj hcl.out hsl.out) ?_)))
       refine hds.out.mono ?_
       rintro e w9 ⟨rfl, hb9⟩
       have hF9 := hF.call hb9
       go_wp2_with fail
       go_ret
       exact ⟨by rw [hres.out]; rfl, hF9.below⟩
end Go.Proofs.YtlhicfpmlncomaaGreatDoor

namespace Go.Proofs.YtlhicfpmlncomaaGreatDoor
open Go.ChangeShapes Go.WideShapes Go.ChangeAt Go.RowKit
def ntW (x : MNote) : Nat := x.key.length + x.val.length + 2
def dsW (d : MDesc) : Nat := d.media.length + (d.notes.map ntW).sum + 2
def dcW (d : MDoc) : Nat := d.media.length + d.type.length + dsW d.config + (d.edges.map dsW).sum + dsW d.subject + (d.notes.map ntW).sum + 2
theorem sum_mem {α : Type} {g : α → Nat} : ∀ {l : List α} {x : α}, x ∈ l → g x ≤ (l.map g).sum
 | [], _, h => by cases h
 | y :: l, x, h => by
  rw [List.map_cons, List.sum_cons]
  rcases List.mem_cons.1 h with rfl | h
  ·omega
  ·have := sum_mem (g := g) h; omega
theorem sum_two {α : Type} {g : α → Nat} (hg : ∀ x, 2 ≤ g x) : ∀ l : List α, 2 * l.length ≤ (l.map g).sum
 | [] => by simp
 | y :: l => by
  have := sum_two hg l
  have := hg y
  rw [List.map_cons, List.sum_cons, List.length_cons]; omega
theorem nt_sm {l : List MNote} (h : (l.map ntW).sum ≤ 1048576) : NtSm l := by
 have h2 := sum_two (g := ntW) (fun x => by unfold ntW; omega) l
 refine ⟨by omega, fun x hx => ?_⟩
 have := sum_mem (g := ntW) hx
 have h3 : ntW x = x.key.length + x.val.length + 2 := rfl
 omega
theorem ds_sm {d : MDesc} (h : dsW d ≤ 1048576) : DsSm d := by
 unfold dsW at h
 exact ⟨by omega, nt_sm (by omega)⟩
theorem dc_sm {d : MDoc} (h : dcW d ≤ 1048576) : DcSm d := by
 unfold dcW at h
 have h2 := sum_two (g := dsW) (fun x => by unfold dsW; omega) d.edges
 refine ⟨by omega, by omega, ds_sm (by omega), ⟨by omega, fun x hx => ?_⟩, ds_sm (by omega), nt_sm (by omega)⟩
 have := sum_mem (g := dsW) hx
 exact ds_sm (by omega)
theorem flat_part {α : Type} {f : α → List Value} {sz : Nat} : ∀ {l : List α}, (∀ u ∈ l, (f u).length = sz) → ∀ {i : Nat} {u : α}, l[i]? = some u → ((l.flatMap f).drop (i * sz)).take sz = f u
 | [], _, i, u, h => by cases h
 | x :: l, hl, i, u, h => by
  have hx := hl x (by simp)
  rw [List.flatMap_cons]
  cases i with
  | zero =>
   injection h with h
   subst h
   rw [Nat.zero_mul, List.drop_zero, List.take_left' hx]
  | succ i =>
   rw [show (i + 1) * sz = (f x).length + i * sz by rw [hx, Nat.add_mul, Nat.one_mul, Nat.add_comm], ← List.drop_drop, List.drop_left]
   exact flat_part (fun u hu => hl u (by simp [hu])) (by simpa using h)
structure NTT (P : Program) (t : TypeId) (fs : Array Field) (f0 f1 : Field) : Prop where
 und : P.underlying t = some (.struct fs)
 size : P.cellsOf t = 2
 at_ : fs = #[f0, f1]
 off : [f0, f1].map (fun f => (f.offset, P.cellsOf f.type)) = [(0, 1), (1, 1)]
 typ : [f0, f1].map (fun f => P.underlying f.type) = [some .string, some .string]
structure DST (P : Program) (t tn ub : TypeId) (fs : Array Field) (f0 f1 f2 f3 : Field) : Prop where
 und : P.underlying t = some (.struct fs)
 size : P.cellsOf t = 35
 at_ : fs = #[f0, f1, f2, f3]
 off : [f0, f1, f2, f3].map (fun f => (f.offset, P.cellsOf f.type)) = [(0, 1), (1, 32), (33, 1), (34, 1)]
 typ : [f0, f1, f2, f3].map (fun f => P.underlying f.type) = [some .string, some (.array 32 ub), some (.int .i64), some (.slice tn)]
 byt : P.underlying ub = some (.int .u8)
 one : P.cellsOf ub = 1
structure DCT (P : Program) (t td tn : TypeId) (fs : Array Field) (f0 f1 f2 f3 f4 f5 f6 : Field) : Prop where
 und : P.underlying t = some (.struct fs)
 size : P.cellsOf t = 75
 at_ : fs = #[f0, f1, f2, f3, f4, f5, f6]
 off : [f0, f1, f2, f3, f4, f5, f6].map (fun f => (f.offset, P.cellsOf f.type)) = [(0, 1), (1, 1), (2, 35), (37, 1), (38, 35), (73, 1), (74, 1)]
 typ : [f0, f1, f3, f5, f6].map (fun f => P.underlying f.type) = [some .string, some .string, some (.slice td), some .bool, some (.slice tn)]
 cfg : f2.type = td ∧ f4.type = td
section
variable {H : Type} {enc : TypeId × Value → H} {P : Program} {W : World} {hd : Bool}
theorem two_xs {xs : List (DataW H × List MemPlace)} (h : xs.length = 2) : ∃ x0 x1, xs = [x0, x1] := by
 match xs, h with
 | [x0, x1], _ => exact ⟨_, _, rfl⟩
theorem four_xs {xs : List (DataW H × List MemPlace)} (h : xs.length = 4) : ∃ x0 x1 x2 x3, xs = [x0, x1, x2, x3] := by
 match xs, h with
 | [x0, x1, x2, x3], _ => exact ⟨_, _, _, _, rfl⟩
theorem seven_xs {xs : List (DataW H × List MemPlace)} (h : xs.length = 7) : ∃ x0 x1 x2 x3 x4 x5 x6, xs = [x0, x1, x2, x3, x4, x5, x6] := by
 match xs, h with
 | [x0, x1, x2, x3, x4, x5, x6], _ => exact ⟨_, _, _, _, _, _, _, rfl⟩
theorem nt_in {t : TypeId} {fs : Array Field} {f0 f1 : Field} (T : NTT P t fs f0 f1) {fuel : Nat} {cs : List Value} {x : DataW H × List MemPlace} (h : DataW.trod enc P W 0 (fun _ => true) hd fuel t cs = some x) :
  ∃ u : MNote, cs = ntL u ∧ ntW u ≤ Rows.uptoBulk x.1 := by
 obtain ⟨xs, n, rfl, hx, hlen, hxl, hg⟩ := DataW.trod_struct T.und h
 rw [T.at_] at hxl
 obtain ⟨x0, x1, rfl⟩ := two_xs hxl
 have ho := T.off
 have ht := T.typ
 simp only [List.map_cons, List.map_nil, List.cons.injEq, Prod.mk.injEq, and_true] at ho ht
 obtain ⟨⟨o0, z0⟩, ⟨o1, z1⟩⟩ := ho
 obtain ⟨u0, u1⟩ := ht
 have g0 := hg 0 f0 (by rw [T.at_]; rfl)
 have g1 := hg 1 f1 (by rw [T.at_]; rfl)
 rw [o0, z0] at g0
 rw [o1, z1] at g1
 obtain ⟨s, e0, b0⟩ := strs_in u0 g0
 obtain ⟨s', e1, b1⟩ := strs_in u1 g1
 rw [T.size] at hlen
 refine ⟨⟨s.data.toList, s'.data.toList⟩, ?_, ?_⟩
 ·rw [show cs = cs.drop 0 from rfl, cut_at cs 0 1, e0, cut_at cs (0 + 1) 1, e1, List.drop_of_length_le (by omega)]
  rfl
 ·rw [hx]
  simp only [List.map_cons, List.map_nil, Rows.uptoBulk, Rows.uptoBulkAll, ntW]
  have h0 : s.data.toList.length = s.size := str_len s
  have h1 : s'.data.toList.length = s'.size := str_len s'
  omega
theorem ds_in {t tn ub : TypeId} {fs fn : Array Field} {f0 f1 f2 f3 n0 n1 : Field} (T : DST P t tn ub fs f0 f1 f2 f3) (N : NTT P tn fn n0 n1) {fuel : Nat} {cs : List Value} {x : DataW H × List MemPlace} (h : DataW.trod enc P W 0 (fun _ => true) hd fuel t cs = some x) :
  ∃ d : MDesc, RdD W d cs ∧ cs.length = 35 ∧ dsW d ≤ Rows.uptoBulk x.1 := by
 obtain ⟨xs, n, rfl, hx, hlen, hxl, hg⟩ := DataW.trod_struct T.und h
 rw [T.at_] at hxl
 obtain ⟨x0, x1, x2, x3, rfl⟩ := four_xs hxl
 have ho := T.off
 have ht := T.typ
 simp only [List.map_cons, List.map_nil, List.cons.injEq, Prod.mk.injEq, and_true] at ho ht
 obtain ⟨⟨o0, z0⟩, ⟨o1, z1⟩, ⟨o2, z2⟩, ⟨o3, z3⟩⟩ := ho
 obtain ⟨u0, u1, u2, u3⟩ := ht
 have g0 := hg 0 f0 (by rw [T.at_]; rfl)
 have g1 := hg 1 f1 (by rw [T.at_]; rfl)
 have g2 := hg 2 f2 (by rw [T.at_]; rfl)
 have g3 := hg 3 f3 (by rw [T.at_]; rfl)
 rw [o0, z0] at g0
 obtain ⟨dg, e1, l1⟩ := arr_in u1 T.byt T.one z1 g1
 rw [o1, z1] at e1
 rw [o2, z2] at g2
 rw [o3, z3] at g3
 obtain ⟨s, e0, b0⟩ := strs_in u0 g0
 obtain ⟨z, e2, w2⟩ := ints_in u2 g2
 obtain ⟨A, nn, cn, l, e3, h1, h2, h3, h4, h5⟩ := slR_in (α := MNote) (f := ntL) (g := ntW) (p := fun _ => True) u3 N.size (by decide) (fun m cs x _ h => by
  obtain ⟨u, hu, hb⟩ := nt_in N h
  exact ⟨u, hu, rfl, trivial, hb⟩) g3
 rw [T.size] at hlen
 refine ⟨⟨s.data.toList, dg, z, l⟩, ⟨.slice A nn cn, l1, ⟨A, nn, cn, h1, h2.symm, rfl, h3⟩, ?_⟩, hlen, ?_⟩
 ·rw [show cs = cs.drop 0 from rfl, cut_at cs 0 1, e0, cut_at cs (0 + 1) 32, e1, cut_at cs (0 + 1 + 32) 1, e2, cut_at cs (0 + 1 + 32 + 1) 1, e3, List.drop_of_length_le (by omega)]
  simp [dsL, strv]
 ·rw [hx]
  simp only [List.map_cons, List.map_nil, Rows.uptoBulk, Rows.uptoBulkAll, dsW]
  have h0 : s.data.toList.length = s.size := str_len s
  omega
theorem dc_in {t td tn ub : TypeId} {fs fd fn : Array Field} {f0 f1 f2 f3 f4 f5 f6 d0 d1 d2 d3 n0 n1 : Field} (T : DCT P t td tn fs f0 f1 f2 f3 f4 f5 f6) (D : DST P td tn ub fd d0 d1 d2 d3) (N : NTT P tn fn n0 n1) {fuel : Nat} {cs : List Value} {x : DataW H × List MemPlace} (h : DataW.trod enc P W 0 (fun _ => true) hd fuel t cs = some x) :
  ∃ d : MDoc, RdDoc W d cs ∧ dcW d ≤ Rows.uptoBulk x.1 := by
 obtain ⟨xs, n, rfl, hx, hlen, hxl, hg⟩ := DataW.trod_struct T.und h
 rw [T.at_] at hxl
 obtain ⟨x0, x1, x2, x3, x4, x5, x6, rfl⟩ := seven_xs hxl
 have ho := T.off
 have ht := T.typ
 simp only [List.map_cons, List.map_nil, List.cons.injEq, Prod.mk.injEq, and_true] at ho ht
 obtain ⟨⟨o0, z0⟩, ⟨o1, z1⟩, ⟨o2, z2⟩, ⟨o3, z3⟩, ⟨o4, z4⟩, ⟨o5, z5⟩, ⟨o6, z6⟩⟩ := ho
 obtain ⟨u0, u1, u3, u5, u6⟩ := ht
 obtain ⟨t2, t4⟩ := T.cfg
 have g0 := hg 0 f0 (by rw [T.at_]; rfl)
 have g1 := hg 1 f1 (by rw [T.at_]; rfl)
 have g2 := hg 2 f2 (by rw [T.at_]; rfl)
 have g3 := hg 3 f3 (by rw [T.at_]; rfl)
 have g4 := hg 4 f4 (by rw [T.at_]; rfl)
 have g5 := hg 5 f5 (by rw [T.at_]; rfl)
 have g6 := hg 6 f6 (by rw [T.at_]; rfl)
 rw [o0, z0] at g0
 rw [o1, z1] at g1
 rw [o2, z2, t2] at g2
 rw [o3, z3] at g3
 rw [o4, z4, t4] at g4
 rw [o5, z5] at g5
 rw [o6, z6] at g6
 obtain ⟨s0, e0, b0⟩ := strs_in u0 g0
 obtain ⟨s1, e1, b1⟩ := strs_in u1 g1
 obtain ⟨c2, r2, l2, w2⟩ := ds_in D N g2
 obtain ⟨c4, r4, l4, w4⟩ := ds_in D N g4
 obtain ⟨b, e5⟩ := bools_in u5 g5
 obtain ⟨Ae, ne, ce, le, e3, h1, h2, h3, h4, h5⟩ := slR_in (α := MDesc × List Value) (f := (·.2)) (g := fun u => dsW u.1) (p := fun u => RdD W u.1 u.2) u3 D.size (by decide) (fun m cs x _ h => by
  obtain ⟨d, hr, hl, hw⟩ := ds_in D N h
  exact ⟨(d, cs), rfl, hl, hr, hw⟩) g3
 obtain ⟨An, nn, cn, ln, e6, k1, k2, k3, k4, k5⟩ := slR_in (α := MNote) (f := ntL) (g := ntW) (p := fun _ => True) u6 N.size (by decide) (fun m cs x _ h => by
  obtain ⟨u, hu, hb⟩ := nt_in N h
  exact ⟨u, hu, rfl, trivial, hb⟩) g6
 rw [T.size] at hlen
 refine ⟨⟨s0.data.toList, s1.data.toList, c2, le.map (·.1), c4, b, ln⟩, ⟨(cs.drop 2).take 35, .slice Ae ne ce, (cs.drop 38).take 35, .slice An nn cn, r2, ⟨Ae, ne, ce, _, h1, by rw [List.length_map, h2], rfl, h3, fun i d hi => ?_⟩, r4, ⟨An, nn, cn, k1, k2.symm, rfl, k3⟩, ?_⟩, ?_⟩
 ·rw [List.getElem?_map] at hi
  cases hu : le[i]? with
  | none => rw [hu] at hi; cases hi
  | some u =>
   rw [hu] at hi
   injection hi with hi
   subst hi
   rw [flat_part (fun u hu => (h4 u hu).1) hu]
   exact (h4 u (List.mem_of_getElem? hu)).2
 ·have e : cs = ((cs.drop 0).take 1) ++ (((cs.drop 1).take 1) ++ (((cs.drop 2).take 35) ++ (((cs.drop 37).take 1) ++ (((cs.drop 38).take 35) ++ (((cs.drop 73).take 1) ++ ((cs.drop 74).take 1)))))) := by
   have q : (cs.drop 74).take 1 = cs.drop 74 := by rw [List.take_of_length_le (by rw [List.length_drop]; omega)]
   rw [q, ← cut_at cs 73 1, ← cut_at cs 38 35, ← cut_at cs 37 1, ← cut_at cs 2 35, ← cut_at cs 1 1, ← cut_at cs 0 1]
   rfl
  rw [e0, e1, e3, e5, e6] at e
  simpa [docL, strv] using e
 ·rw [hx]
  simp only [List.map_cons, List.map_nil, Rows.uptoBulk, Rows.uptoBulkAll, dcW]
  have h0 : s0.data.toList.length = s0.size := str_len s0
  have h1' : s1.data.toList.length = s1.size := str_len s1
  have h6 : (le.map (fun u => dsW u.1)).sum = ((le.map (·.1)).map dsW).sum := by rw [List.map_map]; rfl
  omega
theorem mdoc_in {t td tn ub : TypeId} {fs fd fn : Array Field} {f0 f1 f2 f3 f4 f5 f6 d0 d1 d2 d3 n0 n1 : Field} (T : DCT P t td tn fs f0 f1 f2 f3 f4 f5 f6) (D : DST P td tn ub fd d0 d1 d2 d3) (N : NTT P tn fn n0 n1) {r : Reach} {b0 : Nat} {v : Value} {d : DataW H} {ps : List MemPlace} (hv : Value.okWide P W r b0 t v) (h : DataW.Trod enc P W 0 (fun _ => true) hd t v d ps) :
  ∃ (q : MDoc) (cs : List Value), v = .agg cs.toArray ∧ RdDoc W q cs ∧ dcW q ≤ Rows.uptoBulk d := by
 obtain ⟨cs, rfl, hsz⟩ := okWide_struct T.und hv
 obtain ⟨fuel, hf⟩ := h
 obtain ⟨q, h1, h2⟩ := dc_in T D N (cs := cs.toList) (x := (d, ps)) hf
 exact ⟨q, cs.toList, by simp, h1, h2⟩
end
end Go.Proofs.YtlhicfpmlncomaaGreatDoor

namespace Go.Proofs.YtlhicfpmlncomaaGreatDoor
def rReadM (d : MDoc) (ms : List (List UInt8 × JV)) : MR MDoc := rReadL d (ms.map (·.1)) (ms.map (·.2))
theorem rReadM_nil {d : MDoc} : rReadM d [] = .ok d := by
 unfold rReadM
 rw [List.map_nil, List.map_nil, rReadL]
 intros; rename_i h1 h2; cases h1
theorem rReadM_cons {d d' : MDoc} {x : List UInt8 × JV} {ms : List (List UInt8 × JV)} (hs : rStep d x.1 x.2 = .ok d') : rReadM d (x :: ms) = rReadM d' ms := by
 unfold rReadM
 rw [List.map_cons, List.map_cons, rReadL, hs]
theorem mReadM_eq (d : MDoc) (h : MGot) (ms : List (List UInt8 × JV)) : mReadM d h ms = match rReadM d ms with
  | .ok d' => if mWhole d' (h.more (ms.map (·.1))) = true then .ok d' else .error 80
  | .error e => .error e := by
 unfold mReadM rReadM
 exact mReadL_eq _ _ _ _ (by simp)
def tUp (d : MDoc) : Nat → MDoc → MDoc
 | 0, y => y
 | 1, y => { y with media := d.media }
 | 2, y => { y with type := d.type }
 | 3, y => { y with config := d.config }
 | 4, y => { y with edges := d.edges }
 | 5, y => { y with subject := d.subject, has := true }
 | _ + 6, y => { y with notes := d.notes }
theorem tUp_media (d y : MDoc) (i : Nat) : (tUp d i y).media = if i = 1 then d.media else y.media := by
 rcases i with _ | _ | _ | _ | _ | _ | i
 ·rfl
 ·rfl
 ·rfl
 ·rfl
 ·rfl
 ·rfl
 ·rw [if_neg (by omega)]; rfl
def TUp (d : MDoc) (x : List UInt8 × JV) : Prop := ∃ i, (x.1 = kMedia ↔ i = 1) ∧ ∀ y, rStep y x.1 x.2 = .ok (tUp d i y)
theorem tUp_with {d : MDoc} {l : List MNote} (hl : l.length ≤ 32) (hd : d.notes = l) : ∀ x ∈ tWith l, TUp d x := by
 intro x hx
 unfold tWith at hx
 split at hx
 ·cases hx
 ·rw [List.mem_singleton.1 hx]
  exact ⟨6, ⟨fun h => absurd h (show ¬ kNotes = kMedia by decide), fun h => absurd h (by decide)⟩, fun y => by unfold rStep; rw [tell_step8 hl, ← hd]; rfl⟩
theorem tMems_up {d : MDoc} (hr : mRight d) (hg : MDig d) : ∀ x ∈ tMems d, TUp d x := by
 obtain ⟨h1, h2, h3, h4, h5, h6, h7⟩ := hr
 obtain ⟨g1, g2, g3⟩ := hg
 have hed : ∀ x ∈ d.edges, mRightD x ∧ x.dig.length = 32 := fun x hx => ⟨h5 x hx, g3 x hx⟩
 intro x hx
 unfold tMems at hx
 simp only [List.mem_append, List.mem_cons, List.not_mem_nil, or_false] at hx
 rcases hx with (rfl | rfl) | hx | hx | hx | hx
 ·exact ⟨0, ⟨fun h => absurd h (by decide), fun h => absurd h (by decide)⟩, fun y => by unfold rStep; rw [tell_step1]; rfl⟩
 ·exact ⟨1, ⟨fun _ => rfl, fun _ => rfl⟩, fun y => by unfold rStep; rw [tell_step2 h1]; rfl⟩
 ·unfold tType at hx
  split at hx
  ·cases hx
  ·rename_i ht
   rw [List.mem_singleton.1 hx]
   exact ⟨2, ⟨fun h => absurd h (show ¬ kType = kMedia by decide), fun h => absurd h (by decide)⟩, fun y => by unfold rStep; rw [tell_step3 (h2.resolve_left ht)]; rfl⟩
 ·unfold tMain at hx
  split at hx
  ·rename_i hi
   simp only [List.mem_cons, List.not_mem_nil, or_false] at hx
   rcases hx with rfl | rfl
   ·exact ⟨3, ⟨fun h => absurd h (show ¬ kConfig = kMedia by decide), fun h => absurd h (by decide)⟩, fun y => by unfold rStep; rw [tell_step4 (h6 hi) g1]; rfl⟩
   ·exact ⟨4, ⟨fun h => absurd h (show ¬ kLayers = kMedia by decide), fun h => absurd h (by decide)⟩, fun y => by unfold rStep; rw [tell_step5 h3 hed]; rfl⟩
  ·rw [List.mem_singleton.1 hx]
   exact ⟨4, ⟨fun h => absurd h (show ¬ kManifests = kMedia by decide), fun h => absurd h (by decide)⟩, fun y => by unfold rStep; rw [tell_step6 h3 hed]; rfl⟩
 ·unfold tSubj at hx
  split at hx
  ·rename_i hh
   rw [List.mem_singleton.1 hx]
   exact ⟨5, ⟨fun h => absurd h (show ¬ kSubject = kMedia by decide), fun h => absurd h (by decide)⟩, fun y => by unfold rStep; rw [tell_step7 (h7 hh) g2]; rfl⟩
  ·cases hx
 ·exact tUp_with h4.1 rfl x hx
theorem mRead_O (ms : List (List UInt8 × JV)) : mRead (jO ms) = mReadM .zero ⟨false, false, false, false, false⟩ ms := if_pos rfl
def tKeys (a b c e : Bool) : List (List UInt8) := [kVersion, kMedia] ++ ((if a = true then [kType] else []) ++ ((if b = true then [kConfig, kLayers] else [kManifests]) ++ ((if c = true then [kSubject] else []) ++ (if e = true then [kNotes] else []))))
theorem tMems_keys (d : MDoc) : (tMems d).map (·.1) = tKeys (decide (d.type ≠ [])) (decide (d.media = sImage)) d.has (decide (d.notes ≠ [])) := by
 unfold tMems tKeys tType tMain tSubj tWith
 rw [List.map_append, List.map_append, List.map_append, List.map_append]
 by_cases h1 : d.type = [] <;> by_cases h2 : d.media = sImage <;> by_cases h3 : d.has = true <;> by_cases h4 : d.notes = [] <;> simp [h1, h2, h3, h4]
theorem tKeys_nodup : ∀ a b c e, (tKeys a b c e).Nodup := by decide
def tMay (n : List UInt8) : Bool := n == kType || (n == kSubject || n == kNotes)
def lessHas (ks : List (List UInt8)) (x k : List UInt8) : Bool := decide (k ∈ ks) && !decide (k = x)
def lessB (b : Bool) (ks : List (List UInt8)) (x : List UInt8) : Bool :=
 if b = true then lessHas ks x kVersion && (lessHas ks x kMedia && (lessHas ks x kConfig && (lessHas ks x kLayers && !lessHas ks x kManifests)))
 else lessHas ks x kVersion && (lessHas ks x kMedia && (!lessHas ks x kConfig && (!lessHas ks x kLayers && lessHas ks x kManifests)))
theorem lessB_eq : ∀ a b c e, ∀ x ∈ tKeys a b c e, lessB b (tKeys a b c e) x = tMay x := by decide
theorem tRun {d : MDoc} : ∀ (l : List (List UInt8 × JV)), (∀ x ∈ l, TUp d x) → ∀ y, ∃ z, rReadM y l = .ok z ∧ z.media = if kMedia ∈ l.map (·.1) then d.media else y.media
 | [], _, y => ⟨y, rReadM_nil, by simp⟩
 | x :: l, h, y => by
  obtain ⟨i, hm, hi⟩ := h x List.mem_cons_self
  obtain ⟨z, hz, hzm⟩ := tRun l (fun z hz => h z (List.mem_cons_of_mem _ hz)) (tUp d i y)
  refine ⟨z, by rw [rReadM_cons (hi y), hz], ?_⟩
  rw [hzm, tUp_media, List.map_cons]
  by_cases h1 : kMedia ∈ l.map (·.1)
  ·rw [if_pos h1, if_pos (List.mem_cons_of_mem _ h1)]
  ·rw [if_neg h1]
   by_cases h2 : x.1 = kMedia
   ·rw [if_pos (hm.1 h2), if_pos (by rw [h2]; exact List.mem_cons_self)]
   ·rw [if_neg (fun h => h2 (hm.2 h)), if_neg]
    intro h3
    rcases List.mem_cons.1 h3 with h3 | h3
    ·exact h2 h3.symm
    ·exact h1 h3
theorem mLess {d : MDoc} (hr : mRight d) (hg : MDig d) {x : List UInt8 × JV} {ms : List (List UInt8 × JV)} (hp : (x :: ms).Perm (tMems d)) :
  (tMay x.1 = true → ∃ z, mRead (jO ms) = .ok z) ∧ (tMay x.1 = false → mRead (jO ms) = .error 80) := by
 have hup : ∀ y ∈ ms, TUp d y := fun y hy => tMems_up hr hg y (hp.mem_iff.1 (List.mem_cons_of_mem _ hy))
 obtain ⟨z, hz, hzm⟩ := tRun ms hup .zero
 have hk : (x.1 :: ms.map (·.1)).Perm (tKeys (decide (d.type ≠ [])) (decide (d.media = sImage)) d.has (decide (d.notes ≠ []))) := by
  rw [← tMems_keys]; exact hp.map _
 obtain ⟨K, hK⟩ : ∃ K, K = tKeys (decide (d.type ≠ [])) (decide (d.media = sImage)) d.has (decide (d.notes ≠ [])) := ⟨_, rfl⟩
 have hnd : (x.1 :: ms.map (·.1)).Nodup := hk.nodup_iff.2 (tKeys_nodup _ _ _ _)
 have hx := (List.nodup_cons.1 hnd).1
 have hlb := lessB_eq _ _ _ _ x.1 (hk.mem_iff.1 List.mem_cons_self)
 rw [← hK] at hk hlb
 have hhas : ∀ k, decide (k ∈ ms.map (·.1)) = lessHas K x.1 k := fun k => by
  unfold lessHas
  by_cases h1 : k = x.1
  ·rw [decide_eq_false (by rw [h1]; exact hx)]; simp [h1]
  ·have : k ∈ K ↔ k ∈ ms.map (·.1) := by
    rw [← hk.mem_iff]
    exact ⟨fun h => (List.mem_cons.1 h).resolve_left h1, List.mem_cons_of_mem _⟩
   simp only [this, h1, decide_false, Bool.not_false, Bool.and_true]
 have hw : mWhole z (MGot.more ⟨false, false, false, false, false⟩ (ms.map (·.1))) = lessB (decide (d.media = sImage)) K x.1 := by
  unfold mWhole MGot.more lessB
  simp only [hhas, Bool.false_or]
  by_cases hm : kMedia ∈ ms.map (·.1)
  ·rw [if_pos hm] at hzm
   rw [hzm]
   by_cases hi : d.media = sImage
   ·rw [if_neg (fun h => sImage_ne (hi.symm.trans h)), if_pos (decide_eq_true hi)]
   ·rw [if_pos (hr.1.resolve_left hi), if_neg (by rw [decide_eq_false hi]; decide)]
  ·have h1 := hhas kMedia
   rw [decide_eq_false hm] at h1
   rw [← h1]
   simp
 have he : mRead (jO ms) = if tMay x.1 = true then .ok z else .error 80 := by
  rw [mRead_O, mReadM_eq, hz]
  simp only []
  rw [hw, hlb]
 exact ⟨fun h => ⟨z, by rw [he, if_pos h]⟩, fun h => by rw [he, if_neg (by rw [h]; decide)]⟩
theorem mLacks {d : MDoc} (hr : mRight d) (hg : MDig d) {x : List UInt8 × JV} {ms : List (List UInt8 × JV)} (hp : (x :: ms).Perm (tMems d)) {l : List UInt8} (h : jWrite (jO ms) = (l, 0)) :
  mCode (mParse l) = if tMay x.1 = true then 0 else 80 := by
 have hb : jBare (jO ms) = jO ms := jBare_O fun y hy => mems_bare y (hp.mem_iff.1 (List.mem_cons_of_mem _ hy))
 have hm : mParse l = mRead (jO ms) := by unfold mParse; rw [jParse_bare hb h]
 have h2 := mLess hr hg hp
 rw [hm]
 cases ht : tMay x.1 with
 | true => obtain ⟨z, hz⟩ := h2.1 ht; rw [hz]; rfl
 | false => rw [h2.2 ht]; rfl
def tNames : List (List UInt8) := [kVersion, kMedia, kType, kConfig, kLayers, kManifests, kSubject, kNotes]
theorem mMore {d : MDoc} {key : List UInt8} (hk : key ∉ tNames) {l : List UInt8} (h : jWrite (jO ((key, .null) :: tMems d)) = (l, 0)) : mCode (mParse l) = 80 := by
 have hb : jBare (jO ((key, .null) :: tMems d)) = jO ((key, .null) :: tMems d) := jBare_O fun y hy => by
  rcases List.mem_cons.1 hy with rfl | hy
  ·rw [JV.null, jBare]; rfl
  ·exact mems_bare y hy
 simp only [tNames, List.mem_cons, List.not_mem_nil, or_false, not_or] at hk
 obtain ⟨h1, h2, h3, h4, h5, h6, h7, h8⟩ := hk
 have hm : mParse l = mRead (jO ((key, .null) :: tMems d)) := by unfold mParse; rw [jParse_bare hb h]
 have hs : ∀ y g, mStep y g key .null = .error 80 := fun y g => by
  unfold mStep
  rw [if_neg h1, if_neg h2, if_neg h3, if_neg h4, if_neg h5, if_neg h6, if_neg h7, if_neg h8]
 rw [hm, mRead_O]
 unfold mReadM
 rw [List.map_cons, List.map_cons, mReadL, hs]
 rfl
end Go.Proofs.YtlhicfpmlncomaaGreatDoor
