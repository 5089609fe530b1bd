/-
  Layer 14: the walk of the law on records that are apart.
-/
import Derived.Test.YtpdbjhgphgcjoaaDoorJ20
import Derived.Test.YtpdbjhgphgcjoaaDoorJ22
import Derived.Test.YtpdbjhgphgcjoaaDoorJ24
namespace Go.Proofs.YtpdbjhgphgcjoaaDoor
open Go.RowKit
set_option linter.unusedSimpArgs false

set_option maxRecDepth 20000 in
set_option maxHeartbeats 6400000 in
theorem recordApart_any (a b : Rec) (w : World) (hM : MaxW w) (hda : a.d.length = 32) (hdb : b.d.length = 32) (hsa : a.repo.size ≤ 4000000000) (hta : a.tag.size ≤ 4000000000) (hsb : b.repo.size ≤ 4000000000) (htb : b.tag.size ≤ 4000000000) :
    Calls Tryd.prog 5 #[.agg a.cells.toArray, .agg b.cells.toArray] w fun e w' => e = .returned (.bool true) ∧ Below w.heap.size w w' := by
  have hF0 := Fr.nil w
  have hz0 := box hd0_len
  have hy0 := box rc0_len
  have hCa := box (a.len hda)
  have hCb := box (b.len hdb)
  have hta1 := box (fun w => to_any a w hda)
  have htb1 := box (fun w => to_any b w hdb)
  have hea := box (fun w hM => enc_any a w hM hda hsa hta)
  have heb := box (fun w hM => enc_any b w hM hdb hsb htb)
  have hfr := box (fun w => from_any a w hda)
  have hq1 := box (rec_eq (P := Tryd.prog) (t := 24) (u8 := 5) (x := a) (y := b) ⟨Tryd.underlying24, by kernel_rfl, by kernel_rfl, by kernel_rfl, by kernel_rfl, by kernel_rfl, by kernel_rfl, by kernel_rfl, by kernel_rfl, by kernel_rfl⟩ hda hdb)
  have hq2 := box (rec_eq (P := Tryd.prog) (t := 24) (u8 := 5) (x := a) (y := a) ⟨Tryd.underlying24, by kernel_rfl, by kernel_rfl, by kernel_rfl, by kernel_rfl, by kernel_rfl, by kernel_rfl, by kernel_rfl, by kernel_rfl, by kernel_rfl⟩ hda hda)
  rw [sameRc_self] at hq2
  have hla := recE_len hda
  have hlb := recE_len hdb
  have hsame : Box (recOk a = true → recOk b = true → ((recB a == recB b) = sameRc a b) ∧ hdD (recB a) = (Hd.zero, 10) ∧ recD (recB a) = (a, 0)) := box (fun h1 h2 => by
    refine ⟨?_, hdD_rec h1, recD_back hda h1⟩
    rw [Bool.eq_iff_iff, beq_iff_eq, sameRc_iff]
    exact ⟨fun h => recB_inj hda hdb h1 h2 h, fun h => h ▸ rfl⟩)
  have hCz := box (Hd.len Hd.zero zeros_32)
  cases ha : recOk a with
  | false =>
    simp only [ha, Bool.false_eq_true, if_false] at hea
    generalize (if recOk b = true then recB b else []) = l2 at *
    generalize (if recOk b = true then (0 : Int) else 1) = er at *
    clear hla hsame
    go_enter Tryd.func5, Tryd.ntmps5
    go_wp2_with (first | ((with_reducible refine lst (by with_unfolding_all rfl) (wp_fbox hF0 (cs := a.cells) rfl (by with_unfolding_all rfl) (by with_unfolding_all rfl) ?_)); intro w1 g1 hF1 hz1) | ((with_reducible refine lst (by with_unfolding_all rfl) (wp_fbox hF1 (cs := b.cells) rfl (by with_unfolding_all rfl) (by with_unfolding_all rfl) ?_)); intro w2 g2 hF2 hz2) | (with_reducible refine lst (by with_unfolding_all rfl) (wp_fldA1 hF2 Tryd.underlying24 rfl (by with_unfolding_all exact ⟨_, rfl, rfl⟩) (ds := a.cells) (by rw [hCa.out]; kernel_rfl) (take_all _) ?_)))
    refine (hta1.out _).mono ?_
    rintro e w3 ⟨rfl, hb3⟩
    have hF3 := hF2.call hb3
    go_wp2_with fail
    refine (hea.out _ (hF3.maxW hM)).mono ?_
    rintro e w4 ⟨v4, rfl, ho4, hb4⟩
    obtain ⟨A4, c4, rfl, hn4, _⟩ := ho4.arg
    have hF4 := hF3.gotB hb4 ho4
    go_wp2_with (first | (with_reducible refine lst (by with_unfolding_all rfl) (wp_fldA1 hF4 Tryd.underlying24 rfl (by with_unfolding_all exact ⟨_, rfl, rfl⟩) (ds := b.cells) (by rw [hCb.out]; kernel_rfl) (take_all _) ?_)))
    refine (htb1.out _).mono ?_
    rintro e w5 ⟨rfl, hb5⟩
    have hF5 := hF4.call hb5
    go_wp2_with fail
    refine (heb.out _ (hF5.maxW hM)).mono ?_
    rintro e w6 ⟨v6, rfl, ho6, hb6⟩
    obtain ⟨A6, c6, rfl, hn6, _⟩ := ho6.arg
    have hF6 := hF5.gotB hb6 ho6
    go_wp2_with fail
    refine (awake_any _ (hF6.maxW hM)).mono ?_
    rintro e w7 ⟨rfl, hb7⟩
    have hF7 := hF6.call hb7
    go_wp2_with fail
    refine (awake_any _ (hF7.maxW hM)).mono ?_
    rintro e w8 ⟨rfl, hb8⟩
    have hF8 := hF7.call hb8
    go_wp2_with fail
    go_ret
    exact ⟨rfl, hF8.below⟩
  | true =>
    simp only [ha, if_true] at hea
    cases hb : recOk b with
    | false =>
      simp only [hb, Bool.false_eq_true, if_false] at heb
      clear hla hlb hsame
      go_enter Tryd.func5, Tryd.ntmps5
      go_wp2_with (first | ((with_reducible refine lst (by with_unfolding_all rfl) (wp_fbox hF0 (cs := a.cells) rfl (by with_unfolding_all rfl) (by with_unfolding_all rfl) ?_)); intro w1 g1 hF1 hz1) | ((with_reducible refine lst (by with_unfolding_all rfl) (wp_fbox hF1 (cs := b.cells) rfl (by with_unfolding_all rfl) (by with_unfolding_all rfl) ?_)); intro w2 g2 hF2 hz2) | (with_reducible refine lst (by with_unfolding_all rfl) (wp_fldA1 hF2 Tryd.underlying24 rfl (by with_unfolding_all exact ⟨_, rfl, rfl⟩) (ds := a.cells) (by rw [hCa.out]; kernel_rfl) (take_all _) ?_)))
      refine (hta1.out _).mono ?_
      rintro e w3 ⟨rfl, hb3⟩
      have hF3 := hF2.call hb3
      go_wp2_with fail
      refine (hea.out _ (hF3.maxW hM)).mono ?_
      rintro e w4 ⟨v4, rfl, ho4, hb4⟩
      obtain ⟨A4, c4, rfl, hn4, _⟩ := ho4.arg
      have hF4 := hF3.gotB hb4 ho4
      go_wp2_with (first | (with_reducible refine lst (by with_unfolding_all rfl) (wp_fldA1 hF4 Tryd.underlying24 rfl (by with_unfolding_all exact ⟨_, rfl, rfl⟩) (ds := b.cells) (by rw [hCb.out]; kernel_rfl) (take_all _) ?_)))
      refine (htb1.out _).mono ?_
      rintro e w5 ⟨rfl, hb5⟩
      have hF5 := hF4.call hb5
      go_wp2_with fail
      refine (heb.out _ (hF5.maxW hM)).mono ?_
      rintro e w6 ⟨v6, rfl, ho6, hb6⟩
      obtain ⟨A6, c6, rfl, hn6, _⟩ := ho6.arg
      have hF6 := hF5.gotB hb6 ho6
      go_wp2_with fail
      refine (awake_any _ (hF6.maxW hM)).mono ?_
      rintro e w7 ⟨rfl, hb7⟩
      have hF7 := hF6.call hb7
      go_wp2_with fail
      refine (awake_any _ (hF7.maxW hM)).mono ?_
      rintro e w8 ⟨rfl, hb8⟩
      have hF8 := hF7.call hb8
      go_wp2_with fail
      go_ret
      exact ⟨rfl, hF8.below⟩
    | true =>
      simp only [hb, if_true] at heb hlb
      simp only [ha, if_true] at hla
      obtain ⟨hs1, hs2, hs3⟩ := hsame.out ha hb
      clear hsame ha hb
      have hd1 := box (fun A c w hnc hr => dech_any A (recB a).length c (recB a) w (by omega) hnc hr)
      rw [hs2] at hd1
      have hd2 := box (fun A c w hM hnc hr => dec_any A (recB a).length c (recB a) w hM (by omega) hnc hr)
      rw [hs3] at hd2
      have hsm := box (fun A B n m c d w hm hr hr2 => same_any A B n m c d (recB a) (recB b) w hm hr hr2)
      rw [hs1] at hsm
      clear hs1 hs2 hs3
      generalize recB a = l1 at *
      generalize recB b = l2 at *
      generalize sameRc a b = S at *
      go_enter Tryd.func5, Tryd.ntmps5
      go_wp2_with (first | ((with_reducible refine lst (by with_unfolding_all rfl) (wp_fbox hF0 (cs := a.cells) rfl (by with_unfolding_all rfl) (by with_unfolding_all rfl) ?_)); intro w1 g1 hF1 hz1) | ((with_reducible refine lst (by with_unfolding_all rfl) (wp_fbox hF1 (cs := b.cells) rfl (by with_unfolding_all rfl) (by with_unfolding_all rfl) ?_)); intro w2 g2 hF2 hz2) | (with_reducible refine lst (by with_unfolding_all rfl) (wp_fldA1 hF2 Tryd.underlying24 rfl (by with_unfolding_all exact ⟨_, rfl, rfl⟩) (ds := a.cells) (by rw [hCa.out]; kernel_rfl) (take_all _) ?_)))
      refine (hta1.out _).mono ?_
      rintro e w3 ⟨rfl, hb3⟩
      have hF3 := hF2.call hb3
      go_wp2_with fail
      refine (hea.out _ (hF3.maxW hM)).mono ?_
      rintro e w4 ⟨v4, rfl, ho4, hb4⟩
      obtain ⟨A4, c4, rfl, hn4, _⟩ := ho4.arg
      have hF4 := hF3.gotB hb4 ho4
      go_wp2_with (first | (with_reducible refine lst (by with_unfolding_all rfl) (wp_fldA1 hF4 Tryd.underlying24 rfl (by with_unfolding_all exact ⟨_, rfl, rfl⟩) (ds := b.cells) (by rw [hCb.out]; kernel_rfl) (take_all _) ?_)))
      refine (htb1.out _).mono ?_
      rintro e w5 ⟨rfl, hb5⟩
      have hF5 := hF4.call hb5
      go_wp2_with fail
      refine (heb.out _ (hF5.maxW hM)).mono ?_
      rintro e w6 ⟨v6, rfl, ho6, hb6⟩
      obtain ⟨A6, c6, rfl, hn6, _⟩ := ho6.arg
      have hF6 := hF5.gotB hb6 ho6
      go_wp2_with fail
      refine (awake_any _ (hF6.maxW hM)).mono ?_
      rintro e w7 ⟨rfl, hb7⟩
      have hF7 := hF6.call hb7
      go_wp2_with fail
      refine (hd1.out _ _ _ hn4 (hF7.rdOwn (i := 1) rfl)).mono ?_
      rintro e w8 ⟨rfl, hb8⟩
      have hF8 := hF7.call hb8
      clear hF0 hF1 hF2 hF3 hF4 hF5 hF6 hF7
      go_wp2_with (first | ((with_reducible refine lst (by with_unfolding_all rfl) (wp_falloc hF8 (cs := hd0) (z := .agg (List.toArray (hd0))) rfl (by kernel_rfl) (by with_unfolding_all rfl) ?_)); intro w9 g9 hF9 hz9) | ((with_reducible refine lst (by with_unfolding_all rfl) (wp_fstA0 hF9 (by with_unfolding_all exact ⟨_, _, rfl, rfl, rfl⟩) (by rw [hCz.out]; kernel_rfl) (Hd.one _) (by rw [hCz.out, hz0.out]; omega) (spl_all (by rw [hCz.out, hz0.out])) ?_)); intro w10 hF10 hz10))
      refine (hd2.out _ _ _ (hF10.maxW hM) hn4 (hF10.rdOwn (i := 2) rfl)).mono ?_
      rintro e w11 ⟨rfl, hb11⟩
      have hF11 := hF10.call hb11
      go_wp2_with (first | ((with_reducible refine lst (by with_unfolding_all rfl) (wp_falloc hF11 (cs := rc0) (z := .agg (List.toArray (rc0))) rfl (by kernel_rfl) (by with_unfolding_all rfl) ?_)); intro w12 g12 hF12 hz12) | ((with_reducible refine lst (by with_unfolding_all rfl) (wp_fstA0 hF12 (by with_unfolding_all exact ⟨_, _, rfl, rfl, rfl⟩) (by rw [hCa.out]; kernel_rfl) (Rec.one _) (by rw [hCa.out, hy0.out]; omega) (spl_all (by rw [hCa.out, hy0.out])) ?_)); intro w13 hF13 hz13) | fail)
      have hFd := hF13.drew
      clear hF8 hF9 hF10 hF11 hF12 hF13
      refine wp_region_held (S := fun w' => w'.heap[g12]? = some (.cells (List.toArray a.cells) 31 (0, 0)) ∧ w'.heap[g2]? = some (.cells (List.toArray b.cells) 24 (0, 0)) ∧ w'.heap[g1]? = some (.cells (List.toArray a.cells) 24 (0, 0))) (by kernel_rfl) ?_
      change wpAnyH _ _ _ _ _ _ _ _ (World.drew _)
      refine wpAnyH_take (i := 0) (v := ?_) (by simp only [List.getElem?_toArray, List.getElem?_cons_zero]; rfl) (by kernel_rfl) (by kernel_rfl) (by kernel_rfl) (by exact fun _ _ _ h => h) (Or.inl ⟨by with_unfolding_all rfl, ?_⟩) ⟨hFd.blk (i := 0) rfl, hFd.blk (i := 4) rfl, hFd.blk (i := 5) rfl⟩ ?_
      rotate_left
      · (intro w hSw; (try dsimp only at hSw); go_simp; try with_reducible rfl)
      (try simp only [Act.put, List.setIfInBounds_toArray, List.set_cons_zero, List.set_cons_succ])
      refine wpAnyH_take (i := 1) (v := ?_) (by simp only [List.getElem?_toArray, List.getElem?_cons_zero, List.getElem?_cons_succ]; rfl) (by kernel_rfl) (by kernel_rfl) (by kernel_rfl) (by exact fun _ _ _ h => h) (Or.inl ⟨by with_unfolding_all rfl, ?_⟩) ⟨hFd.blk (i := 0) rfl, hFd.blk (i := 4) rfl, hFd.blk (i := 5) rfl⟩ ?_
      rotate_left
      · (intro w hSw; (try dsimp only at hSw); go_simp; try with_reducible rfl)
      (try simp only [Act.put, List.setIfInBounds_toArray, List.set_cons_zero, List.set_cons_succ])
      refine wpAnyH_take (i := 3) (by simp only [List.getElem?_toArray, List.getElem?_cons_zero, List.getElem?_cons_succ]; rfl) (by kernel_rfl) (by kernel_rfl) (by kernel_rfl) (by exact fun _ _ _ h => h) (yi_fldA (by with_unfolding_all rfl) (fun _ h => h.2.2) Tryd.underlying24 rfl (by with_unfolding_all exact ⟨_, rfl, rfl⟩) (ds := a.cells) (by rw [hCa.out]; kernel_rfl) (take_all _)) ⟨hFd.blk (i := 0) rfl, hFd.blk (i := 4) rfl, hFd.blk (i := 5) rfl⟩ ?_
      (try simp only [Act.put, List.setIfInBounds_toArray, List.set_cons_zero, List.set_cons_succ])
      refine wpAnyH_take (i := 4) (by simp only [List.getElem?_toArray, List.getElem?_cons_zero, List.getElem?_cons_succ]; rfl) (by kernel_rfl) (by kernel_rfl) (by kernel_rfl) (by exact fun _ _ _ h => h) (yi_fldA (by with_unfolding_all rfl) (fun _ h => h.2.1) Tryd.underlying24 rfl (by with_unfolding_all exact ⟨_, rfl, rfl⟩) (ds := b.cells) (by rw [hCb.out]; kernel_rfl) (take_all _)) ⟨hFd.blk (i := 0) rfl, hFd.blk (i := 4) rfl, hFd.blk (i := 5) rfl⟩ ?_
      (try simp only [Act.put, List.setIfInBounds_toArray, List.set_cons_zero, List.set_cons_succ])
      refine wpAnyH_take (i := 5) (by simp only [List.getElem?_toArray, List.getElem?_cons_zero, List.getElem?_cons_succ]; rfl) (by kernel_rfl) (by kernel_rfl) (by kernel_rfl) (by exact fun _ _ _ h => h) (yi_eqS (by with_unfolding_all rfl) hq1.out (by with_unfolding_all rfl) (by with_unfolding_all rfl) (by with_unfolding_all rfl)) ⟨hFd.blk (i := 0) rfl, hFd.blk (i := 4) rfl, hFd.blk (i := 5) rfl⟩ ?_
      (try simp only [Act.put, List.setIfInBounds_toArray, List.set_cons_zero, List.set_cons_succ])
      refine wpAnyH_ready (rs := [2]) (by kernel_rfl) (by simp) ?_
      refine AllReadyH.cons (by simp only [List.getElem?_toArray, List.getElem?_cons_zero, List.getElem?_cons_succ]; rfl) (fun K hK => ?_) ?_
      · refine stp (by with_unfolding_all rfl) (wp_call Tryd.func13 rfl (by with_unfolding_all rfl) (by with_unfolding_all rfl) (by with_unfolding_all rfl) (hsm.out _ _ _ _ _ _ _ (by omega) (hFd.rdOwn (i := 3) rfl) (hFd.rdOwn (i := 2) rfl)) ?_)
        rintro e w21 ⟨rfl, hb21⟩
        refine ⟨_, rfl, ?_⟩
        have hF21 := hFd.call hb21
        refine hK.out _ _ (⟨hF21.blk (i := 0) rfl, hF21.blk (i := 4) rfl, hF21.blk (i := 5) rfl⟩) (fun _ => ?_)
        clear hK K
        (try simp only [Act.put, List.setIfInBounds_toArray, List.set_cons_zero, List.set_cons_succ])
        refine wpAnyH_take (i := 6) (v := ?_) (by simp only [List.getElem?_toArray, List.getElem?_cons_zero, List.getElem?_cons_succ]; rfl) (by kernel_rfl) (by kernel_rfl) (by kernel_rfl) (by exact fun _ _ _ h => h) (Or.inl ⟨by with_unfolding_all rfl, ?_⟩) ⟨hF21.blk (i := 0) rfl, hF21.blk (i := 4) rfl, hF21.blk (i := 5) rfl⟩ ?_
        rotate_left
        · (intro w hSw; (try dsimp only at hSw); go_simp; try with_reducible rfl)
        (try simp only [Act.put, List.setIfInBounds_toArray, List.set_cons_zero, List.set_cons_succ])
        refine wpAnyH_take (i := 7) (v := ?_) (by simp only [List.getElem?_toArray, List.getElem?_cons_zero, List.getElem?_cons_succ]; rfl) (by kernel_rfl) (by kernel_rfl) (by kernel_rfl) (by exact fun _ _ _ h => h) (Or.inl ⟨by with_unfolding_all rfl, ?_⟩) ⟨hF21.blk (i := 0) rfl, hF21.blk (i := 4) rfl, hF21.blk (i := 5) rfl⟩ ?_
        rotate_left
        · (intro w hSw; (try dsimp only at hSw); go_simp; try with_reducible rfl)
        (try simp only [Act.put, List.setIfInBounds_toArray, List.set_cons_zero, List.set_cons_succ])
        refine wpAnyH_take (i := 8) (v := ?_) (by simp only [List.getElem?_toArray, List.getElem?_cons_zero, List.getElem?_cons_succ]; rfl) (by kernel_rfl) (by kernel_rfl) (by kernel_rfl) (by exact fun _ _ _ h => h) (Or.inl ⟨by with_unfolding_all rfl, ?_⟩) ⟨hF21.blk (i := 0) rfl, hF21.blk (i := 4) rfl, hF21.blk (i := 5) rfl⟩ ?_
        rotate_left
        · (intro w hSw; (try dsimp only at hSw); go_simp; try with_reducible rfl)
        (try simp only [Act.put, List.setIfInBounds_toArray, List.set_cons_zero, List.set_cons_succ])
        refine wpAnyH_take (i := 9) (v := ?_) (by simp only [List.getElem?_toArray, List.getElem?_cons_zero, List.getElem?_cons_succ]; rfl) (by kernel_rfl) (by kernel_rfl) (by kernel_rfl) (by exact fun _ _ _ h => h) (Or.inl ⟨by with_unfolding_all rfl, ?_⟩) ⟨hF21.blk (i := 0) rfl, hF21.blk (i := 4) rfl, hF21.blk (i := 5) rfl⟩ ?_
        rotate_left
        · (intro w hSw; (try dsimp only at hSw); go_simp; try with_reducible rfl)
        (try simp only [Act.put, List.setIfInBounds_toArray, List.set_cons_zero, List.set_cons_succ])
        refine wpAnyH_take (i := 10) (v := ?_) (by simp only [List.getElem?_toArray, List.getElem?_cons_zero, List.getElem?_cons_succ]; rfl) (by kernel_rfl) (by kernel_rfl) (by kernel_rfl) (by exact fun _ _ _ h => h) (Or.inl ⟨by with_unfolding_all rfl, ?_⟩) ⟨hF21.blk (i := 0) rfl, hF21.blk (i := 4) rfl, hF21.blk (i := 5) rfl⟩ ?_
        rotate_left
        · (intro w hSw; (try dsimp only at hSw); go_simp; try with_reducible rfl)
        (try simp only [Act.put, List.setIfInBounds_toArray, List.set_cons_zero, List.set_cons_succ])
        refine wpAnyH_take (i := 11) (v := ?_) (by simp only [List.getElem?_toArray, List.getElem?_cons_zero, List.getElem?_cons_succ]; rfl) (by kernel_rfl) (by kernel_rfl) (by kernel_rfl) (by exact fun _ _ _ h => h) (Or.inl ⟨by with_unfolding_all rfl, ?_⟩) ⟨hF21.blk (i := 0) rfl, hF21.blk (i := 4) rfl, hF21.blk (i := 5) rfl⟩ ?_
        rotate_left
        · (intro w hSw; (try dsimp only at hSw); go_simp; try with_reducible rfl)
        (try simp only [Act.put, List.setIfInBounds_toArray, List.set_cons_zero, List.set_cons_succ])
        refine wpAnyH_take (i := 12) (v := ?_) (by simp only [List.getElem?_toArray, List.getElem?_cons_zero, List.getElem?_cons_succ]; rfl) (by kernel_rfl) (by kernel_rfl) (by kernel_rfl) (by exact fun _ _ _ h => h) (Or.inl ⟨by with_unfolding_all rfl, ?_⟩) ⟨hF21.blk (i := 0) rfl, hF21.blk (i := 4) rfl, hF21.blk (i := 5) rfl⟩ ?_
        rotate_left
        · (intro w hSw; (try dsimp only at hSw); go_simp; try with_reducible rfl)
        (try simp only [Act.put, List.setIfInBounds_toArray, List.set_cons_zero, List.set_cons_succ])
        refine wpAnyH_take (i := 13) (v := ?_) (by simp only [List.getElem?_toArray, List.getElem?_cons_zero, List.getElem?_cons_succ]; rfl) (by kernel_rfl) (by kernel_rfl) (by kernel_rfl) (by exact fun _ _ _ h => h) (Or.inl ⟨by with_unfolding_all rfl, ?_⟩) ⟨hF21.blk (i := 0) rfl, hF21.blk (i := 4) rfl, hF21.blk (i := 5) rfl⟩ ?_
        rotate_left
        · (intro w hSw; (try dsimp only at hSw); go_simp; try with_reducible rfl)
        (try simp only [Act.put, List.setIfInBounds_toArray, List.set_cons_zero, List.set_cons_succ])
        refine wpAnyH_take (i := 14) (v := ?_) (by simp only [List.getElem?_toArray, List.getElem?_cons_zero, List.getElem?_cons_succ]; rfl) (by kernel_rfl) (by kernel_rfl) (by kernel_rfl) (by exact fun _ _ _ h => h) (Or.inl ⟨by with_unfolding_all rfl, ?_⟩) ⟨hF21.blk (i := 0) rfl, hF21.blk (i := 4) rfl, hF21.blk (i := 5) rfl⟩ ?_
        rotate_left
        · (intro w hSw; (try dsimp only at hSw); go_simp; try with_reducible rfl)
        (try simp only [Act.put, List.setIfInBounds_toArray, List.set_cons_zero, List.set_cons_succ])
        refine wpAnyH_take (i := 15) (v := ?_) (by simp only [List.getElem?_toArray, List.getElem?_cons_zero, List.getElem?_cons_succ]; rfl) (by kernel_rfl) (by kernel_rfl) (by kernel_rfl) (by exact fun _ _ _ h => h) (Or.inl ⟨by with_unfolding_all rfl, ?_⟩) ⟨hF21.blk (i := 0) rfl, hF21.blk (i := 4) rfl, hF21.blk (i := 5) rfl⟩ ?_
        rotate_left
        · (intro w hSw; (try dsimp only at hSw); go_simp; try with_reducible rfl)
        (try simp only [Act.put, List.setIfInBounds_toArray, List.set_cons_zero, List.set_cons_succ])
        refine wpAnyH_take (i := 16) (by simp only [List.getElem?_toArray, List.getElem?_cons_zero, List.getElem?_cons_succ]; rfl) (by kernel_rfl) (by kernel_rfl) (by kernel_rfl) (by exact fun _ _ _ h => h) (yi_fldA (by with_unfolding_all rfl) (fun _ h => h.1) Tryd.underlying31 rfl (by with_unfolding_all exact ⟨_, rfl, rfl⟩) (ds := a.cells) (by rw [hCa.out]; kernel_rfl) (take_all _)) ⟨hF21.blk (i := 0) rfl, hF21.blk (i := 4) rfl, hF21.blk (i := 5) rfl⟩ ?_
        (try simp only [Act.put, List.setIfInBounds_toArray, List.set_cons_zero, List.set_cons_succ])
        refine wpAnyH_take (i := 18) (by simp only [List.getElem?_toArray, List.getElem?_cons_zero, List.getElem?_cons_succ]; rfl) (by kernel_rfl) (by kernel_rfl) (by kernel_rfl) (by exact fun _ _ _ h => h) (yi_fldA (by with_unfolding_all rfl) (fun _ h => h.2.2) Tryd.underlying24 rfl (by with_unfolding_all exact ⟨_, rfl, rfl⟩) (ds := a.cells) (by rw [hCa.out]; kernel_rfl) (take_all _)) ⟨hF21.blk (i := 0) rfl, hF21.blk (i := 4) rfl, hF21.blk (i := 5) rfl⟩ ?_
        (try simp only [Act.put, List.setIfInBounds_toArray, List.set_cons_zero, List.set_cons_succ])
        refine wpAnyH_ready (rs := [17]) (by kernel_rfl) (by simp) ?_
        refine AllReadyH.cons (by simp only [List.getElem?_toArray, List.getElem?_cons_zero, List.getElem?_cons_succ]; rfl) (fun K hK => ?_) ?_
        · refine stp (by with_unfolding_all rfl) (wp_call Tryd.func16 rfl (by with_unfolding_all rfl) (by with_unfolding_all rfl) (by with_unfolding_all rfl) (hfr.out _) ?_)
          rintro e w22 ⟨rfl, hb22⟩
          refine ⟨_, rfl, ?_⟩
          have hF22 := hF21.call hb22
          refine hK.out _ _ (⟨hF22.blk (i := 0) rfl, hF22.blk (i := 4) rfl, hF22.blk (i := 5) rfl⟩) (fun _ => ?_)
          clear hK K
          (try simp only [Act.put, List.setIfInBounds_toArray, List.set_cons_zero, List.set_cons_succ])
          refine wpAnyH_take (i := 19) (by simp only [List.getElem?_toArray, List.getElem?_cons_zero, List.getElem?_cons_succ]; rfl) (by kernel_rfl) (by kernel_rfl) (by kernel_rfl) (by exact fun _ _ _ h => h) (yi_eqS (by with_unfolding_all rfl) hq2.out (by with_unfolding_all rfl) (by with_unfolding_all rfl) (by with_unfolding_all rfl)) ⟨hF22.blk (i := 0) rfl, hF22.blk (i := 4) rfl, hF22.blk (i := 5) rfl⟩ ?_
          (try simp only [Act.put, List.setIfInBounds_toArray, List.set_cons_zero, List.set_cons_succ])
          refine wpAnyH_take (i := 20) (v := ?_) (by simp only [List.getElem?_toArray, List.getElem?_cons_zero, List.getElem?_cons_succ]; rfl) (by kernel_rfl) (by kernel_rfl) (by kernel_rfl) (by exact fun _ _ _ h => h) (Or.inl ⟨by with_unfolding_all rfl, ?_⟩) ⟨hF22.blk (i := 0) rfl, hF22.blk (i := 4) rfl, hF22.blk (i := 5) rfl⟩ ?_
          rotate_left
          · (intro w hSw; (try dsimp only at hSw); go_simp; try with_reducible rfl)
          (try simp only [Act.put, List.setIfInBounds_toArray, List.set_cons_zero, List.set_cons_succ])
          refine wpAnyH_take (i := 21) (v := ?_) (by simp only [List.getElem?_toArray, List.getElem?_cons_zero, List.getElem?_cons_succ]; rfl) (by kernel_rfl) (by kernel_rfl) (by kernel_rfl) (by exact fun _ _ _ h => h) (Or.inl ⟨by with_unfolding_all rfl, ?_⟩) ⟨hF22.blk (i := 0) rfl, hF22.blk (i := 4) rfl, hF22.blk (i := 5) rfl⟩ ?_
          rotate_left
          · (intro w hSw; (try dsimp only at hSw); go_simp; try with_reducible rfl)
          (try simp only [Act.put, List.setIfInBounds_toArray, List.set_cons_zero])
          refine wpAnyH_done (by kernel_rfl) ?_ _
          go_wp2_with fail
          go_ret
          exact ⟨rfl, hF22.below⟩
        exact AllReadyH.nil
      exact AllReadyH.nil
end Go.Proofs.YtpdbjhgphgcjoaaDoor
