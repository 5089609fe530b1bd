/-
  Layer 14: the walk of the law on what bytes are read as.
-/
import Derived.Test.YtpdbjhgphgcjoaaDoorJ20
import Derived.Test.YtpdbjhgphgcjoaaDoorJ22
namespace Go.Proofs.YtpdbjhgphgcjoaaDoor
open Go.RowKit
set_option linter.unusedSimpArgs false

theorem recD_len (l : List UInt8) : (recD l).1.d.length = 32 := by
  rcases recD_out l with ⟨_, _, _, h⟩ | h
  · exact h
  · rw [h]; exact zeros_32
theorem recD_small (l : List UInt8) : (recD l).1.repo.size ≤ 4000000000 ∧ (recD l).1.tag.size ≤ 4000000000 := by
  rcases recD_out l with ⟨_, h, _⟩ | h
  · obtain ⟨_, h1, h2, _⟩ := recOk_iff h
    have := repo_size h1
    have := tag_size h2
    omega
  · rw [h]; exact ⟨by decide, by decide⟩

set_option maxRecDepth 20000 in
set_option maxHeartbeats 3200000 in
theorem recordReads_any (A : Option Addr) (n c : Nat) (l : List UInt8) (w : World) (hM : MaxW w) (hm : n ≤ 140737488355000) (hnc : n ≤ c) (hr : Rd w (· < w.heap.size) A 1 n (l.map bv)) :
    Calls Tryd.prog 4 #[.slice A n c] w fun e w' => e = .returned (.bool true) ∧ Below w.heap.size w w' := by
  have hF0 := Fr.nil w
  have hl := box hr.bytes_len
  have hz0 := box rc0_len
  have h1 := box (fun w hM hr => dec_any A n c l w hM hm hnc hr)
  have h2 := box (fun w hr => decF_any A n c l w hm hnc hr)
  rw [recX_eq] at h2
  have hd := recD_len l
  obtain ⟨hs, ht⟩ := recD_small l
  have h3 := box (fun w hM => enc_any (recD l).1 w hM hd hs ht)
  have h4 := box (fun w => from_any (recD l).1 w hd)
  have hC := box (Rec.len (recD l).1 hd)
  have hE := box (rec_eq (P := Tryd.prog) (t := 24) (u8 := 5) ⟨Tryd.underlying24, by kernel_rfl, by kernel_rfl, by kernel_rfl, by kernel_rfl, by kernel_rfl, by kernel_rfl, by kernel_rfl, by kernel_rfl, by kernel_rfl⟩ hd hd)
  rw [sameRc_self] at hE
  have hout := recD_out l
  have hlen := recE_len hd
  have hcase : (recD l).2 = 0 ∧ (if recOk (recD l).1 = true then recB (recD l).1 else []) = l ∧ (if recOk (recD l).1 = true then (0 : Int) else 1) = 0 ∨ (recD l).2 = 10 := by
    rcases hout with ⟨a, b, d, _⟩ | h
    · exact .inl ⟨a, by rw [if_pos b]; exact d, by rw [if_pos b]⟩
    · exact .inr (by rw [h]; rfl)
  generalize (if recOk (recD l).1 = true then recB (recD l).1 else []) = k at *
  generalize (if recOk (recD l).1 = true then (0 : Int) else 1) = er at *
  clear hout hs ht hd
  generalize recD l = D at *
  obtain ⟨r, ed⟩ := D
  simp only [] at h1 h2 h3 h4 hC hE hcase
  go_enter Tryd.func4, Tryd.ntmps4
  go_wp2_with fail
  refine (h1.out _ hM hr).mono ?_
  rintro e w1 ⟨rfl, hb1⟩
  have hF1 := hF0.call hb1
  go_wp2_with (first | ((with_reducible refine lst (by with_unfolding_all rfl) (wp_falloc hF1 (cs := rc0) (z := .agg (List.toArray (rc0))) rfl (by kernel_rfl) (by with_unfolding_all rfl) ?_)); intro w2 g2 hF2 hz2) | ((with_reducible refine lst (by with_unfolding_all rfl) (wp_fstA0 hF2 (by with_unfolding_all exact ⟨_, _, rfl, rfl, rfl⟩) (by rw [hC.out]; kernel_rfl) (Rec.one _) (by rw [hC.out, hz0.out]; omega) (spl_all (by rw [hC.out, hz0.out])) ?_)); intro w3 hF3 hz3))
  refine (h2.out _ (hF3.rdOld hr)).mono ?_
  rintro e w4 ⟨rfl, hb4⟩
  have hF4 := hF3.call hb4
  go_wp2_with (first | ((with_reducible refine lst (by with_unfolding_all rfl) (wp_falloc hF4 (cs := rc0) (z := .agg (List.toArray (rc0))) rfl (by kernel_rfl) (by with_unfolding_all rfl) ?_)); intro w5 g5 hF5 hz5) | ((with_reducible refine lst (by with_unfolding_all rfl) (wp_fstA0 hF5 (by with_unfolding_all exact ⟨_, _, rfl, rfl, rfl⟩) (by rw [hC.out]; kernel_rfl) (Rec.one _) (by rw [hC.out, hz0.out]; omega) (spl_all (by rw [hC.out, hz0.out])) ?_)); intro w6 hF6 hz6) | (with_reducible refine lst (by with_unfolding_all rfl) (wp_fldA1 hF6 Tryd.underlying31 rfl (by with_unfolding_all exact ⟨_, rfl, rfl⟩) (ds := r.cells) (by rw [hC.out]; kernel_rfl) (take_all _) ?_)))
  refine (h3.out _ (hF6.maxW hM)).mono ?_
  rintro e w7 ⟨v7, rfl, ho7, hb7⟩
  obtain ⟨A7, c7, rfl, hn7, _⟩ := ho7.arg
  have hF7 := hF6.gotB hb7 ho7
  clear hF0 hF1 hF2 hF3 hF4 hF5 hF6 ho7 hb7 h1 h2 h3
  go_upto_region 4 with (fail)
  have hFd := hF7.drew
  rcases hcase with ⟨rfl, rfl, rfl⟩ | rfl
  · refine wp_region_held (S := fun w' => w'.heap[g2]? = some (.cells (List.toArray r.cells) 31 (0, 0)) ∧ w'.heap[g5]? = some (.cells (List.toArray r.cells) 24 (0, 0))) (by kernel_rfl) ?_
    change wpAnyH _ _ _ _ _ _ _ _ (World.drew _)
    refine wpAnyH_ready (rs := [0]) (by kernel_rfl) (by simp) ?_
    refine AllReadyH.cons (by simp only [List.getElem?_toArray, List.getElem?_cons_zero]; rfl) (fun K hK => ?_) ?_
    · refine stp (by with_unfolding_all rfl) (wp_call Tryd.func10 rfl (by with_unfolding_all rfl) (by with_unfolding_all rfl) (by with_unfolding_all rfl) (awake_any _ (hFd.maxW hM)) ?_)
      rintro e w21 ⟨rfl, hb21⟩
      refine ⟨_, rfl, ?_⟩
      have hF21 := hFd.call hb21
      refine hK.out _ _ (⟨hF21.blk (i := 2) rfl, hF21.blk (i := 1) rfl⟩) (fun _ => ?_)
      clear hK K
      (try simp only [Act.put, List.setIfInBounds_toArray, List.set_cons_zero, List.set_cons_succ])
      refine wpAnyH_take (i := 1) (v := ?_) (by simp only [List.getElem?_toArray, List.getElem?_cons_zero, List.getElem?_cons_succ]; rfl) (by kernel_rfl) (by kernel_rfl) (by kernel_rfl) (by exact fun _ _ _ h => h) (Or.inl ⟨by with_unfolding_all rfl, ?_⟩) ⟨hF21.blk (i := 2) rfl, hF21.blk (i := 1) rfl⟩ ?_
      rotate_left
      · (intro w hSw; (try dsimp only at hSw); go_simp; try with_reducible rfl)
      (try simp only [Act.put, List.setIfInBounds_toArray, List.set_cons_zero, List.set_cons_succ])
      refine wpAnyH_take (i := 2) (v := ?_) (by simp only [List.getElem?_toArray, List.getElem?_cons_zero, List.getElem?_cons_succ]; rfl) (by kernel_rfl) (by kernel_rfl) (by kernel_rfl) (by exact fun _ _ _ h => h) (Or.inl ⟨by with_unfolding_all rfl, ?_⟩) ⟨hF21.blk (i := 2) rfl, hF21.blk (i := 1) rfl⟩ ?_
      rotate_left
      · (intro w hSw; (try dsimp only at hSw); go_simp; try with_reducible rfl)
      (try simp only [Act.put, List.setIfInBounds_toArray, List.set_cons_zero, List.set_cons_succ])
      refine wpAnyH_take (i := 3) (v := ?_) (by simp only [List.getElem?_toArray, List.getElem?_cons_zero, List.getElem?_cons_succ]; rfl) (by kernel_rfl) (by kernel_rfl) (by kernel_rfl) (by exact fun _ _ _ h => h) (Or.inl ⟨by with_unfolding_all rfl, ?_⟩) ⟨hF21.blk (i := 2) rfl, hF21.blk (i := 1) rfl⟩ ?_
      rotate_left
      · (intro w hSw; (try dsimp only at hSw); go_simp; try with_reducible rfl)
      (try simp only [Act.put, List.setIfInBounds_toArray, List.set_cons_zero, List.set_cons_succ])
      refine wpAnyH_take (i := 4) (v := ?_) (by simp only [List.getElem?_toArray, List.getElem?_cons_zero, List.getElem?_cons_succ]; rfl) (by kernel_rfl) (by kernel_rfl) (by kernel_rfl) (by exact fun _ _ _ h => h) (Or.inl ⟨by with_unfolding_all rfl, ?_⟩) ⟨hF21.blk (i := 2) rfl, hF21.blk (i := 1) rfl⟩ ?_
      rotate_left
      · (intro w hSw; (try dsimp only at hSw); go_simp; try with_reducible rfl)
      (try simp only [Act.put, List.setIfInBounds_toArray, List.set_cons_zero, List.set_cons_succ])
      refine wpAnyH_take (i := 5) (v := ?_) (by simp only [List.getElem?_toArray, List.getElem?_cons_zero, List.getElem?_cons_succ]; rfl) (by kernel_rfl) (by kernel_rfl) (by kernel_rfl) (by exact fun _ _ _ h => h) (Or.inl ⟨by with_unfolding_all rfl, ?_⟩) ⟨hF21.blk (i := 2) rfl, hF21.blk (i := 1) rfl⟩ ?_
      rotate_left
      · (intro w hSw; (try dsimp only at hSw); go_simp; try with_reducible rfl)
      (try simp only [Act.put, List.setIfInBounds_toArray, List.set_cons_zero, List.set_cons_succ])
      refine wpAnyH_take (i := 6) (v := ?_) (by simp only [List.getElem?_toArray, List.getElem?_cons_zero, List.getElem?_cons_succ]; rfl) (by kernel_rfl) (by kernel_rfl) (by kernel_rfl) (by exact fun _ _ _ h => h) (Or.inl ⟨by with_unfolding_all rfl, ?_⟩) ⟨hF21.blk (i := 2) rfl, hF21.blk (i := 1) rfl⟩ ?_
      rotate_left
      · (intro w hSw; (try dsimp only at hSw); go_simp; try with_reducible rfl)
      (try simp only [Act.put, List.setIfInBounds_toArray, List.set_cons_zero, List.set_cons_succ])
      refine wpAnyH_take (i := 7) (by simp only [List.getElem?_toArray, List.getElem?_cons_zero, List.getElem?_cons_succ]; rfl) (by kernel_rfl) (by kernel_rfl) (by kernel_rfl) (by exact fun _ _ _ h => h) (yi_fldA (by with_unfolding_all rfl) (fun _ h => h.1) Tryd.underlying31 rfl (by with_unfolding_all exact ⟨_, rfl, rfl⟩) (ds := r.cells) (by rw [hC.out]; kernel_rfl) (take_all _)) ⟨hF21.blk (i := 2) rfl, hF21.blk (i := 1) rfl⟩ ?_
      (try simp only [Act.put, List.setIfInBounds_toArray, List.set_cons_zero, List.set_cons_succ])
      refine wpAnyH_take (i := 9) (by simp only [List.getElem?_toArray, List.getElem?_cons_zero, List.getElem?_cons_succ]; rfl) (by kernel_rfl) (by kernel_rfl) (by kernel_rfl) (by exact fun _ _ _ h => h) (yi_fldA (by with_unfolding_all rfl) (fun _ h => h.2) Tryd.underlying24 rfl (by with_unfolding_all exact ⟨_, rfl, rfl⟩) (ds := r.cells) (by rw [hC.out]; kernel_rfl) (take_all _)) ⟨hF21.blk (i := 2) rfl, hF21.blk (i := 1) rfl⟩ ?_
      (try simp only [Act.put, List.setIfInBounds_toArray, List.set_cons_zero, List.set_cons_succ])
      refine wpAnyH_ready (rs := [8]) (by kernel_rfl) (by simp) ?_
      refine AllReadyH.cons (by simp only [List.getElem?_toArray, List.getElem?_cons_zero, List.getElem?_cons_succ]; rfl) (fun K hK => ?_) ?_
      · refine stp (by with_unfolding_all rfl) (wp_call Tryd.func16 rfl (by with_unfolding_all rfl) (by with_unfolding_all rfl) (by with_unfolding_all rfl) (h4.out _) ?_)
        rintro e w22 ⟨rfl, hb22⟩
        refine ⟨_, rfl, ?_⟩
        have hF22 := hF21.call hb22
        refine hK.out _ _ (⟨hF22.blk (i := 2) rfl, hF22.blk (i := 1) rfl⟩) (fun _ => ?_)
        clear hK K
        (try simp only [Act.put, List.setIfInBounds_toArray, List.set_cons_zero, List.set_cons_succ])
        refine wpAnyH_take (i := 10) (by simp only [List.getElem?_toArray, List.getElem?_cons_zero, List.getElem?_cons_succ]; rfl) (by kernel_rfl) (by kernel_rfl) (by kernel_rfl) (by exact fun _ _ _ h => h) (yi_eqS (by with_unfolding_all rfl) hE.out (by with_unfolding_all rfl) (by with_unfolding_all rfl) (by with_unfolding_all rfl)) ⟨hF22.blk (i := 2) rfl, hF22.blk (i := 1) rfl⟩ ?_
        (try simp only [Act.put, List.setIfInBounds_toArray, List.set_cons_zero, List.set_cons_succ])
        refine wpAnyH_take (i := 11) (v := ?_) (by simp only [List.getElem?_toArray, List.getElem?_cons_zero, List.getElem?_cons_succ]; rfl) (by kernel_rfl) (by kernel_rfl) (by kernel_rfl) (by exact fun _ _ _ h => h) (Or.inl ⟨by with_unfolding_all rfl, ?_⟩) ⟨hF22.blk (i := 2) rfl, hF22.blk (i := 1) rfl⟩ ?_
        rotate_left
        · (intro w hSw; (try dsimp only at hSw); go_simp; try with_reducible rfl)
        (try simp only [Act.put, List.setIfInBounds_toArray, List.set_cons_zero, List.set_cons_succ])
        refine wpAnyH_take (i := 12) (v := ?_) (by simp only [List.getElem?_toArray, List.getElem?_cons_zero, List.getElem?_cons_succ]; rfl) (by kernel_rfl) (by kernel_rfl) (by kernel_rfl) (by exact fun _ _ _ h => h) (Or.inl ⟨by with_unfolding_all rfl, ?_⟩) ⟨hF22.blk (i := 2) rfl, hF22.blk (i := 1) rfl⟩ ?_
        rotate_left
        · (intro w hSw; (try dsimp only at hSw); go_simp; try with_reducible rfl)
        (try simp only [Act.put, List.setIfInBounds_toArray, List.set_cons_zero, List.set_cons_succ])
        refine wpAnyH_take (i := 13) (v := ?_) (by simp only [List.getElem?_toArray, List.getElem?_cons_zero, List.getElem?_cons_succ]; rfl) (by kernel_rfl) (by kernel_rfl) (by kernel_rfl) (by exact fun _ _ _ h => h) (Or.inl ⟨by with_unfolding_all rfl, ?_⟩) ⟨hF22.blk (i := 2) rfl, hF22.blk (i := 1) rfl⟩ ?_
        rotate_left
        · (intro w hSw; (try dsimp only at hSw); go_simp; try with_reducible rfl)
        (try simp only [Act.put, List.setIfInBounds_toArray, List.set_cons_zero, List.set_cons_succ])
        refine wpAnyH_take (i := 14) (v := ?_) (by simp only [List.getElem?_toArray, List.getElem?_cons_zero, List.getElem?_cons_succ]; rfl) (by kernel_rfl) (by kernel_rfl) (by kernel_rfl) (by exact fun _ _ _ h => h) (Or.inl ⟨by with_unfolding_all rfl, ?_⟩) ⟨hF22.blk (i := 2) rfl, hF22.blk (i := 1) rfl⟩ ?_
        rotate_left
        · (intro w hSw; (try dsimp only at hSw); go_simp; try with_reducible rfl)
        (try simp only [Act.put, List.setIfInBounds_toArray, List.set_cons_zero, List.set_cons_succ])
        refine wpAnyH_take (i := 15) (v := ?_) (by simp only [List.getElem?_toArray, List.getElem?_cons_zero, List.getElem?_cons_succ]; rfl) (by kernel_rfl) (by kernel_rfl) (by kernel_rfl) (by exact fun _ _ _ h => h) (Or.inl ⟨by with_unfolding_all rfl, ?_⟩) ⟨hF22.blk (i := 2) rfl, hF22.blk (i := 1) rfl⟩ ?_
        rotate_left
        · (intro w hSw; (try dsimp only at hSw); go_simp; try with_reducible rfl)
        (try simp only [Act.put, List.setIfInBounds_toArray, List.set_cons_zero, List.set_cons_succ])
        refine wpAnyH_take (i := 16) (v := ?_) (by simp only [List.getElem?_toArray, List.getElem?_cons_zero, List.getElem?_cons_succ]; rfl) (by kernel_rfl) (by kernel_rfl) (by kernel_rfl) (by exact fun _ _ _ h => h) (Or.inl ⟨by with_unfolding_all rfl, ?_⟩) ⟨hF22.blk (i := 2) rfl, hF22.blk (i := 1) rfl⟩ ?_
        rotate_left
        · (intro w hSw; (try dsimp only at hSw); go_simp; try with_reducible rfl)
        (try simp only [Act.put, List.setIfInBounds_toArray, List.set_cons_zero, List.set_cons_succ])
        refine wpAnyH_take (i := 17) (v := ?_) (by simp only [List.getElem?_toArray, List.getElem?_cons_zero, List.getElem?_cons_succ]; rfl) (by kernel_rfl) (by kernel_rfl) (by kernel_rfl) (by exact fun _ _ _ h => h) (Or.inl ⟨by with_unfolding_all rfl, ?_⟩) ⟨hF22.blk (i := 2) rfl, hF22.blk (i := 1) rfl⟩ ?_
        rotate_left
        · (intro w hSw; (try dsimp only at hSw); go_simp; try with_reducible rfl)
        (try simp only [Act.put, List.setIfInBounds_toArray, List.set_cons_zero, List.set_cons_succ])
        refine wpAnyH_take (i := 18) (v := ?_) (by simp only [List.getElem?_toArray, List.getElem?_cons_zero, List.getElem?_cons_succ]; rfl) (by kernel_rfl) (by kernel_rfl) (by kernel_rfl) (by exact fun _ _ _ h => h) (Or.inl ⟨by with_unfolding_all rfl, ?_⟩) ⟨hF22.blk (i := 2) rfl, hF22.blk (i := 1) rfl⟩ ?_
        rotate_left
        · (intro w hSw; (try dsimp only at hSw); go_simp; try with_reducible rfl)
        (try simp only [Act.put, List.setIfInBounds_toArray, List.set_cons_zero, List.set_cons_succ])
        refine wpAnyH_take (i := 19) (v := ?_) (by simp only [List.getElem?_toArray, List.getElem?_cons_zero, List.getElem?_cons_succ]; rfl) (by kernel_rfl) (by kernel_rfl) (by kernel_rfl) (by exact fun _ _ _ h => h) (Or.inl ⟨by with_unfolding_all rfl, ?_⟩) ⟨hF22.blk (i := 2) rfl, hF22.blk (i := 1) rfl⟩ ?_
        rotate_left
        · (intro w hSw; (try dsimp only at hSw); go_simp; try with_reducible rfl)
        (try simp only [Act.put, List.setIfInBounds_toArray, List.set_cons_zero, List.set_cons_succ])
        refine wpAnyH_take (i := 20) (v := ?_) (by simp only [List.getElem?_toArray, List.getElem?_cons_zero, List.getElem?_cons_succ]; rfl) (by kernel_rfl) (by kernel_rfl) (by kernel_rfl) (by exact fun _ _ _ h => h) (Or.inl ⟨by with_unfolding_all rfl, ?_⟩) ⟨hF22.blk (i := 2) rfl, hF22.blk (i := 1) rfl⟩ ?_
        rotate_left
        · (intro w hSw; (try dsimp only at hSw); go_simp; try with_reducible rfl)
        (try simp only [Act.put, List.setIfInBounds_toArray, List.set_cons_zero, List.set_cons_succ])
        refine wpAnyH_ready (rs := [21]) (by kernel_rfl) (by simp) ?_
        refine AllReadyH.cons (by simp only [List.getElem?_toArray, List.getElem?_cons_zero, List.getElem?_cons_succ]; rfl) (fun K hK => ?_) ?_
        · refine stp (by with_unfolding_all rfl) (wp_call Tryd.func13 rfl (by with_unfolding_all rfl) (by with_unfolding_all rfl) (by with_unfolding_all rfl) (same_self _ _ _ _ _ _ _ _ (by omega) (hF22.rdOld hr) (hF22.rdOwn (i := 0) rfl)) ?_)
          rintro e w23 ⟨rfl, hb23⟩
          refine ⟨_, rfl, ?_⟩
          have hF23 := hF22.call hb23
          refine hK.out _ _ (⟨hF23.blk (i := 2) rfl, hF23.blk (i := 1) rfl⟩) (fun _ => ?_)
          clear hK K
          (try simp only [Act.put, List.setIfInBounds_toArray, List.set_cons_zero, List.set_cons_succ])
          refine wpAnyH_take (i := 22) (v := ?_) (by simp only [List.getElem?_toArray, List.getElem?_cons_zero, List.getElem?_cons_succ]; rfl) (by kernel_rfl) (by kernel_rfl) (by kernel_rfl) (by exact fun _ _ _ h => h) (Or.inl ⟨by with_unfolding_all rfl, ?_⟩) ⟨hF23.blk (i := 2) rfl, hF23.blk (i := 1) rfl⟩ ?_
          rotate_left
          · (intro w hSw; (try dsimp only at hSw); go_simp; try with_reducible rfl)
          (try simp only [Act.put, List.setIfInBounds_toArray, List.set_cons_zero, List.set_cons_succ])
          refine wpAnyH_take (i := 23) (v := ?_) (by simp only [List.getElem?_toArray, List.getElem?_cons_zero, List.getElem?_cons_succ]; rfl) (by kernel_rfl) (by kernel_rfl) (by kernel_rfl) (by exact fun _ _ _ h => h) (Or.inl ⟨by with_unfolding_all rfl, ?_⟩) ⟨hF23.blk (i := 2) rfl, hF23.blk (i := 1) rfl⟩ ?_
          rotate_left
          · (intro w hSw; (try dsimp only at hSw); go_simp; try with_reducible rfl)
          (try simp only [Act.put, List.setIfInBounds_toArray, List.set_cons_zero, List.set_cons_succ])
          refine wpAnyH_take (i := 24) (v := ?_) (by simp only [List.getElem?_toArray, List.getElem?_cons_zero, List.getElem?_cons_succ]; rfl) (by kernel_rfl) (by kernel_rfl) (by kernel_rfl) (by exact fun _ _ _ h => h) (Or.inl ⟨by with_unfolding_all rfl, ?_⟩) ⟨hF23.blk (i := 2) rfl, hF23.blk (i := 1) rfl⟩ ?_
          rotate_left
          · (intro w hSw; (try dsimp only at hSw); go_simp; try with_reducible rfl)
          (try simp only [Act.put, List.setIfInBounds_toArray, List.set_cons_zero, List.set_cons_succ])
          refine wpAnyH_take (i := 25) (v := ?_) (by simp only [List.getElem?_toArray, List.getElem?_cons_zero, List.getElem?_cons_succ]; rfl) (by kernel_rfl) (by kernel_rfl) (by kernel_rfl) (by exact fun _ _ _ h => h) (Or.inl ⟨by with_unfolding_all rfl, ?_⟩) ⟨hF23.blk (i := 2) rfl, hF23.blk (i := 1) rfl⟩ ?_
          rotate_left
          · (intro w hSw; (try dsimp only at hSw); go_simp; try with_reducible rfl)
          (try simp only [Act.put, List.setIfInBounds_toArray, List.set_cons_zero])
          refine wpAnyH_done (by kernel_rfl) ?_ _
          go_wp2_with fail
          go_ret
          exact ⟨ret1 (by simp), hF23.below⟩
        exact AllReadyH.nil
      exact AllReadyH.nil
    exact AllReadyH.nil
  · refine wp_region_held (S := fun w' => w'.heap[g2]? = some (.cells (List.toArray r.cells) 31 (0, 0)) ∧ w'.heap[g5]? = some (.cells (List.toArray r.cells) 24 (0, 0))) (by kernel_rfl) ?_
    change wpAnyH _ _ _ _ _ _ _ _ (World.drew _)
    refine wpAnyH_ready (rs := [0]) (by kernel_rfl) (by simp) ?_
    refine AllReadyH.cons (by simp only [List.getElem?_toArray, List.getElem?_cons_zero]; rfl) (fun K hK => ?_) ?_
    · refine stp (by with_unfolding_all rfl) (wp_call Tryd.func10 rfl (by with_unfolding_all rfl) (by with_unfolding_all rfl) (by with_unfolding_all rfl) (awake_any _ (hFd.maxW hM)) ?_)
      rintro e w21 ⟨rfl, hb21⟩
      refine ⟨_, rfl, ?_⟩
      have hF21 := hFd.call hb21
      refine hK.out _ _ (⟨hF21.blk (i := 2) rfl, hF21.blk (i := 1) rfl⟩) (fun _ => ?_)
      clear hK K
      (try simp only [Act.put, List.setIfInBounds_toArray, List.set_cons_zero, List.set_cons_succ])
      refine wpAnyH_take (i := 1) (v := ?_) (by simp only [List.getElem?_toArray, List.getElem?_cons_zero, List.getElem?_cons_succ]; rfl) (by kernel_rfl) (by kernel_rfl) (by kernel_rfl) (by exact fun _ _ _ h => h) (Or.inl ⟨by with_unfolding_all rfl, ?_⟩) ⟨hF21.blk (i := 2) rfl, hF21.blk (i := 1) rfl⟩ ?_
      rotate_left
      · (intro w hSw; (try dsimp only at hSw); go_simp; try with_reducible rfl)
      (try simp only [Act.put, List.setIfInBounds_toArray, List.set_cons_zero, List.set_cons_succ])
      refine wpAnyH_take (i := 2) (v := ?_) (by simp only [List.getElem?_toArray, List.getElem?_cons_zero, List.getElem?_cons_succ]; rfl) (by kernel_rfl) (by kernel_rfl) (by kernel_rfl) (by exact fun _ _ _ h => h) (Or.inl ⟨by with_unfolding_all rfl, ?_⟩) ⟨hF21.blk (i := 2) rfl, hF21.blk (i := 1) rfl⟩ ?_
      rotate_left
      · (intro w hSw; (try dsimp only at hSw); go_simp; try with_reducible rfl)
      (try simp only [Act.put, List.setIfInBounds_toArray, List.set_cons_zero, List.set_cons_succ])
      refine wpAnyH_take (i := 3) (v := ?_) (by simp only [List.getElem?_toArray, List.getElem?_cons_zero, List.getElem?_cons_succ]; rfl) (by kernel_rfl) (by kernel_rfl) (by kernel_rfl) (by exact fun _ _ _ h => h) (Or.inl ⟨by with_unfolding_all rfl, ?_⟩) ⟨hF21.blk (i := 2) rfl, hF21.blk (i := 1) rfl⟩ ?_
      rotate_left
      · (intro w hSw; (try dsimp only at hSw); go_simp; try with_reducible rfl)
      (try simp only [Act.put, List.setIfInBounds_toArray, List.set_cons_zero, List.set_cons_succ])
      refine wpAnyH_take (i := 4) (v := ?_) (by simp only [List.getElem?_toArray, List.getElem?_cons_zero, List.getElem?_cons_succ]; rfl) (by kernel_rfl) (by kernel_rfl) (by kernel_rfl) (by exact fun _ _ _ h => h) (Or.inl ⟨by with_unfolding_all rfl, ?_⟩) ⟨hF21.blk (i := 2) rfl, hF21.blk (i := 1) rfl⟩ ?_
      rotate_left
      · (intro w hSw; (try dsimp only at hSw); go_simp; try with_reducible rfl)
      (try simp only [Act.put, List.setIfInBounds_toArray, List.set_cons_zero, List.set_cons_succ])
      refine wpAnyH_take (i := 5) (v := ?_) (by simp only [List.getElem?_toArray, List.getElem?_cons_zero, List.getElem?_cons_succ]; rfl) (by kernel_rfl) (by kernel_rfl) (by kernel_rfl) (by exact fun _ _ _ h => h) (Or.inl ⟨by with_unfolding_all rfl, ?_⟩) ⟨hF21.blk (i := 2) rfl, hF21.blk (i := 1) rfl⟩ ?_
      rotate_left
      · (intro w hSw; (try dsimp only at hSw); go_simp; try with_reducible rfl)
      (try simp only [Act.put, List.setIfInBounds_toArray, List.set_cons_zero, List.set_cons_succ])
      refine wpAnyH_take (i := 6) (v := ?_) (by simp only [List.getElem?_toArray, List.getElem?_cons_zero, List.getElem?_cons_succ]; rfl) (by kernel_rfl) (by kernel_rfl) (by kernel_rfl) (by exact fun _ _ _ h => h) (Or.inl ⟨by with_unfolding_all rfl, ?_⟩) ⟨hF21.blk (i := 2) rfl, hF21.blk (i := 1) rfl⟩ ?_
      rotate_left
      · (intro w hSw; (try dsimp only at hSw); go_simp; try with_reducible rfl)
      (try simp only [Act.put, List.setIfInBounds_toArray, List.set_cons_zero, List.set_cons_succ])
      refine wpAnyH_take (i := 7) (by simp only [List.getElem?_toArray, List.getElem?_cons_zero, List.getElem?_cons_succ]; rfl) (by kernel_rfl) (by kernel_rfl) (by kernel_rfl) (by exact fun _ _ _ h => h) (yi_fldA (by with_unfolding_all rfl) (fun _ h => h.1) Tryd.underlying31 rfl (by with_unfolding_all exact ⟨_, rfl, rfl⟩) (ds := r.cells) (by rw [hC.out]; kernel_rfl) (take_all _)) ⟨hF21.blk (i := 2) rfl, hF21.blk (i := 1) rfl⟩ ?_
      (try simp only [Act.put, List.setIfInBounds_toArray, List.set_cons_zero, List.set_cons_succ])
      refine wpAnyH_take (i := 9) (by simp only [List.getElem?_toArray, List.getElem?_cons_zero, List.getElem?_cons_succ]; rfl) (by kernel_rfl) (by kernel_rfl) (by kernel_rfl) (by exact fun _ _ _ h => h) (yi_fldA (by with_unfolding_all rfl) (fun _ h => h.2) Tryd.underlying24 rfl (by with_unfolding_all exact ⟨_, rfl, rfl⟩) (ds := r.cells) (by rw [hC.out]; kernel_rfl) (take_all _)) ⟨hF21.blk (i := 2) rfl, hF21.blk (i := 1) rfl⟩ ?_
      (try simp only [Act.put, List.setIfInBounds_toArray, List.set_cons_zero, List.set_cons_succ])
      refine wpAnyH_ready (rs := [8]) (by kernel_rfl) (by simp) ?_
      refine AllReadyH.cons (by simp only [List.getElem?_toArray, List.getElem?_cons_zero, List.getElem?_cons_succ]; rfl) (fun K hK => ?_) ?_
      · refine stp (by with_unfolding_all rfl) (wp_call Tryd.func16 rfl (by with_unfolding_all rfl) (by with_unfolding_all rfl) (by with_unfolding_all rfl) (h4.out _) ?_)
        rintro e w22 ⟨rfl, hb22⟩
        refine ⟨_, rfl, ?_⟩
        have hF22 := hF21.call hb22
        refine hK.out _ _ (⟨hF22.blk (i := 2) rfl, hF22.blk (i := 1) rfl⟩) (fun _ => ?_)
        clear hK K
        (try simp only [Act.put, List.setIfInBounds_toArray, List.set_cons_zero, List.set_cons_succ])
        refine wpAnyH_take (i := 10) (by simp only [List.getElem?_toArray, List.getElem?_cons_zero, List.getElem?_cons_succ]; rfl) (by kernel_rfl) (by kernel_rfl) (by kernel_rfl) (by exact fun _ _ _ h => h) (yi_eqS (by with_unfolding_all rfl) hE.out (by with_unfolding_all rfl) (by with_unfolding_all rfl) (by with_unfolding_all rfl)) ⟨hF22.blk (i := 2) rfl, hF22.blk (i := 1) rfl⟩ ?_
        (try simp only [Act.put, List.setIfInBounds_toArray, List.set_cons_zero, List.set_cons_succ])
        refine wpAnyH_take (i := 11) (v := ?_) (by simp only [List.getElem?_toArray, List.getElem?_cons_zero, List.getElem?_cons_succ]; rfl) (by kernel_rfl) (by kernel_rfl) (by kernel_rfl) (by exact fun _ _ _ h => h) (Or.inl ⟨by with_unfolding_all rfl, ?_⟩) ⟨hF22.blk (i := 2) rfl, hF22.blk (i := 1) rfl⟩ ?_
        rotate_left
        · (intro w hSw; (try dsimp only at hSw); go_simp; try with_reducible rfl)
        (try simp only [Act.put, List.setIfInBounds_toArray, List.set_cons_zero, List.set_cons_succ])
        refine wpAnyH_take (i := 12) (v := ?_) (by simp only [List.getElem?_toArray, List.getElem?_cons_zero, List.getElem?_cons_succ]; rfl) (by kernel_rfl) (by kernel_rfl) (by kernel_rfl) (by exact fun _ _ _ h => h) (Or.inl ⟨by with_unfolding_all rfl, ?_⟩) ⟨hF22.blk (i := 2) rfl, hF22.blk (i := 1) rfl⟩ ?_
        rotate_left
        · (intro w hSw; (try dsimp only at hSw); go_simp; try with_reducible rfl)
        (try simp only [Act.put, List.setIfInBounds_toArray, List.set_cons_zero, List.set_cons_succ])
        refine wpAnyH_take (i := 13) (v := ?_) (by simp only [List.getElem?_toArray, List.getElem?_cons_zero, List.getElem?_cons_succ]; rfl) (by kernel_rfl) (by kernel_rfl) (by kernel_rfl) (by exact fun _ _ _ h => h) (Or.inl ⟨by with_unfolding_all rfl, ?_⟩) ⟨hF22.blk (i := 2) rfl, hF22.blk (i := 1) rfl⟩ ?_
        rotate_left
        · (intro w hSw; (try dsimp only at hSw); go_simp; try with_reducible rfl)
        (try simp only [Act.put, List.setIfInBounds_toArray, List.set_cons_zero, List.set_cons_succ])
        refine wpAnyH_take (i := 14) (v := ?_) (by simp only [List.getElem?_toArray, List.getElem?_cons_zero, List.getElem?_cons_succ]; rfl) (by kernel_rfl) (by kernel_rfl) (by kernel_rfl) (by exact fun _ _ _ h => h) (Or.inl ⟨by with_unfolding_all rfl, ?_⟩) ⟨hF22.blk (i := 2) rfl, hF22.blk (i := 1) rfl⟩ ?_
        rotate_left
        · (intro w hSw; (try dsimp only at hSw); go_simp; try with_reducible rfl)
        (try simp only [Act.put, List.setIfInBounds_toArray, List.set_cons_zero, List.set_cons_succ])
        refine wpAnyH_take (i := 15) (v := ?_) (by simp only [List.getElem?_toArray, List.getElem?_cons_zero, List.getElem?_cons_succ]; rfl) (by kernel_rfl) (by kernel_rfl) (by kernel_rfl) (by exact fun _ _ _ h => h) (Or.inl ⟨by with_unfolding_all rfl, ?_⟩) ⟨hF22.blk (i := 2) rfl, hF22.blk (i := 1) rfl⟩ ?_
        rotate_left
        · (intro w hSw; (try dsimp only at hSw); go_simp; try with_reducible rfl)
        (try simp only [Act.put, List.setIfInBounds_toArray, List.set_cons_zero, List.set_cons_succ])
        refine wpAnyH_take (i := 16) (v := undef) (by simp only [List.getElem?_toArray, List.getElem?_cons_zero, List.getElem?_cons_succ]; rfl) (by kernel_rfl) (by kernel_rfl) (by kernel_rfl) (by exact fun _ _ _ h => h) (Or.inr ⟨by with_unfolding_all rfl, rfl⟩) ⟨hF22.blk (i := 2) rfl, hF22.blk (i := 1) rfl⟩ ?_
        (try simp only [Act.put, List.setIfInBounds_toArray, List.set_cons_zero, List.set_cons_succ])
        refine wpAnyH_take (i := 17) (v := undef) (by simp only [List.getElem?_toArray, List.getElem?_cons_zero, List.getElem?_cons_succ]; rfl) (by kernel_rfl) (by kernel_rfl) (by kernel_rfl) (by exact fun _ _ _ h => h) (Or.inr ⟨by with_unfolding_all rfl, rfl⟩) ⟨hF22.blk (i := 2) rfl, hF22.blk (i := 1) rfl⟩ ?_
        (try simp only [Act.put, List.setIfInBounds_toArray, List.set_cons_zero, List.set_cons_succ])
        refine wpAnyH_take (i := 18) (v := undef) (by simp only [List.getElem?_toArray, List.getElem?_cons_zero, List.getElem?_cons_succ]; rfl) (by kernel_rfl) (by kernel_rfl) (by kernel_rfl) (by exact fun _ _ _ h => h) (Or.inr ⟨by with_unfolding_all rfl, rfl⟩) ⟨hF22.blk (i := 2) rfl, hF22.blk (i := 1) rfl⟩ ?_
        (try simp only [Act.put, List.setIfInBounds_toArray, List.set_cons_zero, List.set_cons_succ])
        refine wpAnyH_take (i := 19) (v := undef) (by simp only [List.getElem?_toArray, List.getElem?_cons_zero, List.getElem?_cons_succ]; rfl) (by kernel_rfl) (by kernel_rfl) (by kernel_rfl) (by exact fun _ _ _ h => h) (Or.inr ⟨by with_unfolding_all rfl, rfl⟩) ⟨hF22.blk (i := 2) rfl, hF22.blk (i := 1) rfl⟩ ?_
        (try simp only [Act.put, List.setIfInBounds_toArray, List.set_cons_zero, List.set_cons_succ])
        refine wpAnyH_take (i := 20) (v := undef) (by simp only [List.getElem?_toArray, List.getElem?_cons_zero, List.getElem?_cons_succ]; rfl) (by kernel_rfl) (by kernel_rfl) (by kernel_rfl) (by exact fun _ _ _ h => h) (Or.inr ⟨by with_unfolding_all rfl, rfl⟩) ⟨hF22.blk (i := 2) rfl, hF22.blk (i := 1) rfl⟩ ?_
        (try simp only [Act.put, List.setIfInBounds_toArray, List.set_cons_zero, List.set_cons_succ])
        refine wpAnyH_take (i := 21) (v := undef) (by simp only [List.getElem?_toArray, List.getElem?_cons_zero, List.getElem?_cons_succ]; rfl) (by kernel_rfl) (by kernel_rfl) (by kernel_rfl) (by exact fun _ _ _ h => h) (Or.inr ⟨by with_unfolding_all rfl, rfl⟩) ⟨hF22.blk (i := 2) rfl, hF22.blk (i := 1) rfl⟩ ?_
        (try simp only [Act.put, List.setIfInBounds_toArray, List.set_cons_zero, List.set_cons_succ])
        refine wpAnyH_take (i := 22) (v := undef) (by simp only [List.getElem?_toArray, List.getElem?_cons_zero, List.getElem?_cons_succ]; rfl) (by kernel_rfl) (by kernel_rfl) (by kernel_rfl) (by exact fun _ _ _ h => h) (Or.inr ⟨by with_unfolding_all rfl, rfl⟩) ⟨hF22.blk (i := 2) rfl, hF22.blk (i := 1) rfl⟩ ?_
        (try simp only [Act.put, List.setIfInBounds_toArray, List.set_cons_zero, List.set_cons_succ])
        refine wpAnyH_take (i := 23) (v := ?_) (by simp only [List.getElem?_toArray, List.getElem?_cons_zero, List.getElem?_cons_succ]; rfl) (by kernel_rfl) (by kernel_rfl) (by kernel_rfl) (by exact fun _ _ _ h => h) (Or.inl ⟨by with_unfolding_all rfl, ?_⟩) ⟨hF22.blk (i := 2) rfl, hF22.blk (i := 1) rfl⟩ ?_
        rotate_left
        · (intro w hSw; (try dsimp only at hSw); go_simp; try with_reducible rfl)
        (try simp only [Act.put, List.setIfInBounds_toArray, List.set_cons_zero, List.set_cons_succ])
        refine wpAnyH_take (i := 24) (v := ?_) (by simp only [List.getElem?_toArray, List.getElem?_cons_zero, List.getElem?_cons_succ]; rfl) (by kernel_rfl) (by kernel_rfl) (by kernel_rfl) (by exact fun _ _ _ h => h) (Or.inl ⟨by with_unfolding_all rfl, ?_⟩) ⟨hF22.blk (i := 2) rfl, hF22.blk (i := 1) rfl⟩ ?_
        rotate_left
        · (intro w hSw; (try dsimp only at hSw); go_simp; try with_reducible rfl)
        (try simp only [Act.put, List.setIfInBounds_toArray, List.set_cons_zero, List.set_cons_succ])
        refine wpAnyH_take (i := 25) (v := ?_) (by simp only [List.getElem?_toArray, List.getElem?_cons_zero, List.getElem?_cons_succ]; rfl) (by kernel_rfl) (by kernel_rfl) (by kernel_rfl) (by exact fun _ _ _ h => h) (Or.inl ⟨by with_unfolding_all rfl, ?_⟩) ⟨hF22.blk (i := 2) rfl, hF22.blk (i := 1) rfl⟩ ?_
        rotate_left
        · (intro w hSw; (try dsimp only at hSw); go_simp; try with_reducible rfl)
        (try simp only [Act.put, List.setIfInBounds_toArray, List.set_cons_zero])
        refine wpAnyH_done (by kernel_rfl) ?_ _
        go_wp2_with fail
        go_ret
        exact ⟨ret1 (by simp), hF22.below⟩
      exact AllReadyH.nil
    exact AllReadyH.nil
end Go.Proofs.YtpdbjhgphgcjoaaDoor
