/-
  WireReplies: the law's walk.
-/
import Derived.Test.YtcnjnkkdidpjiaaJ09
import Derived.Test.YtcnjnkkdidpjiaaJ10
import Derived.Test.YtcnjnkkdidpjiaaJ13
import Derived.Test.YtcnjnkkdidpjiaaJ16
import Derived.Test.YtcnjnkkdidpjiaaJ17
import Derived.Test.YtcnjnkkdidpjiaaJ18
import Derived.Test.YtcnjnkkdidpjiaaJ20
import Derived.Test.YtcnjnkkdidpjiaaJ21
import Derived.Test.YtcnjnkkdidpjiaaJ23
namespace Go.Proofs.Ytcnjnkkdidpjiaa
open Go.RowKit

theorem sameRep_self (a : Rep) : sameRep a a = true := by simp [sameRep]

set_option maxRecDepth 20000 in
set_option maxHeartbeats 3200000 in
theorem wireReplies_any (r : Rep) (A B C : Option Addr) (c cb cc : Nat) (D : Option Addr) (n m : Nat) (l : List UInt8) (w : World) (hR : RepRd w r A B C) (hm : r.body.length ≤ 140737488355000) (hmw : r.words.length ≤ 1000000000) (hms : r.sums.length ≤ 1000000000)
    (hn : n ≤ 140737488355000) (hnm : n ≤ m) (hrb : Rd w (· < w.heap.size) D 1 n (l.map bv)) :
    Calls Try.prog 5 #[.agg (r.cells A B C c cb cc).toArray, .slice D n m] w fun e w' => e = .returned (.bool true) ∧ Below w.heap.size w w' := by
  have hF0 := Fr.nil w
  have hcl := Rep.cells_len r A B C c cb cc hR.d
  replace hcl := box hcl
  have hrp := rp0_len
  replace hrp := box hrp
  have hE := box (fun A B C c cb cc w h => encRep_any r A B C c cb cc w h)
  have hE' := box (fun A B C c cb cc w h => encRepF_any r A B C c cb cc w h)
  generalize (if repOk r = true then repB r else []) = L at *
  generalize (if repOk r = true then (0 : Int) else 1) = E at *
  have hD := box (fun w h => decRep_any D n m l w hn hnm h)
  have hD' := box (fun w h => decRepF_any D n m l w hn hnm h)
  have hxd := decRep_d l
  have hx32 := decRep_32 l
  obtain ⟨hx1, hx2, hx3⟩ := decRep_bd l
  unfold ToldRep at hD hD'
  generalize (decRep l).getD Rep.zero = x at *
  generalize (if (decRep l).isSome = true then (0 : Int) else 10) = E2 at *
  have hcx := box (fun A B C c cb cc => Rep.cells_len x A B C c cb cc hxd)
  replace hxd := box hxd
  replace hx32 := box hx32
  go_enter Try.func5, Try.ntmps5
  go_wp2_with (first | ((with_reducible refine lst (by with_unfolding_all rfl) (wp_fbox hF0 (cs := (r.cells A B C c cb cc)) rfl (by with_unfolding_all rfl) (by with_unfolding_all rfl) ?_)); intro w1 g1 hF1 hz1) | (with_reducible refine lst (by with_unfolding_all rfl) (wp_fldA0 hF1 Try.underlying47 rfl (by with_unfolding_all exact ⟨_, rfl, rfl⟩) (ds := (r.cells A B C c cb cc)) (by rw [hcl.out]; kernel_rfl) (take_all _) ?_)))
  refine (toRep_any r A B C c cb cc w1 (hR.fr hF1) hm hmw hms).mono ?_
  rintro e w2 ⟨A2, B2, C2, c2, cb2, cc2, rfl, hR2⟩
  have hF2 := hF1.call hR2.below
  have hR2 := RepRd.of (i := 0) (j := 1) (k := 2) hR2 hR.d hR.each rfl rfl rfl
  go_wp2_with fail
  refine (hE.out A2 B2 C2 c2 cb2 cc2 w2 hR2).mono ?_
  rintro e w3 ⟨v3, rfl, ho3, hb3⟩
  obtain ⟨A3, c3, rfl, _, _⟩ := ho3.arg
  have hF3 := hF2.gotB hb3 ho3
  go_wp2_with (first | (with_reducible refine lst (by with_unfolding_all rfl) (wp_fldA1 hF3 Try.underlying47 rfl (by with_unfolding_all exact ⟨_, rfl, rfl⟩) (ds := (r.cells A B C c cb cc)) (by rw [hcl.out]; kernel_rfl) (take_all _) ?_)))
  refine (hE'.out A B C c cb cc w3 (hR.fr hF3)).mono ?_
  rintro e w4 ⟨v4, rfl, ho4, hb4⟩
  obtain ⟨A4, c4, rfl, _, _⟩ := ho4.arg
  have hF4 := hF3.gotB hb4 ho4
  clear hF1 hF2 hF3 hR2 hb3 hb4 ho3 ho4
  go_wp2_with fail
  refine (hD.out w4 (hF4.rdOld hrb)).mono ?_
  rintro e w5 ⟨A5, B5, C5, c5, cb5, cc5, rfl, hR5⟩
  have hF5 := hF4.join hR5
  simp only [RepEs, List.cons_append, List.nil_append] at hF5
  clear hR5
  go_wp2_with (first | ((with_reducible refine lst (by with_unfolding_all rfl) (wp_falloc hF5 (cs := rp0) (z := .agg (List.toArray (rp0))) rfl (by kernel_rfl) (by with_unfolding_all rfl) ?_)); intro w6 g6 hF6 hz6) | ((with_reducible refine lst (by with_unfolding_all rfl) (wp_fstA0 hF6 (by with_unfolding_all exact ⟨_, _, rfl, rfl, rfl⟩) (by rw [hcx.out]; kernel_rfl) (Rep.cells_one _ _ _ _ _ _ _) (by rw [hcx.out, hrp.out]; omega) (spl_all (by rw [hcx.out, hrp.out])) ?_)); intro w7 hF7 hz7))
  refine (hD'.out w7 (hF7.rdOld hrb)).mono ?_
  rintro e w8 ⟨A8, B8, C8, c8, cb8, cc8, rfl, hR8⟩
  have hF8 := hF7.join hR8
  simp only [RepEs, List.cons_append, List.nil_append] at hF8
  clear hF4 hF5 hF6 hF7 hR8
  go_wp2_with (first | ((with_reducible refine lst (by with_unfolding_all rfl) (wp_falloc hF8 (cs := rp0) (z := .agg (List.toArray (rp0))) rfl (by kernel_rfl) (by with_unfolding_all rfl) ?_)); intro w9 g9 hF9 hz9) | ((with_reducible refine lst (by with_unfolding_all rfl) (wp_fstA0 hF9 (by with_unfolding_all exact ⟨_, _, rfl, rfl, rfl⟩) (by rw [hcx.out]; kernel_rfl) (Rep.cells_one _ _ _ _ _ _ _) (by rw [hcx.out, hrp.out]; omega) (spl_all (by rw [hcx.out, hrp.out])) ?_)); intro w10 hF10 hz10))
  have hLl : L.length ≤ 9223372036854775807 := by
    obtain ⟨_, _, _, h1, h2⟩ := (hF10.own (i := 8) rfl).form
    unfold maxLen at h2; omega
  have hsx := sameRep_self x
  replace hcx := box hcx
  have hFd := hF10.drew
  refine wp_region_held (S := fun w' => w'.heap[g6]? = some (.cells (List.toArray (x.cells A5 B5 C5 c5 cb5 cc5)) 51 (0, 0)) ∧ w'.heap[g9]? = some (.cells (List.toArray (x.cells A8 B8 C8 c8 cb8 cc8)) 47 (0, 0))) (by kernel_rfl) ?_
  change wpAnyH _ _ _ _ _ _ _ _ (World.drew _)
  refine wpAnyH_ready (rs := [0]) (by kernel_rfl) (by simp) ?_
  refine AllReadyH.cons (by simp only [List.getElem?_toArray, List.getElem?_cons_zero]; rfl) (fun K hK => ?_) ?_
  · refine stp (by with_unfolding_all rfl) (wp_call Try.func12 rfl (by with_unfolding_all rfl) (by with_unfolding_all rfl) (by with_unfolding_all rfl) (awake_any _) ?_)
    rintro e w21 ⟨rfl, hb21⟩
    refine ⟨_, rfl, ?_⟩
    have hF21 := hFd.call hb21
    refine hK.out _ _ (⟨hF21.blk (i := 4) rfl, hF21.blk (i := 0) rfl⟩) (fun _ => ?_)
    clear hK K
    (try simp only [Act.put, List.setIfInBounds_toArray, List.set_cons_zero, List.set_cons_succ])
    refine wpAnyH_take (i := 1) (v := ?_) (by simp only [List.getElem?_toArray, List.getElem?_cons_zero, List.getElem?_cons_succ]; rfl) (by kernel_rfl) (by kernel_rfl) (by kernel_rfl) (by exact fun _ _ _ h => h) (Or.inl ⟨by with_unfolding_all rfl, ?_⟩) ⟨hF21.blk (i := 4) rfl, hF21.blk (i := 0) rfl⟩ ?_
    rotate_left
    · (intro w hSw; (try dsimp only at hSw); go_simp; try with_reducible rfl)
    (try simp only [Act.put, List.setIfInBounds_toArray, List.set_cons_zero, List.set_cons_succ])
    refine wpAnyH_take (i := 2) (v := ?_) (by simp only [List.getElem?_toArray, List.getElem?_cons_zero, List.getElem?_cons_succ]; rfl) (by kernel_rfl) (by kernel_rfl) (by kernel_rfl) (by exact fun _ _ _ h => h) (Or.inl ⟨by with_unfolding_all rfl, ?_⟩) ⟨hF21.blk (i := 4) rfl, hF21.blk (i := 0) rfl⟩ ?_
    rotate_left
    · (intro w hSw; (try dsimp only at hSw); go_simp; try with_reducible rfl)
    (try simp only [Act.put, List.setIfInBounds_toArray, List.set_cons_zero, List.set_cons_succ])
    refine wpAnyH_take (i := 3) (v := ?_) (by simp only [List.getElem?_toArray, List.getElem?_cons_zero, List.getElem?_cons_succ]; rfl) (by kernel_rfl) (by kernel_rfl) (by kernel_rfl) (by exact fun _ _ _ h => h) (Or.inl ⟨by with_unfolding_all rfl, ?_⟩) ⟨hF21.blk (i := 4) rfl, hF21.blk (i := 0) rfl⟩ ?_
    rotate_left
    · (intro w hSw; (try dsimp only at hSw); go_simp; try with_reducible rfl)
    (try simp only [Act.put, List.setIfInBounds_toArray, List.set_cons_zero, List.set_cons_succ])
    refine wpAnyH_take (i := 4) (v := ?_) (by simp only [List.getElem?_toArray, List.getElem?_cons_zero, List.getElem?_cons_succ]; rfl) (by kernel_rfl) (by kernel_rfl) (by kernel_rfl) (by exact fun _ _ _ h => h) (Or.inl ⟨by with_unfolding_all rfl, ?_⟩) ⟨hF21.blk (i := 4) rfl, hF21.blk (i := 0) rfl⟩ ?_
    rotate_left
    · (intro w hSw; (try dsimp only at hSw); go_simp; try with_reducible rfl)
    (try simp only [Act.put, List.setIfInBounds_toArray, List.set_cons_zero, List.set_cons_succ])
    refine wpAnyH_take (i := 5) (v := ?_) (by simp only [List.getElem?_toArray, List.getElem?_cons_zero, List.getElem?_cons_succ]; rfl) (by kernel_rfl) (by kernel_rfl) (by kernel_rfl) (by exact fun _ _ _ h => h) (Or.inl ⟨by with_unfolding_all rfl, ?_⟩) ⟨hF21.blk (i := 4) rfl, hF21.blk (i := 0) rfl⟩ ?_
    rotate_left
    · (intro w hSw; (try dsimp only at hSw); go_simp; try with_reducible rfl)
    (try simp only [Act.put, List.setIfInBounds_toArray, List.set_cons_zero, List.set_cons_succ])
    refine wpAnyH_take (i := 6) (v := ?_) (by simp only [List.getElem?_toArray, List.getElem?_cons_zero, List.getElem?_cons_succ]; rfl) (by kernel_rfl) (by kernel_rfl) (by kernel_rfl) (by exact fun _ _ _ h => h) (Or.inl ⟨by with_unfolding_all rfl, ?_⟩) ⟨hF21.blk (i := 4) rfl, hF21.blk (i := 0) rfl⟩ ?_
    rotate_left
    · (intro w hSw; (try dsimp only at hSw); go_simp; try with_reducible rfl)
    (try simp only [Act.put, List.setIfInBounds_toArray, List.set_cons_zero, List.set_cons_succ])
    refine wpAnyH_take (i := 7) (v := ?_) (by simp only [List.getElem?_toArray, List.getElem?_cons_zero, List.getElem?_cons_succ]; rfl) (by kernel_rfl) (by kernel_rfl) (by kernel_rfl) (by exact fun _ _ _ h => h) (Or.inl ⟨by with_unfolding_all rfl, ?_⟩) ⟨hF21.blk (i := 4) rfl, hF21.blk (i := 0) rfl⟩ ?_
    rotate_left
    · (intro w hSw; (try dsimp only at hSw); go_simp; try with_reducible rfl)
    (try simp only [Act.put, List.setIfInBounds_toArray, List.set_cons_zero, List.set_cons_succ])
    refine wpAnyH_take (i := 8) (v := ?_) (by simp only [List.getElem?_toArray, List.getElem?_cons_zero, List.getElem?_cons_succ]; rfl) (by kernel_rfl) (by kernel_rfl) (by kernel_rfl) (by exact fun _ _ _ h => h) (Or.inl ⟨by with_unfolding_all rfl, ?_⟩) ⟨hF21.blk (i := 4) rfl, hF21.blk (i := 0) rfl⟩ ?_
    rotate_left
    · (intro w hSw; (try dsimp only at hSw); go_simp; try with_reducible rfl)
    (try simp only [Act.put, List.setIfInBounds_toArray, List.set_cons_zero, List.set_cons_succ])
    refine wpAnyH_ready (rs := [9]) (by kernel_rfl) (by simp) ?_
    refine AllReadyH.cons (by simp only [List.getElem?_toArray, List.getElem?_cons_zero, List.getElem?_cons_succ]; rfl) (fun K hK => ?_) ?_
    · refine stp (by with_unfolding_all rfl) (wp_call Try.func13 rfl (by with_unfolding_all rfl) (by with_unfolding_all rfl) (by with_unfolding_all rfl) (same_any A3 A4 _ _ c3 c4 L L _ hLl (hF21.rdOwn (i := 9) rfl) (hF21.rdOwn (i := 8) rfl)) ?_)
      rintro e w22 ⟨rfl, hb22⟩
      refine ⟨_, rfl, ?_⟩
      have hF22 := hF21.call hb22
      refine hK.out _ _ (⟨hF22.blk (i := 4) rfl, hF22.blk (i := 0) rfl⟩) (fun _ => ?_)
      clear hK K
      (try simp only [Act.put, List.setIfInBounds_toArray, List.set_cons_zero, List.set_cons_succ])
      refine wpAnyH_take (i := 10) (v := ?_) (by simp only [List.getElem?_toArray, List.getElem?_cons_zero, List.getElem?_cons_succ]; rfl) (by kernel_rfl) (by kernel_rfl) (by kernel_rfl) (by exact fun _ _ _ h => h) (Or.inl ⟨by with_unfolding_all rfl, ?_⟩) ⟨hF22.blk (i := 4) rfl, hF22.blk (i := 0) rfl⟩ ?_
      rotate_left
      · (intro w hSw; (try dsimp only at hSw); go_simp; try with_reducible rfl)
      (try simp only [Act.put, List.setIfInBounds_toArray, List.set_cons_zero, List.set_cons_succ])
      refine wpAnyH_take (i := 11) (v := ?_) (by simp only [List.getElem?_toArray, List.getElem?_cons_zero, List.getElem?_cons_succ]; rfl) (by kernel_rfl) (by kernel_rfl) (by kernel_rfl) (by exact fun _ _ _ h => h) (Or.inl ⟨by with_unfolding_all rfl, ?_⟩) ⟨hF22.blk (i := 4) rfl, hF22.blk (i := 0) rfl⟩ ?_
      rotate_left
      · (intro w hSw; (try dsimp only at hSw); go_simp; try with_reducible rfl)
      (try simp only [Act.put, List.setIfInBounds_toArray, List.set_cons_zero, List.set_cons_succ])
      refine wpAnyH_take (i := 12) (v := ?_) (by simp only [List.getElem?_toArray, List.getElem?_cons_zero, List.getElem?_cons_succ]; rfl) (by kernel_rfl) (by kernel_rfl) (by kernel_rfl) (by exact fun _ _ _ h => h) (Or.inl ⟨by with_unfolding_all rfl, ?_⟩) ⟨hF22.blk (i := 4) rfl, hF22.blk (i := 0) rfl⟩ ?_
      rotate_left
      · (intro w hSw; (try dsimp only at hSw); go_simp; try with_reducible rfl)
      (try simp only [Act.put, List.setIfInBounds_toArray, List.set_cons_zero, List.set_cons_succ])
      refine wpAnyH_take (i := 13) (v := ?_) (by simp only [List.getElem?_toArray, List.getElem?_cons_zero, List.getElem?_cons_succ]; rfl) (by kernel_rfl) (by kernel_rfl) (by kernel_rfl) (by exact fun _ _ _ h => h) (Or.inl ⟨by with_unfolding_all rfl, ?_⟩) ⟨hF22.blk (i := 4) rfl, hF22.blk (i := 0) rfl⟩ ?_
      rotate_left
      · (intro w hSw; (try dsimp only at hSw); go_simp; try with_reducible rfl)
      (try simp only [Act.put, List.setIfInBounds_toArray, List.set_cons_zero, List.set_cons_succ])
      refine wpAnyH_take (i := 14) (v := ?_) (by simp only [List.getElem?_toArray, List.getElem?_cons_zero, List.getElem?_cons_succ]; rfl) (by kernel_rfl) (by kernel_rfl) (by kernel_rfl) (by exact fun _ _ _ h => h) (Or.inl ⟨by with_unfolding_all rfl, ?_⟩) ⟨hF22.blk (i := 4) rfl, hF22.blk (i := 0) rfl⟩ ?_
      rotate_left
      · (intro w hSw; (try dsimp only at hSw); go_simp; try with_reducible rfl)
      (try simp only [Act.put, List.setIfInBounds_toArray, List.set_cons_zero, List.set_cons_succ])
      refine wpAnyH_take (i := 15) (v := ?_) (by simp only [List.getElem?_toArray, List.getElem?_cons_zero, List.getElem?_cons_succ]; rfl) (by kernel_rfl) (by kernel_rfl) (by kernel_rfl) (by exact fun _ _ _ h => h) (Or.inl ⟨by with_unfolding_all rfl, ?_⟩) ⟨hF22.blk (i := 4) rfl, hF22.blk (i := 0) rfl⟩ ?_
      rotate_left
      · (intro w hSw; (try dsimp only at hSw); go_simp; try with_reducible rfl)
      (try simp only [Act.put, List.setIfInBounds_toArray, List.set_cons_zero, List.set_cons_succ])
      refine wpAnyH_take (i := 16) (v := ?_) (by simp only [List.getElem?_toArray, List.getElem?_cons_zero, List.getElem?_cons_succ]; rfl) (by kernel_rfl) (by kernel_rfl) (by kernel_rfl) (by exact fun _ _ _ h => h) (Or.inl ⟨by with_unfolding_all rfl, ?_⟩) ⟨hF22.blk (i := 4) rfl, hF22.blk (i := 0) rfl⟩ ?_
      rotate_left
      · (intro w hSw; (try dsimp only at hSw); go_simp; try with_reducible rfl)
      (try simp only [Act.put, List.setIfInBounds_toArray, List.set_cons_zero, List.set_cons_succ])
      refine wpAnyH_take (i := 17) (by simp only [List.getElem?_toArray, List.getElem?_cons_zero, List.getElem?_cons_succ]; rfl) (by kernel_rfl) (by kernel_rfl) (by kernel_rfl) (by exact fun _ _ _ h => h) (yi_fldA (by with_unfolding_all rfl) (fun _ h => h.1) Try.underlying51 rfl (by with_unfolding_all exact ⟨_, rfl, rfl⟩) (ds := (x.cells A5 B5 C5 c5 cb5 cc5)) (by rw [hcx.out.out]; kernel_rfl) (take_all _)) ⟨hF22.blk (i := 4) rfl, hF22.blk (i := 0) rfl⟩ ?_
      (try simp only [Act.put, List.setIfInBounds_toArray, List.set_cons_zero, List.set_cons_succ])
      refine wpAnyH_take (i := 19) (by simp only [List.getElem?_toArray, List.getElem?_cons_zero, List.getElem?_cons_succ]; rfl) (by kernel_rfl) (by kernel_rfl) (by kernel_rfl) (by exact fun _ _ _ h => h) (yi_fldA (by with_unfolding_all rfl) (fun _ h => h.2) Try.underlying47 rfl (by with_unfolding_all exact ⟨_, rfl, rfl⟩) (ds := (x.cells A8 B8 C8 c8 cb8 cc8)) (by rw [hcx.out.out]; kernel_rfl) (take_all _)) ⟨hF22.blk (i := 4) rfl, hF22.blk (i := 0) rfl⟩ ?_
      (try simp only [Act.put, List.setIfInBounds_toArray, List.set_cons_zero, List.set_cons_succ])
      refine wpAnyH_ready (rs := [18]) (by kernel_rfl) (by simp) ?_
      refine AllReadyH.cons (by simp only [List.getElem?_toArray, List.getElem?_cons_zero, List.getElem?_cons_succ]; rfl) (fun K hK => ?_) ?_
      · refine stp (by with_unfolding_all rfl) (wp_call Try.func22 rfl (by with_unfolding_all rfl) (by with_unfolding_all rfl) (by with_unfolding_all rfl) (fromRep_any x A5 B5 C5 c5 cb5 cc5 _ (RepRd.of hF22 (i := 5) (j := 6) (k := 7) hxd.out hx32.out rfl rfl rfl) (by omega)) ?_)
        rintro e w23 ⟨C23, d23, rfl, hj23⟩
        refine ⟨_, rfl, ?_⟩
        have hF23 := hF22.join hj23
        simp only [List.cons_append, List.nil_append] at hF23
        refine hK.out _ _ (⟨hF23.blk (i := 5) rfl, hF23.blk (i := 1) rfl⟩) (fun _ => ?_)
        clear hK K
        (try simp only [Act.put, List.setIfInBounds_toArray, List.set_cons_zero, List.set_cons_succ])
        refine wpAnyH_ready (rs := [20]) (by kernel_rfl) (by simp) ?_
        refine AllReadyH.cons (by simp only [List.getElem?_toArray, List.getElem?_cons_zero, List.getElem?_cons_succ]; rfl) (fun K hK => ?_) ?_
        · refine stp (by with_unfolding_all rfl) (wp_call Try.func18 rfl (by with_unfolding_all rfl) (by with_unfolding_all rfl) (by with_unfolding_all rfl) (sameRep_any x x A5 B5 C23 A8 B8 C8 c5 cb5 d23 c8 cb8 cc8 _ (RepRd.of hF23 (i := 6) (j := 7) (k := 0) hxd.out hx32.out rfl rfl rfl) (RepRd.of hF23 (i := 2) (j := 3) (k := 4) hxd.out hx32.out rfl rfl rfl) (by omega) (by omega) (by omega)) ?_)
          rintro e w24 ⟨rfl, hb24⟩
          refine ⟨_, rfl, ?_⟩
          have hF24 := hF23.call hb24
          refine hK.out _ _ (⟨hF24.blk (i := 5) rfl, hF24.blk (i := 1) rfl⟩) (fun _ => ?_)
          clear hK K
          (try simp only [Act.put, List.setIfInBounds_toArray, List.set_cons_zero, List.set_cons_succ])
          refine wpAnyH_take (i := 21) (v := ?_) (by simp only [List.getElem?_toArray, List.getElem?_cons_zero, List.getElem?_cons_succ]; rfl) (by kernel_rfl) (by kernel_rfl) (by kernel_rfl) (by exact fun _ _ _ h => h) (Or.inl ⟨by with_unfolding_all rfl, ?_⟩) ⟨hF24.blk (i := 5) rfl, hF24.blk (i := 1) rfl⟩ ?_
          rotate_left
          · (intro w hSw; (try dsimp only at hSw); go_simp; try with_reducible rfl)
          (try simp only [Act.put, List.setIfInBounds_toArray, List.set_cons_zero, List.set_cons_succ])
          refine wpAnyH_take (i := 22) (v := ?_) (by simp only [List.getElem?_toArray, List.getElem?_cons_zero, List.getElem?_cons_succ]; rfl) (by kernel_rfl) (by kernel_rfl) (by kernel_rfl) (by exact fun _ _ _ h => h) (Or.inl ⟨by with_unfolding_all rfl, ?_⟩) ⟨hF24.blk (i := 5) rfl, hF24.blk (i := 1) rfl⟩ ?_
          rotate_left
          · (intro w hSw; (try dsimp only at hSw); go_simp; try with_reducible rfl)
          (try simp only [Act.put, List.setIfInBounds_toArray, List.set_cons_zero, List.set_cons_succ])
          refine wpAnyH_done (by kernel_rfl) ?_ _
          go_wp2_with fail
          go_ret
          exact ⟨by rw [hsx]; rfl, hF24.below⟩
        exact AllReadyH.nil
      exact AllReadyH.nil
    exact AllReadyH.nil
  exact AllReadyH.nil
end Go.Proofs.Ytcnjnkkdidpjiaa
