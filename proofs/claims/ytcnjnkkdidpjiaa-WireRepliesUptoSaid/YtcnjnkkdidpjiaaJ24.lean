/-
  WireReplies: the law's walk.
  What the second form's bound gives of a slice: its room.
  From what the form reads of structs that came in to the words of the walks: parts of the cells, one by one. No program is named here.
  A slice of any elements that came in. No program is named here.
-/
import Derived.Test.YtcnjnkkdidpjiaaJ09
import Derived.Test.YtcnjnkkdidpjiaaJ10
import Derived.Test.YtcnjnkkdidpjiaaJ13
import Derived.Test.YtcnjnkkdidpjiaaJ16
import Derived.Test.YtcnjnkkdidpjiaaJ17
import Derived.Test.YtcnjnkkdidpjiaaJ18
import Derived.Test.YtcnjnkkdidpjiaaJ20
import Derived.Test.YtcnjnkkdidpjiaaJ21
import Derived.Test.YtcnjnkkdidpjiaaJ23
import Derived.Test.YtcnjnkkdidpjiaaRows
import Derived.Test.YtcnjnkkdidpjiaaJ02
namespace Go.Proofs.Ytcnjnkkdidpjiaa
open Go.RowKit

theorem sameRep_self (a : Rep) : sameRep a a = true := by simp [sameRep]

set_option maxRecDepth 20000 in
set_option maxHeartbeats 3200000 in
theorem wireReplies_any (r : Rep) (A B C : Option Addr) (c cb cc : Nat) (D : Option Addr) (n m : Nat) (l : List UInt8) (w : World) (hR : RepRd w r A B C) (hm : r.body.length ≤ 140737488355000) (hmw : r.words.length ≤ 1000000000) (hms : r.sums.length ≤ 1000000000)
    (hn : n ≤ 140737488355000) (hnm : n ≤ m) (hrb : Rd w (· < w.heap.size) D 1 n (l.map bv)) :
    Calls Try.prog 5 #[.agg (r.cells A B C c cb cc).toArray, .slice D n m] w fun e w' => e = .returned (.bool true) ∧ Below w.heap.size w w' := by
  have hF0 := Fr.nil w
  have hcl := Rep.cells_len r A B C c cb cc hR.d
  replace hcl := box hcl
  have hrp := rp0_len
  replace hrp := box hrp
  have hE := box (fun A B C c cb cc w h => encRep_any r A B C c cb cc w h)
  have hE' := box (fun A B C c cb cc w h => encRepF_any r A B C c cb cc w h)
  generalize (if repOk r = true then repB r else []) = L at *
  generalize (if repOk r = true then (0 : Int) else 1) = E at *
  have hD := box (fun w h => decRep_any D n m l w hn hnm h)
  have hD' := box (fun w h => decRepF_any D n m l w hn hnm h)
  have hxd := decRep_d l
  have hx32 := decRep_32 l
  obtain ⟨hx1, hx2, hx3⟩ := decRep_bd l
  unfold ToldRep at hD hD'
  generalize (decRep l).getD Rep.zero = x at *
  generalize (if (decRep l).isSome = true then (0 : Int) else 10) = E2 at *
  have hcx := box (fun A B C c cb cc => Rep.cells_len x A B C c cb cc hxd)
  replace hxd := box hxd
  replace hx32 := box hx32
  go_enter Try.func5, Try.ntmps5
  go_wp2_with (first | ((with_reducible refine lst (by with_unfolding_all rfl) (wp_fbox hF0 (cs := (r.cells A B C c cb cc)) rfl (by with_unfolding_all rfl) (by with_unfolding_all rfl) ?_)); intro w1 g1 hF1 hz1) | (with_reducible refine lst (by with_unfolding_all rfl) (wp_fldA0 hF1 Try.underlying47 rfl (by with_unfolding_all exact ⟨_, rfl, rfl⟩) (ds := (r.cells A B C c cb cc)) (by rw [hcl.out]; kernel_rfl) (take_all _) ?_)))
  refine (toRep_any r A B C c cb cc w1 (hR.fr hF1) hm hmw hms).mono ?_
  rintro e w2 ⟨A2, B2, C2, c2, cb2, cc2, rfl, hR2⟩
  have hF2 := hF1.call hR2.below
  have hR2 := RepRd.of (i := 0) (j := 1) (k := 2) hR2 hR.d hR.each rfl rfl rfl
  go_wp2_with fail
  refine (hE.out A2 B2 C2 c2 cb2 cc2 w2 hR2).mono ?_
  rintro e w3 ⟨v3, rfl, ho3, hb3⟩
  obtain ⟨A3, c3, rfl, _, _⟩ := ho3.arg
  have hF3 := hF2.gotB hb3 ho3
  go_wp2_with (first | (with_reducible refine lst (by with_unfolding_all rfl) (wp_fldA1 hF3 Try.underlying47 rfl (by with_unfolding_all exact ⟨_, rfl, rfl⟩) (ds := (r.cells A B C c cb cc)) (by rw [hcl.out]; kernel_rfl) (take_all _) ?_)))
  refine (hE'.out A B C c cb cc w3 (hR.fr hF3)).mono ?_
  rintro e w4 ⟨v4, rfl, ho4, hb4⟩
  obtain ⟨A4, c4, rfl, _, _⟩ := ho4.arg
  have hF4 := hF3.gotB hb4 ho4
  clear hF1 hF2 hF3 hR2 hb3 hb4 ho3 ho4
  go_wp2_with fail
  refine (hD.out w4 (hF4.rdOld hrb)).mono ?_
  rintro e w5 ⟨A5, B5, C5, c5, cb5, cc5, rfl, hR5⟩
  have hF5 := hF4.join hR5
  simp only [RepEs, List.cons_append, List.nil_append] at hF5
  clear hR5
  go_wp2_with (first | ((with_reducible refine lst (by with_unfolding_all rfl) (wp_falloc hF5 (cs := rp0) (z := .agg (List.toArray (rp0))) rfl (by kernel_rfl) (by with_unfolding_all rfl) ?_)); intro w6 g6 hF6 hz6) | ((with_reducible refine lst (by with_unfolding_all rfl) (wp_fstA0 hF6 (by with_unfolding_all exact ⟨_, _, rfl, rfl, rfl⟩) (by rw [hcx.out]; kernel_rfl) (Rep.cells_one _ _ _ _ _ _ _) (by rw [hcx.out, hrp.out]; omega) (spl_all (by rw [hcx.out, hrp.out])) ?_)); intro w7 hF7 hz7))
  refine (hD'.out w7 (hF7.rdOld hrb)).mono ?_
  rintro e w8 ⟨A8, B8, C8, c8, cb8, cc8, rfl, hR8⟩
  have hF8 := hF7.join hR8
  simp only [RepEs, List.cons_append, List.nil_append] at hF8
  clear hF4 hF5 hF6 hF7 hR8
  go_wp2_with (first | ((with_reducible refine lst (by with_unfolding_all rfl) (wp_falloc hF8 (cs := rp0) (z := .agg (List.toArray (rp0))) rfl (by kernel_rfl) (by with_unfolding_all rfl) ?_)); intro w9 g9 hF9 hz9) | ((with_reducible refine lst (by with_unfolding_all rfl) (wp_fstA0 hF9 (by with_unfolding_all exact ⟨_, _, rfl, rfl, rfl⟩) (by rw [hcx.out]; kernel_rfl) (Rep.cells_one _ _ _ _ _ _ _) (by rw [hcx.out, hrp.out]; omega) (spl_all (by rw [hcx.out, hrp.out])) ?_)); intro w10 hF10 hz10))
  have hLl : L.length ≤ 9223372036854775807 := by
    obtain ⟨_, _, _, h1, h2⟩ := (hF10.own (i := 8) rfl).form
    unfold maxLen at h2; omega
  have hsx := sameRep_self x
  replace hcx := box hcx
  have hFd := hF10.drew
  refine wp_region_held (S := fun w' => w'.heap[g6]? = some (.cells (List.toArray (x.cells A5 B5 C5 c5 cb5 cc5)) 51 (0, 0)) ∧ w'.heap[g9]? = some (.cells (List.toArray (x.cells A8 B8 C8 c8 cb8 cc8)) 47 (0, 0))) (by kernel_rfl) ?_
  change wpAnyH _ _ _ _ _ _ _ _ (World.drew _)
  refine wpAnyH_ready (rs := [0]) (by kernel_rfl) (by simp) ?_
  refine AllReadyH.cons (by simp only [List.getElem?_toArray, List.getElem?_cons_zero]; rfl) (fun K hK => ?_) ?_
  · refine stp (by with_unfolding_all rfl) (wp_call Try.func12 rfl (by with_unfolding_all rfl) (by with_unfolding_all rfl) (by with_unfolding_all rfl) (awake_any _) ?_)
    rintro e w21 ⟨rfl, hb21⟩
    refine ⟨_, rfl, ?_⟩
    have hF21 := hFd.call hb21
    refine hK.out _ _ (⟨hF21.blk (i := 4) rfl, hF21.blk (i := 0) rfl⟩) (fun _ => ?_)
    clear hK K
    (try simp only [Act.put, List.setIfInBounds_toArray, List.set_cons_zero, List.set_cons_succ])
    refine wpAnyH_take (i := 1) (v := ?_) (by simp only [List.getElem?_toArray, List.getElem?_cons_zero, List.getElem?_cons_succ]; rfl) (by kernel_rfl) (by kernel_rfl) (by kernel_rfl) (by exact fun _ _ _ h => h) (Or.inl ⟨by with_unfolding_all rfl, ?_⟩) ⟨hF21.blk (i := 4) rfl, hF21.blk (i := 0) rfl⟩ ?_
    rotate_left
    · (intro w hSw; (try dsimp only at hSw); go_simp; try with_reducible rfl)
    (try simp only [Act.put, List.setIfInBounds_toArray, List.set_cons_zero, List.set_cons_succ])
    refine wpAnyH_take (i := 2) (v := ?_) (by simp only [List.getElem?_toArray, List.getElem?_cons_zero, List.getElem?_cons_succ]; rfl) (by kernel_rfl) (by kernel_rfl) (by kernel_rfl) (by exact fun _ _ _ h => h) (Or.inl ⟨by with_unfolding_all rfl, ?_⟩) ⟨hF21.blk (i := 4) rfl, hF21.blk (i := 0) rfl⟩ ?_
    rotate_left
    · (intro w hSw; (try dsimp only at hSw); go_simp; try with_reducible rfl)
    (try simp only [Act.put, List.setIfInBounds_toArray, List.set_cons_zero, List.set_cons_succ])
    refine wpAnyH_take (i := 3) (v := ?_) (by simp only [List.getElem?_toArray, List.getElem?_cons_zero, List.getElem?_cons_succ]; rfl) (by kernel_rfl) (by kernel_rfl) (by kernel_rfl) (by exact fun _ _ _ h => h) (Or.inl ⟨by with_unfolding_all rfl, ?_⟩) ⟨hF21.blk (i := 4) rfl, hF21.blk (i := 0) rfl⟩ ?_
    rotate_left
    · (intro w hSw; (try dsimp only at hSw); go_simp; try with_reducible rfl)
    (try simp only [Act.put, List.setIfInBounds_toArray, List.set_cons_zero, List.set_cons_succ])
    refine wpAnyH_take (i := 4) (v := ?_) (by simp only [List.getElem?_toArray, List.getElem?_cons_zero, List.getElem?_cons_succ]; rfl) (by kernel_rfl) (by kernel_rfl) (by kernel_rfl) (by exact fun _ _ _ h => h) (Or.inl ⟨by with_unfolding_all rfl, ?_⟩) ⟨hF21.blk (i := 4) rfl, hF21.blk (i := 0) rfl⟩ ?_
    rotate_left
    · (intro w hSw; (try dsimp only at hSw); go_simp; try with_reducible rfl)
    (try simp only [Act.put, List.setIfInBounds_toArray, List.set_cons_zero, List.set_cons_succ])
    refine wpAnyH_take (i := 5) (v := ?_) (by simp only [List.getElem?_toArray, List.getElem?_cons_zero, List.getElem?_cons_succ]; rfl) (by kernel_rfl) (by kernel_rfl) (by kernel_rfl) (by exact fun _ _ _ h => h) (Or.inl ⟨by with_unfolding_all rfl, ?_⟩) ⟨hF21.blk (i := 4) rfl, hF21.blk (i := 0) rfl⟩ ?_
    rotate_left
    · (intro w hSw; (try dsimp only at hSw); go_simp; try with_reducible rfl)
    (try simp only [Act.put, List.setIfInBounds_toArray, List.set_cons_zero, List.set_cons_succ])
    refine wpAnyH_take (i := 6) (v := ?_) (by simp only [List.getElem?_toArray, List.getElem?_cons_zero, List.getElem?_cons_succ]; rfl) (by kernel_rfl) (by kernel_rfl) (by kernel_rfl) (by exact fun _ _ _ h => h) (Or.inl ⟨by with_unfolding_all rfl, ?_⟩) ⟨hF21.blk (i := 4) rfl, hF21.blk (i := 0) rfl⟩ ?_
    rotate_left
    · (intro w hSw; (try dsimp only at hSw); go_simp; try with_reducible rfl)
    (try simp only [Act.put, List.setIfInBounds_toArray, List.set_cons_zero, List.set_cons_succ])
    refine wpAnyH_take (i := 7) (v := ?_) (by simp only [List.getElem?_toArray, List.getElem?_cons_zero, List.getElem?_cons_succ]; rfl) (by kernel_rfl) (by kernel_rfl) (by kernel_rfl) (by exact fun _ _ _ h => h) (Or.inl ⟨by with_unfolding_all rfl, ?_⟩) ⟨hF21.blk (i := 4) rfl, hF21.blk (i := 0) rfl⟩ ?_
    rotate_left
    · (intro w hSw; (try dsimp only at hSw); go_simp; try with_reducible rfl)
    (try simp only [Act.put, List.setIfInBounds_toArray, List.set_cons_zero, List.set_cons_succ])
    refine wpAnyH_take (i := 8) (v := ?_) (by simp only [List.getElem?_toArray, List.getElem?_cons_zero, List.getElem?_cons_succ]; rfl) (by kernel_rfl) (by kernel_rfl) (by kernel_rfl) (by exact fun _ _ _ h => h) (Or.inl ⟨by with_unfolding_all rfl, ?_⟩) ⟨hF21.blk (i := 4) rfl, hF21.blk (i := 0) rfl⟩ ?_
    rotate_left
    · (intro w hSw; (try dsimp only at hSw); go_simp; try with_reducible rfl)
    (try simp only [Act.put, List.setIfInBounds_toArray, List.set_cons_zero, List.set_cons_succ])
    refine wpAnyH_ready (rs := [9]) (by kernel_rfl) (by simp) ?_
    refine AllReadyH.cons (by simp only [List.getElem?_toArray, List.getElem?_cons_zero, List.getElem?_cons_succ]; rfl) (fun K hK => ?_) ?_
    · refine stp (by with_unfolding_all rfl) (wp_call Try.func13 rfl (by with_unfolding_all rfl) (by with_unfolding_all rfl) (by with_unfolding_all rfl) (same_any A3 A4 _ _ c3 c4 L L _ hLl (hF21.rdOwn (i := 9) rfl) (hF21.rdOwn (i := 8) rfl)) ?_)
      rintro e w22 ⟨rfl, hb22⟩
      refine ⟨_, rfl, ?_⟩
      have hF22 := hF21.call hb22
      refine hK.out _ _ (⟨hF22.blk (i := 4) rfl, hF22.blk (i := 0) rfl⟩) (fun _ => ?_)
      clear hK K
      (try simp only [Act.put, List.setIfInBounds_toArray, List.set_cons_zero, List.set_cons_succ])
      refine wpAnyH_take (i := 10) (v := ?_) (by simp only [List.getElem?_toArray, List.getElem?_cons_zero, List.getElem?_cons_succ]; rfl) (by kernel_rfl) (by kernel_rfl) (by kernel_rfl) (by exact fun _ _ _ h => h) (Or.inl ⟨by with_unfolding_all rfl, ?_⟩) ⟨hF22.blk (i := 4) rfl, hF22.blk (i := 0) rfl⟩ ?_
      rotate_left
      · (intro w hSw; (try dsimp only at hSw); go_simp; try with_reducible rfl)
      (try simp only [Act.put, List.setIfInBounds_toArray, List.set_cons_zero, List.set_cons_succ])
      refine wpAnyH_take (i := 11) (v := ?_) (by simp only [List.getElem?_toArray, List.getElem?_cons_zero, List.getElem?_cons_succ]; rfl) (by kernel_rfl) (by kernel_rfl) (by kernel_rfl) (by exact fun _ _ _ h => h) (Or.inl ⟨by with_unfolding_all rfl, ?_⟩) ⟨hF22.blk (i := 4) rfl, hF22.blk (i := 0) rfl⟩ ?_
      rotate_left
      · (intro w hSw; (try dsimp only at hSw); go_simp; try with_reducible rfl)
      (try simp only [Act.put, List.setIfInBounds_toArray, List.set_cons_zero, List.set_cons_succ])
      refine wpAnyH_take (i := 12) (v := ?_) (by simp only [List.getElem?_toArray, List.getElem?_cons_zero, List.getElem?_cons_succ]; rfl) (by kernel_rfl) (by kernel_rfl) (by kernel_rfl) (by exact fun _ _ _ h => h) (Or.inl ⟨by with_unfolding_all rfl, ?_⟩) ⟨hF22.blk (i := 4) rfl, hF22.blk (i := 0) rfl⟩ ?_
      rotate_left
      · (intro w hSw; (try dsimp only at hSw); go_simp; try with_reducible rfl)
      (try simp only [Act.put, List.setIfInBounds_toArray, List.set_cons_zero, List.set_cons_succ])
      refine wpAnyH_take (i := 13) (v := ?_) (by simp only [List.getElem?_toArray, List.getElem?_cons_zero, List.getElem?_cons_succ]; rfl) (by kernel_rfl) (by kernel_rfl) (by kernel_rfl) (by exact fun _ _ _ h => h) (Or.inl ⟨by with_unfolding_all rfl, ?_⟩) ⟨hF22.blk (i := 4) rfl, hF22.blk (i := 0) rfl⟩ ?_
      rotate_left
      · (intro w hSw; (try dsimp only at hSw); go_simp; try with_reducible rfl)
      (try simp only [Act.put, List.setIfInBounds_toArray, List.set_cons_zero, List.set_cons_succ])
      refine wpAnyH_take (i := 14) (v := ?_) (by simp only [List.getElem?_toArray, List.getElem?_cons_zero, List.getElem?_cons_succ]; rfl) (by kernel_rfl) (by kernel_rfl) (by kernel_rfl) (by exact fun _ _ _ h => h) (Or.inl ⟨by with_unfolding_all rfl, ?_⟩) ⟨hF22.blk (i := 4) rfl, hF22.blk (i := 0) rfl⟩ ?_
      rotate_left
      · (intro w hSw; (try dsimp only at hSw); go_simp; try with_reducible rfl)
      (try simp only [Act.put, List.setIfInBounds_toArray, List.set_cons_zero, List.set_cons_succ])
      refine wpAnyH_take (i := 15) (v := ?_) (by simp only [List.getElem?_toArray, List.getElem?_cons_zero, List.getElem?_cons_succ]; rfl) (by kernel_rfl) (by kernel_rfl) (by kernel_rfl) (by exact fun _ _ _ h => h) (Or.inl ⟨by with_unfolding_all rfl, ?_⟩) ⟨hF22.blk (i := 4) rfl, hF22.blk (i := 0) rfl⟩ ?_
      rotate_left
      · (intro w hSw; (try dsimp only at hSw); go_simp; try with_reducible rfl)
      (try simp only [Act.put, List.setIfInBounds_toArray, List.set_cons_zero, List.set_cons_succ])
      refine wpAnyH_take (i := 16) (v := ?_) (by simp only [List.getElem?_toArray, List.getElem?_cons_zero, List.getElem?_cons_succ]; rfl) (by kernel_rfl) (by kernel_rfl) (by kernel_rfl) (by exact fun _ _ _ h => h) (Or.inl ⟨by with_unfolding_all rfl, ?_⟩) ⟨hF22.blk (i := 4) rfl, hF22.blk (i := 0) rfl⟩ ?_
      rotate_left
      · (intro w hSw; (try dsimp only at hSw); go_simp; try with_reducible rfl)
      (try simp only [Act.put, List.setIfInBounds_toArray, List.set_cons_zero, List.set_cons_succ])
      refine wpAnyH_take (i := 17) (by simp only [List.getElem?_toArray, List.getElem?_cons_zero, List.getElem?_cons_succ]; rfl) (by kernel_rfl) (by kernel_rfl) (by kernel_rfl) (by exact fun _ _ _ h => h) (yi_fldA (by with_unfolding_all rfl) (fun _ h => h.1) Try.underlying51 rfl (by with_unfolding_all exact ⟨_, rfl, rfl⟩) (ds := (x.cells A5 B5 C5 c5 cb5 cc5)) (by rw [hcx.out.out]; kernel_rfl) (take_all _)) ⟨hF22.blk (i := 4) rfl, hF22.blk (i := 0) rfl⟩ ?_
      (try simp only [Act.put, List.setIfInBounds_toArray, List.set_cons_zero, List.set_cons_succ])
      refine wpAnyH_take (i := 19) (by simp only [List.getElem?_toArray, List.getElem?_cons_zero, List.getElem?_cons_succ]; rfl) (by kernel_rfl) (by kernel_rfl) (by kernel_rfl) (by exact fun _ _ _ h => h) (yi_fldA (by with_unfolding_all rfl) (fun _ h => h.2) Try.underlying47 rfl (by with_unfolding_all exact ⟨_, rfl, rfl⟩) (ds := (x.cells A8 B8 C8 c8 cb8 cc8)) (by rw [hcx.out.out]; kernel_rfl) (take_all _)) ⟨hF22.blk (i := 4) rfl, hF22.blk (i := 0) rfl⟩ ?_
      (try simp only [Act.put, List.setIfInBounds_toArray, List.set_cons_zero, List.set_cons_succ])
      refine wpAnyH_ready (rs := [18]) (by kernel_rfl) (by simp) ?_
      refine AllReadyH.cons (by simp only [List.getElem?_toArray, List.getElem?_cons_zero, List.getElem?_cons_succ]; rfl) (fun K hK => ?_) ?_
      · refine stp (by with_unfolding_all rfl) (wp_call Try.func22 rfl (by with_unfolding_all rfl) (by with_unfolding_all rfl) (by with_unfolding_all rfl) (fromRep_any x A5 B5 C5 c5 cb5 cc5 _ (RepRd.of hF22 (i := 5) (j := 6) (k := 7) hxd.out hx32.out rfl rfl rfl) (by omega)) ?_)
        rintro e w23 ⟨C23, d23, rfl, hj23⟩
        refine ⟨_, rfl, ?_⟩
        have hF23 := hF22.join hj23
        simp only [List.cons_append, List.nil_append] at hF23
        refine hK.out _ _ (⟨hF23.blk (i := 5) rfl, hF23.blk (i := 1) rfl⟩) (fun _ => ?_)
        clear hK K
        (try simp only [Act.put, List.setIfInBounds_toArray, List.set_cons_zero, List.set_cons_succ])
        refine wpAnyH_ready (rs := [20]) (by kernel_rfl) (by simp) ?_
        refine AllReadyH.cons (by simp only [List.getElem?_toArray, List.getElem?_cons_zero, List.getElem?_cons_succ]; rfl) (fun K hK => ?_) ?_
        · refine stp (by with_unfolding_all rfl) (wp_call Try.func18 rfl (by with_unfolding_all rfl) (by with_unfolding_all rfl) (by with_unfolding_all rfl) (sameRep_any x x A5 B5 C23 A8 B8 C8 c5 cb5 d23 c8 cb8 cc8 _ (RepRd.of hF23 (i := 6) (j := 7) (k := 0) hxd.out hx32.out rfl rfl rfl) (RepRd.of hF23 (i := 2) (j := 3) (k := 4) hxd.out hx32.out rfl rfl rfl) (by omega) (by omega) (by omega)) ?_)
          rintro e w24 ⟨rfl, hb24⟩
          refine ⟨_, rfl, ?_⟩
          have hF24 := hF23.call hb24
          refine hK.out _ _ (⟨hF24.blk (i := 5) rfl, hF24.blk (i := 1) rfl⟩) (fun _ => ?_)
          clear hK K
          (try simp only [Act.put, List.setIfInBounds_toArray, List.set_cons_zero, List.set_cons_succ])
          refine wpAnyH_take (i := 21) (v := ?_) (by simp only [List.getElem?_toArray, List.getElem?_cons_zero, List.getElem?_cons_succ]; rfl) (by kernel_rfl) (by kernel_rfl) (by kernel_rfl) (by exact fun _ _ _ h => h) (Or.inl ⟨by with_unfolding_all rfl, ?_⟩) ⟨hF24.blk (i := 5) rfl, hF24.blk (i := 1) rfl⟩ ?_
          rotate_left
          · (intro w hSw; (try dsimp only at hSw); go_simp; try with_reducible rfl)
          (try simp only [Act.put, List.setIfInBounds_toArray, List.set_cons_zero, List.set_cons_succ])
          refine wpAnyH_take (i := 22) (v := ?_) (by simp only [List.getElem?_toArray, List.getElem?_cons_zero, List.getElem?_cons_succ]; rfl) (by kernel_rfl) (by kernel_rfl) (by kernel_rfl) (by exact fun _ _ _ h => h) (Or.inl ⟨by with_unfolding_all rfl, ?_⟩) ⟨hF24.blk (i := 5) rfl, hF24.blk (i := 1) rfl⟩ ?_
          rotate_left
          · (intro w hSw; (try dsimp only at hSw); go_simp; try with_reducible rfl)
          (try simp only [Act.put, List.setIfInBounds_toArray, List.set_cons_zero, List.set_cons_succ])
          refine wpAnyH_done (by kernel_rfl) ?_ _
          go_wp2_with fail
          go_ret
          exact ⟨by rw [hsx]; rfl, hF24.below⟩
        exact AllReadyH.nil
      exact AllReadyH.nil
    exact AllReadyH.nil
  exact AllReadyH.nil
end Go.Proofs.Ytcnjnkkdidpjiaa

namespace Go.Proofs.Ytcnjnkkdidpjiaa

theorem bulk_pos {H : Type} : ∀ d : DataW H, 1 ≤ Rows.uptoBulk d
  | .lit l => by cases l <;> simp [Rows.uptoBulk]
  | .nil => by simp [Rows.uptoBulk]
  | .ptr d => by simp [Rows.uptoBulk]
  | .slice e s => by simp [Rows.uptoBulk]
  | .agg p => by simp [Rows.uptoBulk]
  | .iface t d => by simp [Rows.uptoBulk]
  | .map e => by simp [Rows.uptoBulk]
  | .held h => by simp [Rows.uptoBulk]
theorem bulk_len {H : Type} : ∀ l : List (DataW H), l.length ≤ Rows.uptoBulkAll l
  | [] => Nat.zero_le _
  | d :: r => by have h1 := bulk_pos d; have h2 := bulk_len r; simp only [Rows.uptoBulkAll, List.length_cons]; omega
theorem bulk_cap {H : Type} (e s : List (DataW H)) : e.length + s.length + 1 ≤ Rows.uptoBulk (.slice e s) := by
  have h1 := bulk_len e
  have h2 := bulk_len s
  simp only [Rows.uptoBulk]; omega
end Go.Proofs.Ytcnjnkkdidpjiaa

namespace Go.Proofs.Ytcnjnkkdidpjiaa
open Go.ChangeShapes Go.WideShapes Go.ChangeAt Go.RowKit

section
variable {H : Type} {enc : TypeId × Value → H} {P : Program} {W : World} {hd : Bool} {fuel : Nat}

theorem bulk_mem {l : List (DataW H)} {d : DataW H} (h : d ∈ l) : Rows.uptoBulk d ≤ Rows.uptoBulkAll l := by
  induction l with
  | nil => cases h
  | cons a l ih =>
    simp only [Rows.uptoBulkAll]
    rcases List.mem_cons.1 h with rfl | h
    · omega
    · have := ih h; omega
/-- A field of a struct that came in: its cells, and how they are read. -/
theorem field_in {t : TypeId} {fs : Array Field} (ht : P.underlying t = some (.struct fs)) {cs : List Value} {x : DataW H × List MemPlace} (h : DataW.trod enc P W 0 (fun _ => true) hd fuel t cs = some x)
    {i : Nat} {f : Field} (hf : fs[i]? = some f) : ∃ n y, DataW.trod enc P W 0 (fun _ => true) hd n f.type ((cs.drop f.offset).take (P.cellsOf f.type)) = some y ∧ Rows.uptoBulk y.1 + 1 ≤ Rows.uptoBulk x.1 := by
  obtain ⟨xs, n, _, hx, _, hlen, hg⟩ := DataW.trod_struct ht h
  have hi : i < fs.size := (Array.getElem?_eq_some_iff.1 hf).1
  have hy : xs[i]? = some (xs[i]'(by omega)) := List.getElem?_eq_getElem (by omega)
  refine ⟨n, _, (hg i f hf).trans hy, ?_⟩
  rw [hx]
  have := bulk_mem (d := (xs[i]'(by omega)).1) (l := xs.map (·.1)) (List.mem_map_of_mem (List.getElem_mem _))
  simp only [Rows.uptoBulk]; omega
theorem ints_in {t : TypeId} {k : IntKind} (ht : P.underlying t = some (.int k)) {cs : List Value} {x : DataW H × List MemPlace} (h : DataW.trod enc P W 0 (fun _ => true) hd fuel t cs = some x) : ∃ n, cs = [.int k n] ∧ (Lit.int k n).wf = true := by
  obtain ⟨n, h1, _, h2⟩ := DataW.trod_int ht h
  exact ⟨n, h1, h2⟩
theorem strs_in {t : TypeId} (ht : P.underlying t = some .string) {cs : List Value} {x : DataW H × List MemPlace} (h : DataW.trod enc P W 0 (fun _ => true) hd fuel t cs = some x) : ∃ s : ByteArray, cs = [.string s] ∧ s.size + 1 ≤ Rows.uptoBulk x.1 := by
  obtain ⟨s, h1, h2, _⟩ := DataW.trod_string ht h
  exact ⟨s, h1, by rw [h2]; simp [Rows.uptoBulk]⟩
theorem bools_in {t : TypeId} (ht : P.underlying t = some .bool) {cs : List Value} {x : DataW H × List MemPlace} (h : DataW.trod enc P W 0 (fun _ => true) hd fuel t cs = some x) : ∃ b : Bool, cs = [.bool b] := by
  cases fuel with
  | zero => simp [DataW.trod] at h
  | succ n =>
    unfold DataW.trod at h
    rw [ht] at h
    split at h <;> simp_all
theorem bytes_of_cells : ∀ (cs : List Value), (∀ i, i < cs.length → ∃ c : UInt8, cs[i]? = some (bv c)) → ∃ d : List UInt8, cs = d.map bv
  | [], _ => ⟨[], rfl⟩
  | c :: cs, h => by
    obtain ⟨a, ha⟩ := h 0 (by simp)
    obtain ⟨d, hd⟩ := bytes_of_cells cs (fun i hi => by
      have := h (i + 1) (by simp; omega)
      simpa using this)
    simp only [List.getElem?_cons_zero, Option.some.injEq] at ha
    exact ⟨a :: d, by rw [ha, hd]; rfl⟩
/-- An array of bytes that came in. -/
theorem arr_in {t e : TypeId} {n : Nat} (ht : P.underlying t = some (.array n e)) (he : P.underlying e = some (.int .u8)) (hc : P.cellsOf e = 1) (hcs : P.cellsOf t = n) {cs : List Value} {x : DataW H × List MemPlace} (h : DataW.trod enc P W 0 (fun _ => true) hd fuel t cs = some x) :
    ∃ d : List UInt8, cs = d.map bv ∧ d.length = n := by
  obtain ⟨xs, m, _, _, hlen, hxl, hg⟩ := DataW.trod_array ht h
  rw [hcs] at hlen
  have key : ∀ i, i < n → ∃ c : UInt8, cs[i]? = some (bv c) := fun i hi => by
    have h1 := hg i hi
    rw [hc, Nat.mul_one, List.getElem?_eq_getElem (by omega)] at h1
    obtain ⟨k, h2, h3⟩ := ints_in he h1
    obtain ⟨c, rfl⟩ := u8_of_wf h3
    refine ⟨c, ?_⟩
    have h4 : ((cs.drop i).take 1)[0]? = some (bv c) := by rw [h2]; rfl
    rw [List.getElem?_take, if_pos (by omega), List.getElem?_drop] at h4
    simpa using h4
  obtain ⟨d, hd⟩ := bytes_of_cells cs (fun i hi => key i (by omega))
  exact ⟨d, hd, by rw [hd, List.length_map] at hlen; exact hlen⟩
/-- A slice of bytes that came in, as a cell. -/
theorem sl_in {t e : TypeId} (ht : P.underlying t = some (.slice e)) (he : P.underlying e = some (.int .u8)) (hc : P.cellsOf e = 1) {cs : List Value} {x : DataW H × List MemPlace} (h : DataW.trod enc P W 0 (fun _ => true) hd fuel t cs = some x) :
    ∃ (a : Option Addr) (len cap : Nat) (l : List UInt8), cs = [.slice a len cap] ∧ len ≤ cap ∧ cap ≤ maxLen ∧ Rd W (· < W.heap.size) a 1 len (l.map bv) ∧ cap + 1 ≤ Rows.uptoBulk x.1 := by
  have hform : ∃ a len cap, cs = [.slice a len cap] := by
    rcases open_ints ht he hc h with ⟨hcs, _⟩ | ⟨x, l, c, zs, hcs, _⟩
    · exact ⟨none, 0, 0, hcs⟩
    · exact ⟨some x, l, c, hcs⟩
  obtain ⟨a, len, cap, rfl⟩ := hform
  obtain ⟨l, h1, h2, h3, h4⟩ := bytes_in (a := a) (len := len) (cap := cap) ht he hc (d := x.1) (ps := x.2) ⟨fuel, h⟩
  refine ⟨a, len, cap, l, rfl, h1, h2, h3, ?_⟩
  rcases h4 with ⟨e1, e2⟩ | ⟨es, sp, e1, e2⟩
  · rw [e1, e2]; simp [Rows.uptoBulk]
  · rw [e1, ← e2]; exact bulk_cap es sp
theorem cut_at (cs : List Value) (k m : Nat) : cs.drop k = (cs.drop k).take m ++ cs.drop (k + m) := by rw [← List.drop_drop, List.take_append_drop]
end
end Go.Proofs.Ytcnjnkkdidpjiaa

namespace Go.Proofs.Ytcnjnkkdidpjiaa
open Go.ChangeShapes Go.WideShapes Go.ChangeAt Go.RowKit

theorem flat_at {α β : Type} {f : α → List β} {sz : Nat} (hsz : 0 < sz) : ∀ {l : List α}, (∀ u ∈ l, (f u).length = sz) → ∀ {j : Nat} {v : β}, (l.flatMap f)[j]? = some v → ∃ u, l[j / sz]? = some u ∧ (f u)[j % sz]? = some v
  | [], _, j, v, h => by simp at h
  | u :: l, hl, j, v, h => by
    have hu := hl u (by simp)
    rw [List.flatMap_cons] at h
    rcases Nat.lt_or_ge j sz with hj | hj
    · rw [List.getElem?_append_left (by omega)] at h
      refine ⟨u, ?_, ?_⟩
      · rw [Nat.div_eq_of_lt hj]; rfl
      · rw [Nat.mod_eq_of_lt hj]; exact h
    · rw [List.getElem?_append_right (by omega), hu] at h
      obtain ⟨u', h1, h2⟩ := flat_at hsz (l := l) (fun x hx => hl x (by simp [hx])) h
      have e1 : j / sz = (j - sz) / sz + 1 := by rw [Nat.div_eq_sub_div hsz hj]
      have e2 : j % sz = (j - sz) % sz := by rw [Nat.mod_eq_sub_mod hj]
      exact ⟨u', by rw [e1]; exact h1, by rw [e2]; exact h2⟩
theorem flat_len {α β : Type} {f : α → List β} {sz : Nat} : ∀ {l : List α}, (∀ u ∈ l, (f u).length = sz) → (l.flatMap f).length = l.length * sz
  | [], _ => by simp
  | u :: l, hl => by
    rw [List.flatMap_cons, List.length_append, hl u (by simp), flat_len (fun x hx => hl x (by simp [hx])), List.length_cons, Nat.add_mul]; omega
theorem list_of {α : Type} {p : Nat → α → Prop} : ∀ (n : Nat), (∀ i, i < n → ∃ u, p i u) → ∃ l : List α, l.length = n ∧ ∀ i u, l[i]? = some u → p i u
  | 0, _ => ⟨[], rfl, fun i u h => by simp at h⟩
  | n + 1, h => by
    obtain ⟨l, hl, hp⟩ := list_of n (fun i hi => h i (by omega))
    obtain ⟨u, hu⟩ := h n (by omega)
    refine ⟨l ++ [u], by simp [hl], fun i x hx => ?_⟩
    rcases Nat.lt_or_ge i n with hi | hi
    · rw [List.getElem?_append_left (by omega)] at hx; exact hp i x hx
    · rw [List.getElem?_append_right (by omega)] at hx
      match hk : i - l.length, hx with
      | 0, hx => injection hx with hx; subst hx; obtain rfl : i = n := by omega
                 exact hu
      | k + 1, hx => simp at hx

section
variable {H : Type} {enc : TypeId × Value → H} {P : Program} {W : World} {hd : Bool} {fuel : Nat}
theorem slG_in {α : Type} {t e : TypeId} {sz : Nat} (ht : P.underlying t = some (.slice e)) (hc : P.cellsOf e = sz) (hpos : 0 < sz) {f : α → List Value} (hel : ∀ n cs x, DataW.trod enc P W 0 (fun _ => true) hd n e cs = some x → ∃ u : α, cs = f u ∧ (f u).length = sz)
    {cs : List Value} {x : DataW H × List MemPlace} (h : DataW.trod enc P W 0 (fun _ => true) hd fuel t cs = some x) :
    ∃ (A : Option Addr) (len cap : Nat) (l : List α), cs = [.slice A len cap] ∧ len ≤ cap ∧ cap ≤ maxLen ∧ l.length = len ∧ Rd W (· < W.heap.size) A sz len (l.flatMap f) ∧ (∀ u ∈ l, (f u).length = sz) ∧ cap + 1 ≤ Rows.uptoBulk x.1 := by
  rcases DataW.trod_slice ht h with ⟨hcs, hx⟩ | ⟨a, len, cap, es, rest, n, _, hcs, hx, _, hl, hm, hlen, hat, hsp, _⟩
  · exact ⟨none, 0, 0, [], hcs, Nat.le_refl _, Nat.zero_le _, rfl, Rd.nil _ _ _ _, fun u hu => by simp at hu, by rw [hx]; simp [Rows.uptoBulk]⟩
  · have key : ∀ i, i < len → ∃ u : α, W.cells? 0 (a.add (i * sz)) sz = some (f u) ∧ (f u).length = sz := fun i hi => by
      have h1 := hat i hi
      rw [hc, List.getElem?_eq_getElem (by omega), Option.bind_eq_some_iff] at h1
      obtain ⟨cs', h2, h3⟩ := h1
      obtain ⟨u, rfl, h4⟩ := hel _ _ _ h3
      exact ⟨u, h2, h4⟩
    obtain ⟨l, hll, hp⟩ := list_of len key
    have hone : ∀ u ∈ l, (f u).length = sz := fun u hu => by
      obtain ⟨i, hi⟩ := List.mem_iff_getElem?.1 hu
      exact (hp i u hi).2
    have hcell : ∀ j v, (l.flatMap f)[j]? = some v → W.cell? (a.add j) = some v := fun j v hv => by
      obtain ⟨u, h1, h2⟩ := flat_at hpos hone hv
      obtain ⟨h3, _⟩ := hp _ u h1
      obtain ⟨_, _, h5⟩ := World.cells?_some h3
      have h6 := h5 (j % sz) (Nat.mod_lt _ hpos)
      rw [add_add, Nat.mul_comm, Nat.div_add_mod] at h6
      rw [h6]; exact h2
    have hrest := (hsp rfl).1
    refine ⟨some a, len, cap, l, hcs, hl, hm, hll, ⟨by rw [flat_len hone, hll], fun _ => rfl, fun h0 => ?_, hcell⟩, hone, ?_⟩
    · have hlt : 0 < (l.flatMap f).length := by rw [flat_len hone, hll]; exact Nat.mul_pos h0 hpos
      have := hcell 0 _ (List.getElem?_eq_getElem hlt)
      have hb := World.block_lt_of_cell? W _ this
      have e : (a.add 0).block = a.block := by unfold Addr.add; split <;> rfl
      rw [e] at hb
      exact hb
    · rw [hx]
      have := bulk_cap (es.map (·.1)) (rest.map (·.1))
      simp only [List.length_map] at this
      show cap + 1 ≤ Rows.uptoBulk (DataW.slice _ _)
      omega
end
end Go.Proofs.Ytcnjnkkdidpjiaa
