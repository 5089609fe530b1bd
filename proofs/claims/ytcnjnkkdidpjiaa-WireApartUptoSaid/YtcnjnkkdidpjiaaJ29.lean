/-
  WireRequests: the law's walk.
-/
import Derived.Test.YtcnjnkkdidpjiaaJ25
import Derived.Test.YtcnjnkkdidpjiaaJ26
import Derived.Test.YtcnjnkkdidpjiaaJ27
import Derived.Test.YtcnjnkkdidpjiaaJ28
import Derived.Test.YtcnjnkkdidpjiaaJ23
namespace Go.Proofs.Ytcnjnkkdidpjiaa
open Go.RowKit

theorem sameReq_self (a : Req) : sameReq a a = true := by simp [sameReq]
theorem dec_len (l : List UInt8) : ((decReq l).getD Req.zero).d.length = 32 := by
  cases h : decReq l with
  | none => show zeros.length = 32; simp [zeros]
  | some r => exact (dec_out h).2.2
theorem dec_body (l : List UInt8) : ((decReq l).getD Req.zero).body.length ≤ 1048576 := by
  cases h : decReq l with
  | none => show (0 : Nat) ≤ _; omega
  | some r => exact (reqOk_iff (dec_out h).1).2.2.2.2.1

set_option maxRecDepth 20000 in
set_option maxHeartbeats 3200000 in
theorem wireRequests_any (r : Req) (A : Option Addr) (c : Nat) (B : Option Addr) (n m : Nat) (l : List UInt8) (w : World) (hd : r.d.length = 32) (hr : Rd w (· < w.heap.size) A 1 r.body.length (r.body.map bv)) (hm : r.body.length ≤ 140737488355000)
    (hn : n ≤ 140737488355000) (hnm : n ≤ m) (hrb : Rd w (· < w.heap.size) B 1 n (l.map bv)) :
    Calls Try.prog 3 #[.agg (r.cells A c).toArray, .slice B n m] w fun e w' => e = .returned (.bool true) ∧ Below w.heap.size w w' := by
  have hF0 := Fr.nil w
  have hcl := Req.cells_len r A c hd
  replace hcl := box hcl
  have hrq := rq0_len
  replace hrq := box hrq
  have hE := box (fun A c w h => encReq_any r A c w hd h)
  have hE' := box (fun A c w h => encReqF_any r A c w hd h)
  generalize (if reqOk r = true then reqB r else []) = L at *
  generalize (if reqOk r = true then (0 : Int) else 1) = E at *
  have hD := box (fun w h => decReq_any B n m l w hn hnm h)
  have hD' := box (fun w h => decReqF_any B n m l w hn hnm h)
  have hxd := dec_len l
  have hxb := dec_body l
  unfold ToldReq at hD hD'
  generalize (decReq l).getD Req.zero = x at *
  generalize (if (decReq l).isSome = true then (0 : Int) else 10) = E2 at *
  have hcx := box (fun A c => Req.cells_len x A c hxd)
  go_enter Try.func3, Try.ntmps3
  go_wp2_with (first | ((with_reducible refine lst (by with_unfolding_all rfl) (wp_fbox hF0 (cs := (r.cells A c)) rfl (by with_unfolding_all rfl) (by with_unfolding_all rfl) ?_)); intro w1 g1 hF1 hz1) | (with_reducible refine lst (by with_unfolding_all rfl) (wp_fldA0 hF1 Try.underlying25 rfl (by with_unfolding_all exact ⟨_, rfl, rfl⟩) (ds := (r.cells A c)) (by rw [hcl.out]; kernel_rfl) (take_all _) ?_)))
  refine (toReq_any r A c w1 hd (hF1.rdOld hr) hm).mono ?_
  rintro e w2 ⟨A2, c2, rfl, ho2, hb2⟩
  have hF2 := hF1.call hb2
  go_wp2_with fail
  refine (hE.out A2 c2 w2 (ho2.rd.mono fun k hk => hk.2)).mono ?_
  rintro e w3 ⟨v3, rfl, ho3, hb3⟩
  obtain ⟨A3, c3, rfl, _, _⟩ := ho3.arg
  have hF3 := hF2.gotB hb3 ho3
  go_wp2_with (first | (with_reducible refine lst (by with_unfolding_all rfl) (wp_fldA1 hF3 Try.underlying25 rfl (by with_unfolding_all exact ⟨_, rfl, rfl⟩) (ds := (r.cells A c)) (by rw [hcl.out]; kernel_rfl) (take_all _) ?_)))
  refine (hE'.out A c w3 (hF3.rdOld hr)).mono ?_
  rintro e w4 ⟨v4, rfl, ho4, hb4⟩
  obtain ⟨A4, c4, rfl, _, _⟩ := ho4.arg
  have hF4 := hF3.gotB hb4 ho4
  clear hF1 hF2 hF3 hb2 hb3 hb4 ho2 ho3 ho4
  go_wp2_with fail
  refine (hD.out w4 (hF4.rdOld hrb)).mono ?_
  rintro e w5 ⟨A5, c5, rfl, ho5, hb5⟩
  have hF5 := hF4.gotB hb5 ho5
  go_wp2_with (first | ((with_reducible refine lst (by with_unfolding_all rfl) (wp_falloc hF5 (cs := rq0) (z := .agg (List.toArray (rq0))) rfl (by kernel_rfl) (by with_unfolding_all rfl) ?_)); intro w6 g6 hF6 hz6) | ((with_reducible refine lst (by with_unfolding_all rfl) (wp_fstA0 hF6 (by with_unfolding_all exact ⟨_, _, rfl, rfl, rfl⟩) (by rw [hcx.out]; kernel_rfl) (Req.cells_one _ _ _) (by rw [hcx.out, hrq.out]; omega) (spl_all (by rw [hcx.out, hrq.out])) ?_)); intro w7 hF7 hz7))
  refine (hD'.out w7 (hF7.rdOld hrb)).mono ?_
  rintro e w8 ⟨A8, c8, rfl, ho8, hb8⟩
  have hF8 := hF7.gotB hb8 ho8
  clear hF4 hF5 hF6 hF7 hb5 ho5 hb8 ho8
  go_wp2_with (first | ((with_reducible refine lst (by with_unfolding_all rfl) (wp_falloc hF8 (cs := rq0) (z := .agg (List.toArray (rq0))) rfl (by kernel_rfl) (by with_unfolding_all rfl) ?_)); intro w9 g9 hF9 hz9) | ((with_reducible refine lst (by with_unfolding_all rfl) (wp_fstA0 hF9 (by with_unfolding_all exact ⟨_, _, rfl, rfl, rfl⟩) (by rw [hcx.out]; kernel_rfl) (Req.cells_one _ _ _) (by rw [hcx.out, hrq.out]; omega) (spl_all (by rw [hcx.out, hrq.out])) ?_)); intro w10 hF10 hz10))
  have hLl : L.length ≤ 9223372036854775807 := by
    obtain ⟨_, _, _, h1, h2⟩ := (hF10.own (i := 4) rfl).form
    unfold maxLen at h2; omega
  have hsx := sameReq_self x
  replace hcx := box hcx
  have hFd := hF10.drew
  refine wp_region_held (S := fun w' => w'.heap[g6]? = some (.cells (List.toArray (x.cells A5 c5)) 31 (0, 0)) ∧ w'.heap[g9]? = some (.cells (List.toArray (x.cells A8 c8)) 25 (0, 0))) (by kernel_rfl) ?_
  change wpAnyH _ _ _ _ _ _ _ _ (World.drew _)
  refine wpAnyH_ready (rs := [0]) (by kernel_rfl) (by simp) ?_
  refine AllReadyH.cons (by simp only [List.getElem?_toArray, List.getElem?_cons_zero]; rfl) (fun K hK => ?_) ?_
  · refine stp (by with_unfolding_all rfl) (wp_call Try.func12 rfl (by with_unfolding_all rfl) (by with_unfolding_all rfl) (by with_unfolding_all rfl) (awake_any _) ?_)
    rintro e w21 ⟨rfl, hb21⟩
    refine ⟨_, rfl, ?_⟩
    have hF21 := hFd.call hb21
    refine hK.out _ _ (⟨hF21.blk (i := 2) rfl, hF21.blk (i := 0) rfl⟩) (fun _ => ?_)
    clear hK K
    (try simp only [Act.put, List.setIfInBounds_toArray, List.set_cons_zero, List.set_cons_succ])
    refine wpAnyH_take (i := 1) (v := ?_) (by simp only [List.getElem?_toArray, List.getElem?_cons_zero, List.getElem?_cons_succ]; rfl) (by kernel_rfl) (by kernel_rfl) (by kernel_rfl) (by exact fun _ _ _ h => h) (Or.inl ⟨by with_unfolding_all rfl, ?_⟩) ⟨hF21.blk (i := 2) rfl, hF21.blk (i := 0) rfl⟩ ?_
    rotate_left
    · (intro w hSw; (try dsimp only at hSw); go_simp; try with_reducible rfl)
    (try simp only [Act.put, List.setIfInBounds_toArray, List.set_cons_zero, List.set_cons_succ])
    refine wpAnyH_take (i := 2) (v := ?_) (by simp only [List.getElem?_toArray, List.getElem?_cons_zero, List.getElem?_cons_succ]; rfl) (by kernel_rfl) (by kernel_rfl) (by kernel_rfl) (by exact fun _ _ _ h => h) (Or.inl ⟨by with_unfolding_all rfl, ?_⟩) ⟨hF21.blk (i := 2) rfl, hF21.blk (i := 0) rfl⟩ ?_
    rotate_left
    · (intro w hSw; (try dsimp only at hSw); go_simp; try with_reducible rfl)
    (try simp only [Act.put, List.setIfInBounds_toArray, List.set_cons_zero, List.set_cons_succ])
    refine wpAnyH_take (i := 3) (v := ?_) (by simp only [List.getElem?_toArray, List.getElem?_cons_zero, List.getElem?_cons_succ]; rfl) (by kernel_rfl) (by kernel_rfl) (by kernel_rfl) (by exact fun _ _ _ h => h) (Or.inl ⟨by with_unfolding_all rfl, ?_⟩) ⟨hF21.blk (i := 2) rfl, hF21.blk (i := 0) rfl⟩ ?_
    rotate_left
    · (intro w hSw; (try dsimp only at hSw); go_simp; try with_reducible rfl)
    (try simp only [Act.put, List.setIfInBounds_toArray, List.set_cons_zero, List.set_cons_succ])
    refine wpAnyH_take (i := 4) (v := ?_) (by simp only [List.getElem?_toArray, List.getElem?_cons_zero, List.getElem?_cons_succ]; rfl) (by kernel_rfl) (by kernel_rfl) (by kernel_rfl) (by exact fun _ _ _ h => h) (Or.inl ⟨by with_unfolding_all rfl, ?_⟩) ⟨hF21.blk (i := 2) rfl, hF21.blk (i := 0) rfl⟩ ?_
    rotate_left
    · (intro w hSw; (try dsimp only at hSw); go_simp; try with_reducible rfl)
    (try simp only [Act.put, List.setIfInBounds_toArray, List.set_cons_zero, List.set_cons_succ])
    refine wpAnyH_take (i := 5) (v := ?_) (by simp only [List.getElem?_toArray, List.getElem?_cons_zero, List.getElem?_cons_succ]; rfl) (by kernel_rfl) (by kernel_rfl) (by kernel_rfl) (by exact fun _ _ _ h => h) (Or.inl ⟨by with_unfolding_all rfl, ?_⟩) ⟨hF21.blk (i := 2) rfl, hF21.blk (i := 0) rfl⟩ ?_
    rotate_left
    · (intro w hSw; (try dsimp only at hSw); go_simp; try with_reducible rfl)
    (try simp only [Act.put, List.setIfInBounds_toArray, List.set_cons_zero, List.set_cons_succ])
    refine wpAnyH_take (i := 6) (v := ?_) (by simp only [List.getElem?_toArray, List.getElem?_cons_zero, List.getElem?_cons_succ]; rfl) (by kernel_rfl) (by kernel_rfl) (by kernel_rfl) (by exact fun _ _ _ h => h) (Or.inl ⟨by with_unfolding_all rfl, ?_⟩) ⟨hF21.blk (i := 2) rfl, hF21.blk (i := 0) rfl⟩ ?_
    rotate_left
    · (intro w hSw; (try dsimp only at hSw); go_simp; try with_reducible rfl)
    (try simp only [Act.put, List.setIfInBounds_toArray, List.set_cons_zero, List.set_cons_succ])
    refine wpAnyH_take (i := 7) (v := ?_) (by simp only [List.getElem?_toArray, List.getElem?_cons_zero, List.getElem?_cons_succ]; rfl) (by kernel_rfl) (by kernel_rfl) (by kernel_rfl) (by exact fun _ _ _ h => h) (Or.inl ⟨by with_unfolding_all rfl, ?_⟩) ⟨hF21.blk (i := 2) rfl, hF21.blk (i := 0) rfl⟩ ?_
    rotate_left
    · (intro w hSw; (try dsimp only at hSw); go_simp; try with_reducible rfl)
    (try simp only [Act.put, List.setIfInBounds_toArray, List.set_cons_zero, List.set_cons_succ])
    refine wpAnyH_take (i := 8) (v := ?_) (by simp only [List.getElem?_toArray, List.getElem?_cons_zero, List.getElem?_cons_succ]; rfl) (by kernel_rfl) (by kernel_rfl) (by kernel_rfl) (by exact fun _ _ _ h => h) (Or.inl ⟨by with_unfolding_all rfl, ?_⟩) ⟨hF21.blk (i := 2) rfl, hF21.blk (i := 0) rfl⟩ ?_
    rotate_left
    · (intro w hSw; (try dsimp only at hSw); go_simp; try with_reducible rfl)
    (try simp only [Act.put, List.setIfInBounds_toArray, List.set_cons_zero, List.set_cons_succ])
    refine wpAnyH_ready (rs := [9]) (by kernel_rfl) (by simp) ?_
    refine AllReadyH.cons (by simp only [List.getElem?_toArray, List.getElem?_cons_zero, List.getElem?_cons_succ]; rfl) (fun K hK => ?_) ?_
    · refine stp (by with_unfolding_all rfl) (wp_call Try.func13 rfl (by with_unfolding_all rfl) (by with_unfolding_all rfl) (by with_unfolding_all rfl) (same_any A3 A4 _ _ c3 c4 L L _ hLl (hF21.rdOwn (i := 5) rfl) (hF21.rdOwn (i := 4) rfl)) ?_)
      rintro e w22 ⟨rfl, hb22⟩
      refine ⟨_, rfl, ?_⟩
      have hF22 := hF21.call hb22
      refine hK.out _ _ (⟨hF22.blk (i := 2) rfl, hF22.blk (i := 0) rfl⟩) (fun _ => ?_)
      clear hK K
      (try simp only [Act.put, List.setIfInBounds_toArray, List.set_cons_zero, List.set_cons_succ])
      refine wpAnyH_take (i := 10) (v := ?_) (by simp only [List.getElem?_toArray, List.getElem?_cons_zero, List.getElem?_cons_succ]; rfl) (by kernel_rfl) (by kernel_rfl) (by kernel_rfl) (by exact fun _ _ _ h => h) (Or.inl ⟨by with_unfolding_all rfl, ?_⟩) ⟨hF22.blk (i := 2) rfl, hF22.blk (i := 0) rfl⟩ ?_
      rotate_left
      · (intro w hSw; (try dsimp only at hSw); go_simp; try with_reducible rfl)
      (try simp only [Act.put, List.setIfInBounds_toArray, List.set_cons_zero, List.set_cons_succ])
      refine wpAnyH_take (i := 11) (v := ?_) (by simp only [List.getElem?_toArray, List.getElem?_cons_zero, List.getElem?_cons_succ]; rfl) (by kernel_rfl) (by kernel_rfl) (by kernel_rfl) (by exact fun _ _ _ h => h) (Or.inl ⟨by with_unfolding_all rfl, ?_⟩) ⟨hF22.blk (i := 2) rfl, hF22.blk (i := 0) rfl⟩ ?_
      rotate_left
      · (intro w hSw; (try dsimp only at hSw); go_simp; try with_reducible rfl)
      (try simp only [Act.put, List.setIfInBounds_toArray, List.set_cons_zero, List.set_cons_succ])
      refine wpAnyH_take (i := 12) (v := ?_) (by simp only [List.getElem?_toArray, List.getElem?_cons_zero, List.getElem?_cons_succ]; rfl) (by kernel_rfl) (by kernel_rfl) (by kernel_rfl) (by exact fun _ _ _ h => h) (Or.inl ⟨by with_unfolding_all rfl, ?_⟩) ⟨hF22.blk (i := 2) rfl, hF22.blk (i := 0) rfl⟩ ?_
      rotate_left
      · (intro w hSw; (try dsimp only at hSw); go_simp; try with_reducible rfl)
      (try simp only [Act.put, List.setIfInBounds_toArray, List.set_cons_zero, List.set_cons_succ])
      refine wpAnyH_take (i := 13) (v := ?_) (by simp only [List.getElem?_toArray, List.getElem?_cons_zero, List.getElem?_cons_succ]; rfl) (by kernel_rfl) (by kernel_rfl) (by kernel_rfl) (by exact fun _ _ _ h => h) (Or.inl ⟨by with_unfolding_all rfl, ?_⟩) ⟨hF22.blk (i := 2) rfl, hF22.blk (i := 0) rfl⟩ ?_
      rotate_left
      · (intro w hSw; (try dsimp only at hSw); go_simp; try with_reducible rfl)
      (try simp only [Act.put, List.setIfInBounds_toArray, List.set_cons_zero, List.set_cons_succ])
      refine wpAnyH_take (i := 14) (v := ?_) (by simp only [List.getElem?_toArray, List.getElem?_cons_zero, List.getElem?_cons_succ]; rfl) (by kernel_rfl) (by kernel_rfl) (by kernel_rfl) (by exact fun _ _ _ h => h) (Or.inl ⟨by with_unfolding_all rfl, ?_⟩) ⟨hF22.blk (i := 2) rfl, hF22.blk (i := 0) rfl⟩ ?_
      rotate_left
      · (intro w hSw; (try dsimp only at hSw); go_simp; try with_reducible rfl)
      (try simp only [Act.put, List.setIfInBounds_toArray, List.set_cons_zero, List.set_cons_succ])
      refine wpAnyH_take (i := 15) (v := ?_) (by simp only [List.getElem?_toArray, List.getElem?_cons_zero, List.getElem?_cons_succ]; rfl) (by kernel_rfl) (by kernel_rfl) (by kernel_rfl) (by exact fun _ _ _ h => h) (Or.inl ⟨by with_unfolding_all rfl, ?_⟩) ⟨hF22.blk (i := 2) rfl, hF22.blk (i := 0) rfl⟩ ?_
      rotate_left
      · (intro w hSw; (try dsimp only at hSw); go_simp; try with_reducible rfl)
      (try simp only [Act.put, List.setIfInBounds_toArray, List.set_cons_zero, List.set_cons_succ])
      refine wpAnyH_take (i := 16) (v := ?_) (by simp only [List.getElem?_toArray, List.getElem?_cons_zero, List.getElem?_cons_succ]; rfl) (by kernel_rfl) (by kernel_rfl) (by kernel_rfl) (by exact fun _ _ _ h => h) (Or.inl ⟨by with_unfolding_all rfl, ?_⟩) ⟨hF22.blk (i := 2) rfl, hF22.blk (i := 0) rfl⟩ ?_
      rotate_left
      · (intro w hSw; (try dsimp only at hSw); go_simp; try with_reducible rfl)
      (try simp only [Act.put, List.setIfInBounds_toArray, List.set_cons_zero, List.set_cons_succ])
      refine wpAnyH_take (i := 17) (by simp only [List.getElem?_toArray, List.getElem?_cons_zero, List.getElem?_cons_succ]; rfl) (by kernel_rfl) (by kernel_rfl) (by kernel_rfl) (by exact fun _ _ _ h => h) (yi_fldA (by with_unfolding_all rfl) (fun _ h => h.1) Try.underlying31 rfl (by with_unfolding_all exact ⟨_, rfl, rfl⟩) (ds := (x.cells A5 c5)) (by rw [hcx.out.out]; kernel_rfl) (take_all _)) ⟨hF22.blk (i := 2) rfl, hF22.blk (i := 0) rfl⟩ ?_
      (try simp only [Act.put, List.setIfInBounds_toArray, List.set_cons_zero, List.set_cons_succ])
      refine wpAnyH_take (i := 19) (by simp only [List.getElem?_toArray, List.getElem?_cons_zero, List.getElem?_cons_succ]; rfl) (by kernel_rfl) (by kernel_rfl) (by kernel_rfl) (by exact fun _ _ _ h => h) (yi_fldA (by with_unfolding_all rfl) (fun _ h => h.2) Try.underlying25 rfl (by with_unfolding_all exact ⟨_, rfl, rfl⟩) (ds := (x.cells A8 c8)) (by rw [hcx.out.out]; kernel_rfl) (take_all _)) ⟨hF22.blk (i := 2) rfl, hF22.blk (i := 0) rfl⟩ ?_
      (try simp only [Act.put, List.setIfInBounds_toArray, List.set_cons_zero, List.set_cons_succ])
      refine wpAnyH_ready (rs := [18]) (by kernel_rfl) (by simp) ?_
      refine AllReadyH.cons (by simp only [List.getElem?_toArray, List.getElem?_cons_zero, List.getElem?_cons_succ]; rfl) (fun K hK => ?_) ?_
      · refine stp (by with_unfolding_all rfl) (wp_call Try.func15 rfl (by with_unfolding_all rfl) (by with_unfolding_all rfl) (by with_unfolding_all rfl) (fromReq_any x A5 c5 _ hxd) ?_)
        rintro e w23 ⟨rfl, hb23⟩
        refine ⟨_, rfl, ?_⟩
        have hF23 := hF22.call hb23
        refine hK.out _ _ (⟨hF23.blk (i := 2) rfl, hF23.blk (i := 0) rfl⟩) (fun _ => ?_)
        clear hK K
        (try simp only [Act.put, List.setIfInBounds_toArray, List.set_cons_zero, List.set_cons_succ])
        refine wpAnyH_ready (rs := [20]) (by kernel_rfl) (by simp) ?_
        refine AllReadyH.cons (by simp only [List.getElem?_toArray, List.getElem?_cons_zero, List.getElem?_cons_succ]; rfl) (fun K hK => ?_) ?_
        · refine stp (by with_unfolding_all rfl) (wp_call Try.func14 rfl (by with_unfolding_all rfl) (by with_unfolding_all rfl) (by with_unfolding_all rfl) (sameReq_any x x A5 A8 c5 c8 _ hxd hxd (hF23.rdOwn (i := 3) rfl) (hF23.rdOwn (i := 1) rfl) (by omega)) ?_)
          rintro e w24 ⟨rfl, hb24⟩
          refine ⟨_, rfl, ?_⟩
          have hF24 := hF23.call hb24
          refine hK.out _ _ (⟨hF24.blk (i := 2) rfl, hF24.blk (i := 0) rfl⟩) (fun _ => ?_)
          clear hK K
          (try simp only [Act.put, List.setIfInBounds_toArray, List.set_cons_zero, List.set_cons_succ])
          refine wpAnyH_take (i := 21) (v := ?_) (by simp only [List.getElem?_toArray, List.getElem?_cons_zero, List.getElem?_cons_succ]; rfl) (by kernel_rfl) (by kernel_rfl) (by kernel_rfl) (by exact fun _ _ _ h => h) (Or.inl ⟨by with_unfolding_all rfl, ?_⟩) ⟨hF24.blk (i := 2) rfl, hF24.blk (i := 0) rfl⟩ ?_
          rotate_left
          · (intro w hSw; (try dsimp only at hSw); go_simp; try with_reducible rfl)
          (try simp only [Act.put, List.setIfInBounds_toArray, List.set_cons_zero, List.set_cons_succ])
          refine wpAnyH_take (i := 22) (v := ?_) (by simp only [List.getElem?_toArray, List.getElem?_cons_zero, List.getElem?_cons_succ]; rfl) (by kernel_rfl) (by kernel_rfl) (by kernel_rfl) (by exact fun _ _ _ h => h) (Or.inl ⟨by with_unfolding_all rfl, ?_⟩) ⟨hF24.blk (i := 2) rfl, hF24.blk (i := 0) rfl⟩ ?_
          rotate_left
          · (intro w hSw; (try dsimp only at hSw); go_simp; try with_reducible rfl)
          (try simp only [Act.put, List.setIfInBounds_toArray, List.set_cons_zero, List.set_cons_succ])
          refine wpAnyH_done (by kernel_rfl) ?_ _
          go_wp2_with fail
          go_ret
          exact ⟨by rw [hsx]; rfl, hF24.below⟩
        exact AllReadyH.nil
      exact AllReadyH.nil
    exact AllReadyH.nil
  exact AllReadyH.nil
end Go.Proofs.Ytcnjnkkdidpjiaa
