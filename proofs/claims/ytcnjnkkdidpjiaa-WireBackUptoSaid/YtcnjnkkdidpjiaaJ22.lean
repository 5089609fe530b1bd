/-
  Layer 19: the walk of EncodeRequest.
  Layer 19: the walk of EncodeRequest, where there are no bytes.
-/
import Derived.Test.YtcnjnkkdidpjiaaJ06
import Derived.Test.YtcnjnkkdidpjiaaJ07
import Derived.Deep.DeepCutAuto
namespace Go.Proofs.Ytcnjnkkdidpjiaa
open Go.RowKit

set_option maxRecDepth 20000 in
set_option maxHeartbeats 400000 in
theorem encReq_good (r : Req) (A : Option Addr) (c : Nat) (w : World) (hd : r.d.length = 32) (hr : Rd w (· < w.heap.size) A 1 r.body.length (r.body.map bv)) (hok : reqOk r = true) :
    Calls Try.prog 7 #[.agg (r.cells A c).toArray] w (Told w 5 (reqB r) 0) := by
  obtain ⟨op, repo, word, d, id, at_, n, body⟩ := r
  simp only [Req.cells] at *
  obtain ⟨h1, h2, h3, h4, h5, h6, h7, h8⟩ := reqOk_iff hok
  simp only [] at h1 h2 h3 h4 h5 h6 h7 h8
  have hfit : [id, at_, n].all numB = true := by simp [h6, h7, h8]
  have h6' := numB_iff h6
  have h7' := numB_iff h7
  have h8' := numB_iff h8
  have hdl : (d.map bv).length = 32 := by simpa using hd
  have hq := rqL_at (a := (Value.int .i64) op) (b := .string repo) (c := .string word) (e := (Value.int .i64) id) (f := (Value.int .i64) at_) (g := (Value.int .i64) n) (h := .slice A body.length c) hdl
  replace hq := box hq
  replace hfit := box hfit
  replace hdl := box hdl
  clear hok h6 h7 h8
  have b1 : decide (op < 1) = false := by simp; omega
  have b2 : decide (21 ≤ op) = false := by simp; omega
  have b3 : decide (128 < (repo.size : Int)) = false := by simp; omega
  have b4 : decide (128 < (word.size : Int)) = false := by simp; omega
  have b5 : decide (1048576 < (body.length : Int)) = false := by simp; omega
  have hF0 := Fr.nil w
  go_enter Try.func7, Try.ntmps7
  go_wp2_with (first | ((with_reducible refine lst (by with_unfolding_all rfl) (wp_fbox hF0 (cs := (rqL (.int .i64 op) (.string repo) (.string word) (d.map bv) (.int .i64 id) (.int .i64 at_) (.int .i64 n) (.slice A body.length c))) rfl (by with_unfolding_all rfl) (by with_unfolding_all rfl) ?_)); intro w1 g1 hF1 hz1) | (with_reducible refine lst (by with_unfolding_all rfl) (wp_fld0 hF1 Try.underlying3 rfl (by with_unfolding_all exact ⟨_, rfl, rfl⟩) (by first | with_unfolding_all rfl | exact hq.out.1 | exact hq.out.2.1 | exact hq.out.2.2.1) ?_)) | (with_reducible refine lst (by with_unfolding_all rfl) (wp_fld0 hF1 Try.underlying9 rfl (by with_unfolding_all exact ⟨_, rfl, rfl⟩) (by first | with_unfolding_all rfl | assumption) ?_)) | ((with_reducible refine lst (by with_unfolding_all rfl) (wp_fbsl T_int hF1 (vs := [.int .i64 id, .int .i64 at_, .int .i64 n]) (by with_unfolding_all rfl) (by with_unfolding_all rfl) (by with_unfolding_all rfl) (by decide) (by simp [Value.cells]) ?_)); intro w2 g2 hF2 hz2))
  refine (fits_any _ 3 3 [id, at_, n] w2 (by omega) hF2.rdOwn0).mono ?_
  rintro e w' ⟨rfl, rfl⟩
  rw [hfit.out]
  go_upto_region 3 with (first | (with_reducible refine lst (by with_unfolding_all rfl) (wp_fld1 hF2 Try.underlying23 rfl (by with_unfolding_all exact ⟨_, rfl, rfl⟩) hq.out.2.2.2 ?_)))
  obtain ⟨x, hx⟩ := byte_of (q := op) (by omega) (by omega)
  subst hx
  have hxw : IntKind.u8.wrap (x.toNat : Int) = (x.toNat : Int) := IntWalk.u8_in _ (by omega)
  have hT := textL_len repo.data.toList (by rw [str_len]; omega)
  rw [str_len] at hT
  go_cut [4] (fun s4 wx => ∃ v, s4 = v ∧ Fr [] w wx [Ent.bytes w.heap.size 5 v ([x] ++ textL repo.data.toList), .blk g1 31 (rqL (.int .i64 (x.toNat : Int)) (.string repo) (.string word) (d.map bv) (.int .i64 id) (.int .i64 at_) (.int .i64 n) (.slice A body.length c))])
  case first =>
    have hF2d := hF2.drew
    refine wp_region_held (S := fun w' => w'.heap[g1]? = some (.cells (List.toArray (rqL (.int .i64 (x.toNat : Int)) (.string repo) (.string word) (d.map bv) (.int .i64 id) (.int .i64 at_) (.int .i64 n) (.slice A body.length c))) 31 (0, 0))) (by kernel_rfl) ?_
    change wpAnyH _ _ _ _ _ _ _ _ (World.drew _)
    refine wpAnyH_take (i := 0) (v := ?_) (by simp only [List.getElem?_toArray, List.getElem?_cons_zero]; rfl) (by kernel_rfl) (by kernel_rfl) (by kernel_rfl) (by exact fun _ _ _ h => h) (Or.inl ⟨by with_unfolding_all rfl, ?_⟩) (hF2d.blk (i := 1) rfl) ?_
    rotate_left
    · (intro w hSw; (try dsimp only at hSw); go_simp; try with_reducible rfl)
    (try simp only [Act.put, List.setIfInBounds_toArray, List.set_cons_zero, List.set_cons_succ])
    refine wpAnyH_take (i := 1) (by simp only [List.getElem?_toArray, List.getElem?_cons_zero, List.getElem?_cons_succ]; rfl) (by kernel_rfl) (by kernel_rfl) (by kernel_rfl) (by exact fun _ _ _ h => h) (yi_fld (by with_unfolding_all rfl) (fun _ h => h) Try.underlying3 rfl (by with_unfolding_all exact ⟨_, rfl, rfl⟩) rfl) (hF2d.blk (i := 1) rfl) ?_
    (try simp only [Act.put, List.setIfInBounds_toArray, List.set_cons_zero, List.set_cons_succ])
    refine wpAnyH_take (i := 2) (v := ?_) (by simp only [List.getElem?_toArray, List.getElem?_cons_zero, List.getElem?_cons_succ]; rfl) (by kernel_rfl) (by kernel_rfl) (by kernel_rfl) (by exact fun _ _ _ h => h) (Or.inl ⟨by with_unfolding_all rfl, ?_⟩) (hF2d.blk (i := 1) rfl) ?_
    rotate_left
    · (intro w hSw; (try dsimp only at hSw); go_simp; try with_reducible rfl)
    (try simp only [Act.put, List.setIfInBounds_toArray, List.set_cons_zero, List.set_cons_succ])
    refine wpAnyH_take (i := 4) (v := ?_) (by simp only [List.getElem?_toArray, List.getElem?_cons_zero, List.getElem?_cons_succ]; rfl) (by kernel_rfl) (by kernel_rfl) (by kernel_rfl) (by exact fun _ _ _ h => h) (Or.inl ⟨by with_unfolding_all rfl, ?_⟩) (hF2d.blk (i := 1) rfl) ?_
    rotate_left
    · (intro w hSw; (try dsimp only at hSw); go_simp; try with_reducible rfl)
    (try simp only [Act.put, List.setIfInBounds_toArray, List.set_cons_zero, List.set_cons_succ])
    refine wpAnyH_take (i := 5) (by simp only [List.getElem?_toArray, List.getElem?_cons_zero, List.getElem?_cons_succ]; rfl) (by kernel_rfl) (by kernel_rfl) (by kernel_rfl) (by exact fun _ _ _ h => h) (yi_fld (by with_unfolding_all rfl) (fun _ h => h) Try.underlying9 rfl (by with_unfolding_all exact ⟨_, rfl, rfl⟩) rfl) (hF2d.blk (i := 1) rfl) ?_
    (try simp only [Act.put, List.setIfInBounds_toArray, List.set_cons_zero, List.set_cons_succ])
    refine wpAnyH_ready (rs := [3, 6]) (by kernel_rfl) (by simp) ?_
    refine AllReadyH.cons (by simp only [List.getElem?_toArray, List.getElem?_cons_zero, List.getElem?_cons_succ]; rfl) (fun K hK => ?_) ?_
    · refine stp (by with_unfolding_all rfl) (wp_fbsl T_u8 hF2d (vs := [bv x]) (by with_unfolding_all rfl) (by with_unfolding_all rfl) (by with_unfolding_all rfl) (by decide) (by simp [bv, Value.cells]) ?_)
      intro w11 g11 hF11 hz11
      refine hK.out _ _ ((hF11.blk (i := 2) rfl)) (fun _ => ?_)
      clear hK K
      (try simp only [Act.put, List.setIfInBounds_toArray, List.set_cons_zero, List.set_cons_succ])
      refine wpAnyH_ready (rs := [6]) (by kernel_rfl) (by simp) ?_
      refine AllReadyH.cons (by simp only [List.getElem?_toArray, List.getElem?_cons_zero, List.getElem?_cons_succ]; rfl) (fun K hK => ?_) ?_
      · refine stp (by with_unfolding_all rfl) (wp_fs2b T_u8 Try.underlying5 Try.underlying9 hF11 (by with_unfolding_all exact ⟨_, rfl, rfl⟩) ?_)
        intro w12 g12 c12 hF12 hz12 hc12
        refine hK.out _ _ ((hF12.blk (i := 3) rfl)) (fun _ => ?_)
        clear hK K
        (try simp only [Act.put, List.setIfInBounds_toArray, List.set_cons_zero, List.set_cons_succ])
        refine wpAnyH_ready (rs := [7]) (by kernel_rfl) (by simp) ?_
        refine AllReadyH.cons (by simp only [List.getElem?_toArray, List.getElem?_cons_zero, List.getElem?_cons_succ]; rfl) (fun K hK => ?_) ?_
        · refine stp (by with_unfolding_all rfl) (wp_call Try.func24 rfl (by with_unfolding_all rfl) (by with_unfolding_all rfl) (by with_unfolding_all rfl) (text_any _ _ _ repo.data.toList _ (by omega) (hF12.rd (i := 0) rfl)) ?_)
          rintro e w13 ⟨v13, rfl, ho13, hb13⟩
          refine ⟨_, rfl, ?_⟩
          obtain ⟨A13, c13, rfl, hc13, hr13⟩ := ho13.arg
          have hF13 := hF12.gotB hb13 ho13
          refine hK.out _ _ ((hF13.blk (i := 4) rfl)) (fun _ => ?_)
          clear hK K
          (try simp only [Act.put, List.setIfInBounds_toArray, List.set_cons_zero, List.set_cons_succ])
          refine wpAnyH_ready (rs := [8]) (by kernel_rfl) (by simp) ?_
          refine AllReadyH.cons (by simp only [List.getElem?_toArray, List.getElem?_cons_zero, List.getElem?_cons_succ]; rfl) (fun K hK => ?_) ?_
          · refine stp (by with_unfolding_all rfl) (wp_fapp T_u8 hF13 (i := 2) (l := [x]) rfl (Nat.le_refl _) (hF13.rdOwn (i := 0) rfl) (by with_unfolding_all exact ⟨_, _, rfl, rfl, rfl⟩) (by simp only [List.length_cons, List.length_nil]; omega) ?_)
            intro v14 w14 hF14 hz14
            refine hK.out _ _ ((hF14.blk (i := 4) rfl)) (fun _ => ?_)
            clear hK K
            (try simp only [Act.put, List.setIfInBounds_toArray, List.set_cons_zero, List.set_cons_succ])
            refine wpAnyH_take (i := 9) (v := ?_) (by simp only [List.getElem?_toArray, List.getElem?_cons_zero, List.getElem?_cons_succ]; rfl) (by kernel_rfl) (by kernel_rfl) (by kernel_rfl) (by exact fun _ _ _ h => h) (Or.inl ⟨by with_unfolding_all rfl, ?_⟩) (hF14.blk (i := 4) rfl) ?_
            rotate_left
            · (intro w hSw; (try dsimp only at hSw); go_simp; try with_reducible rfl)
            (try simp only [Act.put, List.setIfInBounds_toArray, List.set_cons_zero, List.set_cons_succ])
            refine wpAnyH_done (by kernel_rfl) ?_ _
            go_wp2_with fail
            go_meet
            exact ⟨_, rfl, hF14.pick2 (i := 2) (j := 4) rfl rfl (by decide)⟩
          exact AllReadyH.nil
        exact AllReadyH.nil
      exact AllReadyH.nil
    refine AllReadyH.cons (by simp only [List.getElem?_toArray, List.getElem?_cons_zero, List.getElem?_cons_succ]; rfl) (fun K hK => ?_) ?_
    · refine stp (by with_unfolding_all rfl) (wp_fs2b T_u8 Try.underlying5 Try.underlying9 hF2d (by with_unfolding_all exact ⟨_, rfl, rfl⟩) ?_)
      intro w11 g11 c11 hF11 hz11 hc11
      refine hK.out _ _ ((hF11.blk (i := 2) rfl)) (fun _ => ?_)
      clear hK K
      (try simp only [Act.put, List.setIfInBounds_toArray, List.set_cons_zero, List.set_cons_succ])
      refine wpAnyH_ready (rs := [3, 7]) (by kernel_rfl) (by simp) ?_
      refine AllReadyH.cons (by simp only [List.getElem?_toArray, List.getElem?_cons_zero, List.getElem?_cons_succ]; rfl) (fun K hK => ?_) ?_
      · refine stp (by with_unfolding_all rfl) (wp_fbsl T_u8 hF11 (vs := [bv x]) (by with_unfolding_all rfl) (by with_unfolding_all rfl) (by with_unfolding_all rfl) (by decide) (by simp [bv, Value.cells]) ?_)
        intro w12 g12 hF12 hz12
        refine hK.out _ _ ((hF12.blk (i := 3) rfl)) (fun _ => ?_)
        clear hK K
        (try simp only [Act.put, List.setIfInBounds_toArray, List.set_cons_zero, List.set_cons_succ])
        refine wpAnyH_ready (rs := [7]) (by kernel_rfl) (by simp) ?_
        refine AllReadyH.cons (by simp only [List.getElem?_toArray, List.getElem?_cons_zero, List.getElem?_cons_succ]; rfl) (fun K hK => ?_) ?_
        · refine stp (by with_unfolding_all rfl) (wp_call Try.func24 rfl (by with_unfolding_all rfl) (by with_unfolding_all rfl) (by with_unfolding_all rfl) (text_any _ _ _ repo.data.toList _ (by omega) (hF12.rd (i := 1) rfl)) ?_)
          rintro e w13 ⟨v13, rfl, ho13, hb13⟩
          refine ⟨_, rfl, ?_⟩
          obtain ⟨A13, c13, rfl, hc13, hr13⟩ := ho13.arg
          have hF13 := hF12.gotB hb13 ho13
          refine hK.out _ _ ((hF13.blk (i := 4) rfl)) (fun _ => ?_)
          clear hK K
          (try simp only [Act.put, List.setIfInBounds_toArray, List.set_cons_zero, List.set_cons_succ])
          refine wpAnyH_ready (rs := [8]) (by kernel_rfl) (by simp) ?_
          refine AllReadyH.cons (by simp only [List.getElem?_toArray, List.getElem?_cons_zero, List.getElem?_cons_succ]; rfl) (fun K hK => ?_) ?_
          · refine stp (by with_unfolding_all rfl) (wp_fapp T_u8 hF13 (i := 1) (l := [x]) rfl (Nat.le_refl _) (hF13.rdOwn (i := 0) rfl) (by with_unfolding_all exact ⟨_, _, rfl, rfl, rfl⟩) (by simp only [List.length_cons, List.length_nil]; omega) ?_)
            intro v14 w14 hF14 hz14
            refine hK.out _ _ ((hF14.blk (i := 4) rfl)) (fun _ => ?_)
            clear hK K
            (try simp only [Act.put, List.setIfInBounds_toArray, List.set_cons_zero, List.set_cons_succ])
            refine wpAnyH_take (i := 9) (v := ?_) (by simp only [List.getElem?_toArray, List.getElem?_cons_zero, List.getElem?_cons_succ]; rfl) (by kernel_rfl) (by kernel_rfl) (by kernel_rfl) (by exact fun _ _ _ h => h) (Or.inl ⟨by with_unfolding_all rfl, ?_⟩) (hF14.blk (i := 4) rfl) ?_
            rotate_left
            · (intro w hSw; (try dsimp only at hSw); go_simp; try with_reducible rfl)
            (try simp only [Act.put, List.setIfInBounds_toArray, List.set_cons_zero, List.set_cons_succ])
            refine wpAnyH_done (by kernel_rfl) ?_ _
            go_wp2_with fail
            go_meet
            exact ⟨_, rfl, hF14.pick2 (i := 1) (j := 4) rfl rfl (by decide)⟩
          exact AllReadyH.nil
        exact AllReadyH.nil
      refine AllReadyH.cons (by simp only [List.getElem?_toArray, List.getElem?_cons_zero, List.getElem?_cons_succ]; rfl) (fun K hK => ?_) ?_
      · refine stp (by with_unfolding_all rfl) (wp_call Try.func24 rfl (by with_unfolding_all rfl) (by with_unfolding_all rfl) (by with_unfolding_all rfl) (text_any _ _ _ repo.data.toList _ (by omega) (hF11.rd (i := 0) rfl)) ?_)
        rintro e w12 ⟨v12, rfl, ho12, hb12⟩
        refine ⟨_, rfl, ?_⟩
        obtain ⟨A12, c12, rfl, hc12, hr12⟩ := ho12.arg
        have hF12 := hF11.gotB hb12 ho12
        refine hK.out _ _ ((hF12.blk (i := 3) rfl)) (fun _ => ?_)
        clear hK K
        (try simp only [Act.put, List.setIfInBounds_toArray, List.set_cons_zero, List.set_cons_succ])
        refine wpAnyH_ready (rs := [3]) (by kernel_rfl) (by simp) ?_
        refine AllReadyH.cons (by simp only [List.getElem?_toArray, List.getElem?_cons_zero, List.getElem?_cons_succ]; rfl) (fun K hK => ?_) ?_
        · refine stp (by with_unfolding_all rfl) (wp_fbsl T_u8 hF12 (vs := [bv x]) (by with_unfolding_all rfl) (by with_unfolding_all rfl) (by with_unfolding_all rfl) (by decide) (by simp [bv, Value.cells]) ?_)
          intro w13 g13 hF13 hz13
          refine hK.out _ _ ((hF13.blk (i := 4) rfl)) (fun _ => ?_)
          clear hK K
          (try simp only [Act.put, List.setIfInBounds_toArray, List.set_cons_zero, List.set_cons_succ])
          refine wpAnyH_ready (rs := [8]) (by kernel_rfl) (by simp) ?_
          refine AllReadyH.cons (by simp only [List.getElem?_toArray, List.getElem?_cons_zero, List.getElem?_cons_succ]; rfl) (fun K hK => ?_) ?_
          · refine stp (by with_unfolding_all rfl) (wp_fapp T_u8 hF13 (i := 0) (l := [x]) rfl (Nat.le_refl _) (hF13.rdOwn (i := 1) rfl) (by with_unfolding_all exact ⟨_, _, rfl, rfl, rfl⟩) (by simp only [List.length_cons, List.length_nil]; omega) ?_)
            intro v14 w14 hF14 hz14
            refine hK.out _ _ ((hF14.blk (i := 4) rfl)) (fun _ => ?_)
            clear hK K
            (try simp only [Act.put, List.setIfInBounds_toArray, List.set_cons_zero, List.set_cons_succ])
            refine wpAnyH_take (i := 9) (v := ?_) (by simp only [List.getElem?_toArray, List.getElem?_cons_zero, List.getElem?_cons_succ]; rfl) (by kernel_rfl) (by kernel_rfl) (by kernel_rfl) (by exact fun _ _ _ h => h) (Or.inl ⟨by with_unfolding_all rfl, ?_⟩) (hF14.blk (i := 4) rfl) ?_
            rotate_left
            · (intro w hSw; (try dsimp only at hSw); go_simp; try with_reducible rfl)
            (try simp only [Act.put, List.setIfInBounds_toArray, List.set_cons_zero, List.set_cons_succ])
            refine wpAnyH_done (by kernel_rfl) ?_ _
            go_wp2_with fail
            go_meet
            exact ⟨_, rfl, hF14.pick2 (i := 0) (j := 4) rfl rfl (by decide)⟩
          exact AllReadyH.nil
        exact AllReadyH.nil
      exact AllReadyH.nil
    exact AllReadyH.nil
  case rest =>
    obtain ⟨v4, rfl, hF3⟩ := hcut
    have hT2 := textL_len word.data.toList (by rw [str_len]; omega)
    rw [str_len] at hT2
    have hT3 := textL_len body h5
    have hC := cntsL_len [id, at_, n] (by intro m hm; simp at hm; rcases hm with rfl | rfl | rfl <;> omega)
    have hC2 : Box (∀ m ∈ [id, at_, n], 0 ≤ m ∧ m ≤ 1099511627776) := box (by intro m hm; simp at hm; rcases hm with rfl | rfl | rfl <;> omega)
    simp only [List.length_cons, List.length_nil] at hC
    clear hxw
    go_wp2_with (first | (with_reducible refine lst (by with_unfolding_all rfl) (wp_fld1 hF3 Try.underlying9 rfl (by with_unfolding_all exact ⟨_, rfl, rfl⟩) (by first | with_unfolding_all rfl | assumption) ?_)) | ((with_reducible refine lst (by with_unfolding_all rfl) (wp_fs2b T_u8 Try.underlying5 Try.underlying9 hF3 (by with_unfolding_all exact ⟨_, rfl, rfl⟩) ?_)); intro w4 g4 c4 hF4 hz4 hc4))
    refine (text_any _ _ _ word.data.toList _ (by omega) hF4.rd0).mono ?_
    rintro e w5 ⟨v5, rfl, ho5, hb5⟩
    obtain ⟨A5, c5, rfl, _, hr5⟩ := ho5.arg
    have hF5 := hF4.tail.call hb5
    have room5 : ([x] ++ textL repo.data.toList).length + (textL word.data.toList).length ≤ 140737488355328 := by simp only [List.length_append, List.length_cons, List.length_nil]; omega
    have room6 : ([x] ++ textL repo.data.toList ++ textL word.data.toList).length + 32 ≤ 140737488355328 := by simp only [List.length_append, List.length_cons, List.length_nil]; omega
    go_wp2_with (first | ((with_reducible refine lst (by with_unfolding_all rfl) (wp_fapp0 T_u8 hF5 (Nat.le_refl _) hr5 (by with_unfolding_all exact ⟨_, _, rfl, rfl, rfl⟩) room5 ?_)); intro v6 w6 hF6 hz6) | ((with_reducible refine lst (by with_unfolding_all rfl) (wp_fapp0 T_u8 hF6 (Nat.le_refl _) (hF6.rdBlk1 (off := 3) (xs := d.map bv) hdl.out (rqL_dig hdl.out)) (by with_unfolding_all exact ⟨_, _, rfl, rfl, rfl⟩) room6 ?_)); intro v7 w7 hF7 hz7) | (with_reducible refine lst (by with_unfolding_all rfl) (wp_fld1 hF7 Try.underlying3 rfl (by with_unfolding_all exact ⟨_, rfl, rfl⟩) (by first | exact hq.out.1 | exact hq.out.2.1 | exact hq.out.2.2.1) ?_)) | ((with_reducible refine lst (by with_unfolding_all rfl) (wp_fbsl T_int hF7 (vs := [.int .i64 id, .int .i64 at_, .int .i64 n]) (by with_unfolding_all rfl) (by with_unfolding_all rfl) (by with_unfolding_all rfl) (by decide) (by simp [Value.cells]) ?_)); intro w8 g8 hF8 hz8))
    have room8 : ([x] ++ textL repo.data.toList ++ textL word.data.toList ++ d).length ≤ 100000000 := by simp only [List.length_append, List.length_cons, List.length_nil]; omega
    refine (counts_any w.heap.size v7 _ _ 3 3 [id, at_, n] w8 hF8.bytes1 hF8.size room8 (by omega) (hF8.rdNe (i := 0) (j := 1) rfl rfl (by decide)) hC2).mono ?_
    rintro e w9 ⟨v9, rfl, ho9, hg9, hv9⟩
    have hF9 := (hF8.putB1 hg9 ho9 hv9.out).tail
    have room9 : ([x] ++ textL repo.data.toList ++ textL word.data.toList ++ d ++ cntsL [id, at_, n]).length + (textL body).length ≤ 140737488355328 := by simp only [List.length_append, List.length_cons, List.length_nil]; omega
    go_wp2_with (first | (with_reducible refine lst (by with_unfolding_all rfl) (wp_fld1 hF9 Try.underlying23 rfl (by with_unfolding_all exact ⟨_, rfl, rfl⟩) hq.out.2.2.2 ?_)))
    refine (text_any A body.length c body w9 (by omega) (hF9.rdOld hr)).mono ?_
    rintro e w10 ⟨v10, rfl, ho10, hb10⟩
    obtain ⟨A10, c10, rfl, _, hr10⟩ := ho10.arg
    have hF10 := hF9.call hb10
    go_wp2_with (first | ((with_reducible refine lst (by with_unfolding_all rfl) (wp_fapp0 T_u8 hF10 (Nat.le_refl _) hr10 (by with_unfolding_all exact ⟨_, _, rfl, rfl, rfl⟩) room9 ?_)); intro v11 w11 hF11 hz11))
    go_ret2
    refine ⟨v11, rfl, ?_, hF11.below⟩
    have hfin : reqB ⟨(x.toNat : Int), repo, word, d, id, at_, n, body⟩ = [x] ++ textL repo.data.toList ++ textL word.data.toList ++ d ++ cntsL [id, at_, n] ++ textL body := by
      simp [reqB, cntsL]
    rw [hfin]
    exact hF11.bytes0
end Go.Proofs.Ytcnjnkkdidpjiaa

namespace Go.Proofs.Ytcnjnkkdidpjiaa
open Go.RowKit

set_option maxRecDepth 20000 in
set_option maxHeartbeats 1600000 in
theorem encReq_bad (r : Req) (A : Option Addr) (c : Nat) (w : World) (hd : r.d.length = 32) (hok : reqOk r = false) :
    Calls Try.prog 7 #[.agg (r.cells A c).toArray] w (Told w 5 [] 1) := by
  obtain ⟨op, repo, word, d, id, at_, n, body⟩ := r
  simp only [Req.cells] at *
  have hdl : (d.map bv).length = 32 := by simpa using hd
  have hq := rqL_at (a := .int .i64 op) (b := .string repo) (c := .string word) (e := .int .i64 id) (f := .int .i64 at_) (g := .int .i64 n) (h := .slice A body.length c) hdl
  replace hq := box hq
  replace hdl := box hdl
  have hF0 := Fr.nil w
  replace hok := box hok
  by_cases kb1 : op < 1
  · have b1 : decide (op < 1) = true := by simpa using kb1
    go_enter Try.func7, Try.ntmps7
    go_wp2_with (first | ((with_reducible refine lst (by with_unfolding_all rfl) (wp_fbox hF0 (cs := (rqL (.int .i64 op) (.string repo) (.string word) (d.map bv) (.int .i64 id) (.int .i64 at_) (.int .i64 n) (.slice A body.length c))) rfl (by with_unfolding_all rfl) (by with_unfolding_all rfl) ?_)); intro w1 g1 hF1 hz1) | (with_reducible refine lst (by with_unfolding_all rfl) (wp_fld0 hF1 Try.underlying3 rfl (by with_unfolding_all exact ⟨_, rfl, rfl⟩) (by first | with_unfolding_all rfl | exact hq.out.1 | exact hq.out.2.1 | exact hq.out.2.2.1) ?_)) | (with_reducible refine lst (by with_unfolding_all rfl) (wp_fld0 hF1 Try.underlying9 rfl (by with_unfolding_all exact ⟨_, rfl, rfl⟩) (by first | with_unfolding_all rfl | assumption) ?_)) | ((with_reducible refine lst (by with_unfolding_all rfl) (wp_fbsl T_int hF1 (vs := [.int .i64 id, .int .i64 at_, .int .i64 n]) (by with_unfolding_all rfl) (by with_unfolding_all rfl) (by with_unfolding_all rfl) (by decide) (by simp [Value.cells]) ?_)); intro w2 g2 hF2 hz2))
    go_ret2
    exact ⟨_, rfl, OwnB.nil _ _ _, (hF1).below⟩
  have b1 : decide (op < 1) = false := by simpa using kb1
  by_cases kb2 : 21 ≤ op
  · have b2 : decide (21 ≤ op) = true := by simpa using kb2
    go_enter Try.func7, Try.ntmps7
    go_wp2_with (first | ((with_reducible refine lst (by with_unfolding_all rfl) (wp_fbox hF0 (cs := (rqL (.int .i64 op) (.string repo) (.string word) (d.map bv) (.int .i64 id) (.int .i64 at_) (.int .i64 n) (.slice A body.length c))) rfl (by with_unfolding_all rfl) (by with_unfolding_all rfl) ?_)); intro w1 g1 hF1 hz1) | (with_reducible refine lst (by with_unfolding_all rfl) (wp_fld0 hF1 Try.underlying3 rfl (by with_unfolding_all exact ⟨_, rfl, rfl⟩) (by first | with_unfolding_all rfl | exact hq.out.1 | exact hq.out.2.1 | exact hq.out.2.2.1) ?_)) | (with_reducible refine lst (by with_unfolding_all rfl) (wp_fld0 hF1 Try.underlying9 rfl (by with_unfolding_all exact ⟨_, rfl, rfl⟩) (by first | with_unfolding_all rfl | assumption) ?_)) | ((with_reducible refine lst (by with_unfolding_all rfl) (wp_fbsl T_int hF1 (vs := [.int .i64 id, .int .i64 at_, .int .i64 n]) (by with_unfolding_all rfl) (by with_unfolding_all rfl) (by with_unfolding_all rfl) (by decide) (by simp [Value.cells]) ?_)); intro w2 g2 hF2 hz2))
    go_ret2
    exact ⟨_, rfl, OwnB.nil _ _ _, (hF1).below⟩
  have b2 : decide (21 ≤ op) = false := by simpa using kb2
  by_cases kb3 : 128 < (repo.size : Int)
  · have b3 : decide (128 < (repo.size : Int)) = true := by simpa using kb3
    go_enter Try.func7, Try.ntmps7
    go_wp2_with (first | ((with_reducible refine lst (by with_unfolding_all rfl) (wp_fbox hF0 (cs := (rqL (.int .i64 op) (.string repo) (.string word) (d.map bv) (.int .i64 id) (.int .i64 at_) (.int .i64 n) (.slice A body.length c))) rfl (by with_unfolding_all rfl) (by with_unfolding_all rfl) ?_)); intro w1 g1 hF1 hz1) | (with_reducible refine lst (by with_unfolding_all rfl) (wp_fld0 hF1 Try.underlying3 rfl (by with_unfolding_all exact ⟨_, rfl, rfl⟩) (by first | with_unfolding_all rfl | exact hq.out.1 | exact hq.out.2.1 | exact hq.out.2.2.1) ?_)) | (with_reducible refine lst (by with_unfolding_all rfl) (wp_fld0 hF1 Try.underlying9 rfl (by with_unfolding_all exact ⟨_, rfl, rfl⟩) (by first | with_unfolding_all rfl | assumption) ?_)) | ((with_reducible refine lst (by with_unfolding_all rfl) (wp_fbsl T_int hF1 (vs := [.int .i64 id, .int .i64 at_, .int .i64 n]) (by with_unfolding_all rfl) (by with_unfolding_all rfl) (by with_unfolding_all rfl) (by decide) (by simp [Value.cells]) ?_)); intro w2 g2 hF2 hz2))
    go_ret2
    exact ⟨_, rfl, OwnB.nil _ _ _, (hF1).below⟩
  have b3 : decide (128 < (repo.size : Int)) = false := by simpa using kb3
  by_cases kb4 : 128 < (word.size : Int)
  · have b4 : decide (128 < (word.size : Int)) = true := by simpa using kb4
    go_enter Try.func7, Try.ntmps7
    go_wp2_with (first | ((with_reducible refine lst (by with_unfolding_all rfl) (wp_fbox hF0 (cs := (rqL (.int .i64 op) (.string repo) (.string word) (d.map bv) (.int .i64 id) (.int .i64 at_) (.int .i64 n) (.slice A body.length c))) rfl (by with_unfolding_all rfl) (by with_unfolding_all rfl) ?_)); intro w1 g1 hF1 hz1) | (with_reducible refine lst (by with_unfolding_all rfl) (wp_fld0 hF1 Try.underlying3 rfl (by with_unfolding_all exact ⟨_, rfl, rfl⟩) (by first | with_unfolding_all rfl | exact hq.out.1 | exact hq.out.2.1 | exact hq.out.2.2.1) ?_)) | (with_reducible refine lst (by with_unfolding_all rfl) (wp_fld0 hF1 Try.underlying9 rfl (by with_unfolding_all exact ⟨_, rfl, rfl⟩) (by first | with_unfolding_all rfl | assumption) ?_)) | ((with_reducible refine lst (by with_unfolding_all rfl) (wp_fbsl T_int hF1 (vs := [.int .i64 id, .int .i64 at_, .int .i64 n]) (by with_unfolding_all rfl) (by with_unfolding_all rfl) (by with_unfolding_all rfl) (by decide) (by simp [Value.cells]) ?_)); intro w2 g2 hF2 hz2))
    go_ret2
    exact ⟨_, rfl, OwnB.nil _ _ _, (hF1).below⟩
  have b4 : decide (128 < (word.size : Int)) = false := by simpa using kb4
  by_cases hfit : [id, at_, n].all numB = true
  · have h5 : 1048576 < (body.length : Int) := by
      refine Int.lt_of_not_ge fun h5 => ?_
      simp only [List.all_cons, List.all_nil, Bool.and_true, Bool.and_eq_true] at hfit
      have := reqOk_of (r := ⟨op, repo, word, d, id, at_, n, body⟩) (by simp only []; omega) (by simp only []; omega) (by simp only []; omega) (by simp only []; omega) (by simp only []; omega) hfit.1 hfit.2.1 hfit.2.2
      rw [hok.out] at this; cases this
    have b5 : decide (1048576 < (body.length : Int)) = true := by simpa using h5
    replace hfit := box hfit
    clear kb1 kb2 kb3 kb4 h5
    go_enter Try.func7, Try.ntmps7
    go_wp2_with (first | ((with_reducible refine lst (by with_unfolding_all rfl) (wp_fbox hF0 (cs := (rqL (.int .i64 op) (.string repo) (.string word) (d.map bv) (.int .i64 id) (.int .i64 at_) (.int .i64 n) (.slice A body.length c))) rfl (by with_unfolding_all rfl) (by with_unfolding_all rfl) ?_)); intro w1 g1 hF1 hz1) | (with_reducible refine lst (by with_unfolding_all rfl) (wp_fld0 hF1 Try.underlying3 rfl (by with_unfolding_all exact ⟨_, rfl, rfl⟩) (by first | with_unfolding_all rfl | exact hq.out.1 | exact hq.out.2.1 | exact hq.out.2.2.1) ?_)) | (with_reducible refine lst (by with_unfolding_all rfl) (wp_fld0 hF1 Try.underlying9 rfl (by with_unfolding_all exact ⟨_, rfl, rfl⟩) (by first | with_unfolding_all rfl | assumption) ?_)) | ((with_reducible refine lst (by with_unfolding_all rfl) (wp_fbsl T_int hF1 (vs := [.int .i64 id, .int .i64 at_, .int .i64 n]) (by with_unfolding_all rfl) (by with_unfolding_all rfl) (by with_unfolding_all rfl) (by decide) (by simp [Value.cells]) ?_)); intro w2 g2 hF2 hz2))
    refine (fits_any _ 3 3 [id, at_, n] w2 (by omega) hF2.rdOwn0).mono ?_
    rintro e w' ⟨rfl, rfl⟩
    rw [hfit.out]
    go_wp2_with (first | (with_reducible refine lst (by with_unfolding_all rfl) (wp_fld1 hF2 Try.underlying23 rfl (by with_unfolding_all exact ⟨_, rfl, rfl⟩) hq.out.2.2.2 ?_)))
    go_ret2
    exact ⟨_, rfl, OwnB.nil _ _ _, hF2.below⟩
  · have hfit' : [id, at_, n].all numB = false := by simpa using hfit
    replace hfit' := box hfit'
    clear hfit kb1 kb2 kb3 kb4
    go_enter Try.func7, Try.ntmps7
    go_wp2_with (first | ((with_reducible refine lst (by with_unfolding_all rfl) (wp_fbox hF0 (cs := (rqL (.int .i64 op) (.string repo) (.string word) (d.map bv) (.int .i64 id) (.int .i64 at_) (.int .i64 n) (.slice A body.length c))) rfl (by with_unfolding_all rfl) (by with_unfolding_all rfl) ?_)); intro w1 g1 hF1 hz1) | (with_reducible refine lst (by with_unfolding_all rfl) (wp_fld0 hF1 Try.underlying3 rfl (by with_unfolding_all exact ⟨_, rfl, rfl⟩) (by first | with_unfolding_all rfl | exact hq.out.1 | exact hq.out.2.1 | exact hq.out.2.2.1) ?_)) | (with_reducible refine lst (by with_unfolding_all rfl) (wp_fld0 hF1 Try.underlying9 rfl (by with_unfolding_all exact ⟨_, rfl, rfl⟩) (by first | with_unfolding_all rfl | assumption) ?_)) | ((with_reducible refine lst (by with_unfolding_all rfl) (wp_fbsl T_int hF1 (vs := [.int .i64 id, .int .i64 at_, .int .i64 n]) (by with_unfolding_all rfl) (by with_unfolding_all rfl) (by with_unfolding_all rfl) (by decide) (by simp [Value.cells]) ?_)); intro w2 g2 hF2 hz2))
    refine (fits_any _ 3 3 [id, at_, n] w2 (by omega) hF2.rdOwn0).mono ?_
    rintro e w' ⟨rfl, rfl⟩
    rw [hfit'.out]
    go_wp2_with (first | (with_reducible refine lst (by with_unfolding_all rfl) (wp_fld1 hF2 Try.underlying23 rfl (by with_unfolding_all exact ⟨_, rfl, rfl⟩) hq.out.2.2.2 ?_)))
    go_ret2
    exact ⟨_, rfl, OwnB.nil _ _ _, hF2.below⟩
theorem encReq_any (r : Req) (A : Option Addr) (c : Nat) (w : World) (hd : r.d.length = 32) (hr : Rd w (· < w.heap.size) A 1 r.body.length (r.body.map bv)) :
    Calls Try.prog 7 #[.agg (r.cells A c).toArray] w (Told w 5 (if reqOk r = true then reqB r else []) (if reqOk r = true then 0 else 1)) := by
  by_cases h : reqOk r = true
  · rw [if_pos h, if_pos h]; exact encReq_good r A c w hd hr h
  · rw [if_neg h, if_neg h]; exact encReq_bad r A c w hd (by simpa using h)
end Go.Proofs.Ytcnjnkkdidpjiaa
