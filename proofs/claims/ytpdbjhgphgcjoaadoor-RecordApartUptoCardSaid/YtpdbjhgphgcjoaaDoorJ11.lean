/-
  Layer 14: the walk of Encode.
-/
import Derived.Test.YtpdbjhgphgcjoaaDoorJ09
import Derived.Test.YtpdbjhgphgcjoaaDoorJ10
import Derived.Deep.DeepCutAuto
namespace Go.Proofs.YtpdbjhgphgcjoaaDoor
open Go.RowKit

set_option maxRecDepth 20000 in
set_option maxHeartbeats 1600000 in
theorem enc_good1 (repo tag : ByteArray) (d : List UInt8) (i : Nat) (w : World) (hM : MaxW w) (hd : d.length = 32) (hok : recOk ⟨1, repo, tag, d, (i : Int)⟩ = true) :
    Calls Tryd.prog 7 #[.agg (rcL (.int .i64 1) (.string repo) (.string tag) (d.map bv) (.int .i64 (i : Int))).toArray] w (Told w 5 (recB ⟨1, repo, tag, d, (i : Int)⟩) 0) := by
  obtain ⟨_, hr, ht, _, h5⟩ := recOk_iff hok
  have hrs := repo_size hr
  have hts := tag_size ht
  simp only [] at hrs hts h5
  have hri := box (fun w (hM : MaxW w) => right_any ⟨1, repo, tag, d, (i : Int)⟩ w hM hd (by show repo.size ≤ _; omega) (by show tag.size ≤ _; omega))
  rw [hok] at hri
  simp only [Rec.cells] at hri
  clear hr ht hok
  have hdm : (d.map bv).length = 32 := by rw [List.length_map]; exact hd
  have h35 := box (rcL_at (k := (Value.int .i64) 1) (a := .string repo) (b := .string tag) (t := (Value.int .i64) (i : Int)) hdm)
  have hB := box (recB_1 repo tag d i)
  have hpl := putL_len i 8
  replace hdm := box hdm
  replace hd := box hd
  have hT := textL_len repo.data.toList (by rw [str_len]; omega)
  have hT2 := textL_len tag.data.toList (by rw [str_len]; omega)
  rw [str_len] at hT hT2
  have hF0 := Fr.nil w
  have hx1 : IntKind.u8.wrap 1 = 1 := by decide
  go_enter Tryd.func7, Tryd.ntmps7
  go_wp2_with (first | ((with_reducible refine lst (by with_unfolding_all rfl) (wp_fbox hF0 (cs := (rcL (.int .i64 1) (.string repo) (.string tag) (d.map bv) (.int .i64 (i : Int)))) rfl (by with_unfolding_all rfl) (by with_unfolding_all rfl) ?_)); intro w1 g1 hF1 hz1) | (with_reducible refine lst (by with_unfolding_all rfl) (wp_fldA0 hF1 Tryd.underlying31 rfl (by with_unfolding_all exact ⟨_, rfl, rfl⟩) (ds := (rcL (.int .i64 1) (.string repo) (.string tag) (d.map bv) (.int .i64 (i : Int)))) (by rw [rc_len hdm.out]; kernel_rfl) (take_all _) ?_)))
  refine (hri.out _ (hF1.maxW hM)).mono ?_
  rintro e w2 ⟨rfl, hb2⟩
  have hF2 := hF1.call hb2
  clear hri hF0 hF1
  go_upto_region 3 with (fail)
  go_cut [4] (fun s4 wx => ∃ v, s4 = v ∧ Fr [] w wx [Ent.bytes w.heap.size 5 v ([1] ++ textL repo.data.toList), .blk g1 31 (rcL (.int .i64 1) (.string repo) (.string tag) (d.map bv) (.int .i64 (i : Int)))])
  case first =>
    have hF2d := hF2.drew
    refine wp_region_held (S := fun w' => w'.heap[g1]? = some (.cells (List.toArray (rcL (.int .i64 1) (.string repo) (.string tag) (d.map bv) (.int .i64 (i : Int)))) 31 (0, 0))) (by kernel_rfl) ?_
    change wpAnyH _ _ _ _ _ _ _ _ (World.drew _)
    refine wpAnyH_take (i := 0) (v := ?_) (by simp only [List.getElem?_toArray, List.getElem?_cons_zero]; rfl) (by kernel_rfl) (by kernel_rfl) (by kernel_rfl) (by exact fun _ _ _ h => h) (Or.inl ⟨by with_unfolding_all rfl, ?_⟩) (hF2d.blk (i := 0) rfl) ?_
    rotate_left
    · (intro w hSw; (try dsimp only at hSw); go_simp; try with_reducible rfl)
    (try simp only [Act.put, List.setIfInBounds_toArray, List.set_cons_zero, List.set_cons_succ])
    refine wpAnyH_take (i := 1) (by simp only [List.getElem?_toArray, List.getElem?_cons_zero, List.getElem?_cons_succ]; rfl) (by kernel_rfl) (by kernel_rfl) (by kernel_rfl) (by exact fun _ _ _ h => h) (yi_fld (by with_unfolding_all rfl) (fun _ h => h) Tryd.underlying3 rfl (by with_unfolding_all exact ⟨_, rfl, rfl⟩) rfl) (hF2d.blk (i := 0) rfl) ?_
    (try simp only [Act.put, List.setIfInBounds_toArray, List.set_cons_zero, List.set_cons_succ])
    refine wpAnyH_take (i := 2) (v := ?_) (by simp only [List.getElem?_toArray, List.getElem?_cons_zero, List.getElem?_cons_succ]; rfl) (by kernel_rfl) (by kernel_rfl) (by kernel_rfl) (by exact fun _ _ _ h => h) (Or.inl ⟨by with_unfolding_all rfl, ?_⟩) (hF2d.blk (i := 0) rfl) ?_
    rotate_left
    · (intro w hSw; (try dsimp only at hSw); go_simp; try with_reducible rfl)
    (try simp only [Act.put, List.setIfInBounds_toArray, List.set_cons_zero, List.set_cons_succ])
    refine wpAnyH_take (i := 4) (v := ?_) (by simp only [List.getElem?_toArray, List.getElem?_cons_zero, List.getElem?_cons_succ]; rfl) (by kernel_rfl) (by kernel_rfl) (by kernel_rfl) (by exact fun _ _ _ h => h) (Or.inl ⟨by with_unfolding_all rfl, ?_⟩) (hF2d.blk (i := 0) rfl) ?_
    rotate_left
    · (intro w hSw; (try dsimp only at hSw); go_simp; try with_reducible rfl)
    (try simp only [Act.put, List.setIfInBounds_toArray, List.set_cons_zero, List.set_cons_succ])
    refine wpAnyH_take (i := 5) (by simp only [List.getElem?_toArray, List.getElem?_cons_zero, List.getElem?_cons_succ]; rfl) (by kernel_rfl) (by kernel_rfl) (by kernel_rfl) (by exact fun _ _ _ h => h) (yi_fld (by with_unfolding_all rfl) (fun _ h => h) Tryd.underlying9 rfl (by with_unfolding_all exact ⟨_, rfl, rfl⟩) rfl) (hF2d.blk (i := 0) rfl) ?_
    (try simp only [Act.put, List.setIfInBounds_toArray, List.set_cons_zero, List.set_cons_succ])
    refine wpAnyH_ready (rs := [3, 6]) (by kernel_rfl) (by simp) ?_
    refine AllReadyH.cons (by simp only [List.getElem?_toArray, List.getElem?_cons_zero, List.getElem?_cons_succ]; rfl) (fun K hK => ?_) ?_
    · refine stp (by with_unfolding_all rfl) (wp_fbsl T_u8 hF2d (vs := [bv 1]) (by with_unfolding_all rfl) (by with_unfolding_all rfl) (by with_unfolding_all rfl) (by decide) (by simp [bv, Value.cells]) ?_)
      intro w11 g11 hF11 hz11
      refine hK.out _ _ ((hF11.blk (i := 1) rfl)) (fun _ => ?_)
      clear hK K
      (try simp only [Act.put, List.setIfInBounds_toArray, List.set_cons_zero, List.set_cons_succ])
      refine wpAnyH_ready (rs := [6]) (by kernel_rfl) (by simp) ?_
      refine AllReadyH.cons (by simp only [List.getElem?_toArray, List.getElem?_cons_zero, List.getElem?_cons_succ]; rfl) (fun K hK => ?_) ?_
      · refine stp (by with_unfolding_all rfl) (wp_fs2b T_u8 Tryd.underlying5 Tryd.underlying9 hF11 (by with_unfolding_all exact ⟨_, rfl, rfl⟩) ?_)
        intro w12 g12 c12 hF12 hz12 hc12
        refine hK.out _ _ ((hF12.blk (i := 2) rfl)) (fun _ => ?_)
        clear hK K
        (try simp only [Act.put, List.setIfInBounds_toArray, List.set_cons_zero, List.set_cons_succ])
        refine wpAnyH_ready (rs := [7]) (by kernel_rfl) (by simp) ?_
        refine AllReadyH.cons (by simp only [List.getElem?_toArray, List.getElem?_cons_zero, List.getElem?_cons_succ]; rfl) (fun K hK => ?_) ?_
        · refine stp (by with_unfolding_all rfl) (wp_call Tryd.func23 rfl (by with_unfolding_all rfl) (by with_unfolding_all rfl) (by with_unfolding_all rfl) (text_any _ _ _ repo.data.toList _ (by omega) (hF12.rd (i := 0) rfl)) ?_)
          rintro e w13 ⟨v13, rfl, ho13, hb13⟩
          refine ⟨_, rfl, ?_⟩
          obtain ⟨A13, c13, rfl, hc13, hr13⟩ := ho13.arg
          have hF13 := hF12.gotB hb13 ho13
          refine hK.out _ _ ((hF13.blk (i := 3) rfl)) (fun _ => ?_)
          clear hK K
          (try simp only [Act.put, List.setIfInBounds_toArray, List.set_cons_zero, List.set_cons_succ])
          refine wpAnyH_ready (rs := [8]) (by kernel_rfl) (by simp) ?_
          refine AllReadyH.cons (by simp only [List.getElem?_toArray, List.getElem?_cons_zero, List.getElem?_cons_succ]; rfl) (fun K hK => ?_) ?_
          · refine stp (by with_unfolding_all rfl) (wp_fapp T_u8 hF13 (i := 2) (l := [1]) rfl (Nat.le_refl _) (hF13.rdOwn (i := 0) rfl) (by with_unfolding_all exact ⟨_, _, rfl, rfl, rfl⟩) (by simp only [List.length_cons, List.length_nil]; omega) ?_)
            intro v14 w14 hF14 hz14
            refine hK.out _ _ ((hF14.blk (i := 3) rfl)) (fun _ => ?_)
            clear hK K
            (try simp only [Act.put, List.setIfInBounds_toArray, List.set_cons_zero, List.set_cons_succ])
            refine wpAnyH_take (i := 9) (v := ?_) (by simp only [List.getElem?_toArray, List.getElem?_cons_zero, List.getElem?_cons_succ]; rfl) (by kernel_rfl) (by kernel_rfl) (by kernel_rfl) (by exact fun _ _ _ h => h) (Or.inl ⟨by with_unfolding_all rfl, ?_⟩) (hF14.blk (i := 3) rfl) ?_
            rotate_left
            · (intro w hSw; (try dsimp only at hSw); go_simp; try with_reducible rfl)
            (try simp only [Act.put, List.setIfInBounds_toArray, List.set_cons_zero, List.set_cons_succ])
            refine wpAnyH_done (by kernel_rfl) ?_ _
            go_wp2_with fail
            go_meet
            exact ⟨_, rfl, hF14.pick2 (i := 2) (j := 3) rfl rfl (by decide)⟩
          exact AllReadyH.nil
        exact AllReadyH.nil
      exact AllReadyH.nil
    refine AllReadyH.cons (by simp only [List.getElem?_toArray, List.getElem?_cons_zero, List.getElem?_cons_succ]; rfl) (fun K hK => ?_) ?_
    · refine stp (by with_unfolding_all rfl) (wp_fs2b T_u8 Tryd.underlying5 Tryd.underlying9 hF2d (by with_unfolding_all exact ⟨_, rfl, rfl⟩) ?_)
      intro w11 g11 c11 hF11 hz11 hc11
      refine hK.out _ _ ((hF11.blk (i := 1) rfl)) (fun _ => ?_)
      clear hK K
      (try simp only [Act.put, List.setIfInBounds_toArray, List.set_cons_zero, List.set_cons_succ])
      refine wpAnyH_ready (rs := [3, 7]) (by kernel_rfl) (by simp) ?_
      refine AllReadyH.cons (by simp only [List.getElem?_toArray, List.getElem?_cons_zero, List.getElem?_cons_succ]; rfl) (fun K hK => ?_) ?_
      · refine stp (by with_unfolding_all rfl) (wp_fbsl T_u8 hF11 (vs := [bv 1]) (by with_unfolding_all rfl) (by with_unfolding_all rfl) (by with_unfolding_all rfl) (by decide) (by simp [bv, Value.cells]) ?_)
        intro w12 g12 hF12 hz12
        refine hK.out _ _ ((hF12.blk (i := 2) rfl)) (fun _ => ?_)
        clear hK K
        (try simp only [Act.put, List.setIfInBounds_toArray, List.set_cons_zero, List.set_cons_succ])
        refine wpAnyH_ready (rs := [7]) (by kernel_rfl) (by simp) ?_
        refine AllReadyH.cons (by simp only [List.getElem?_toArray, List.getElem?_cons_zero, List.getElem?_cons_succ]; rfl) (fun K hK => ?_) ?_
        · refine stp (by with_unfolding_all rfl) (wp_call Tryd.func23 rfl (by with_unfolding_all rfl) (by with_unfolding_all rfl) (by with_unfolding_all rfl) (text_any _ _ _ repo.data.toList _ (by omega) (hF12.rd (i := 1) rfl)) ?_)
          rintro e w13 ⟨v13, rfl, ho13, hb13⟩
          refine ⟨_, rfl, ?_⟩
          obtain ⟨A13, c13, rfl, hc13, hr13⟩ := ho13.arg
          have hF13 := hF12.gotB hb13 ho13
          refine hK.out _ _ ((hF13.blk (i := 3) rfl)) (fun _ => ?_)
          clear hK K
          (try simp only [Act.put, List.setIfInBounds_toArray, List.set_cons_zero, List.set_cons_succ])
          refine wpAnyH_ready (rs := [8]) (by kernel_rfl) (by simp) ?_
          refine AllReadyH.cons (by simp only [List.getElem?_toArray, List.getElem?_cons_zero, List.getElem?_cons_succ]; rfl) (fun K hK => ?_) ?_
          · refine stp (by with_unfolding_all rfl) (wp_fapp T_u8 hF13 (i := 1) (l := [1]) rfl (Nat.le_refl _) (hF13.rdOwn (i := 0) rfl) (by with_unfolding_all exact ⟨_, _, rfl, rfl, rfl⟩) (by simp only [List.length_cons, List.length_nil]; omega) ?_)
            intro v14 w14 hF14 hz14
            refine hK.out _ _ ((hF14.blk (i := 3) rfl)) (fun _ => ?_)
            clear hK K
            (try simp only [Act.put, List.setIfInBounds_toArray, List.set_cons_zero, List.set_cons_succ])
            refine wpAnyH_take (i := 9) (v := ?_) (by simp only [List.getElem?_toArray, List.getElem?_cons_zero, List.getElem?_cons_succ]; rfl) (by kernel_rfl) (by kernel_rfl) (by kernel_rfl) (by exact fun _ _ _ h => h) (Or.inl ⟨by with_unfolding_all rfl, ?_⟩) (hF14.blk (i := 3) rfl) ?_
            rotate_left
            · (intro w hSw; (try dsimp only at hSw); go_simp; try with_reducible rfl)
            (try simp only [Act.put, List.setIfInBounds_toArray, List.set_cons_zero, List.set_cons_succ])
            refine wpAnyH_done (by kernel_rfl) ?_ _
            go_wp2_with fail
            go_meet
            exact ⟨_, rfl, hF14.pick2 (i := 1) (j := 3) rfl rfl (by decide)⟩
          exact AllReadyH.nil
        exact AllReadyH.nil
      refine AllReadyH.cons (by simp only [List.getElem?_toArray, List.getElem?_cons_zero, List.getElem?_cons_succ]; rfl) (fun K hK => ?_) ?_
      · refine stp (by with_unfolding_all rfl) (wp_call Tryd.func23 rfl (by with_unfolding_all rfl) (by with_unfolding_all rfl) (by with_unfolding_all rfl) (text_any _ _ _ repo.data.toList _ (by omega) (hF11.rd (i := 0) rfl)) ?_)
        rintro e w12 ⟨v12, rfl, ho12, hb12⟩
        refine ⟨_, rfl, ?_⟩
        obtain ⟨A12, c12, rfl, hc12, hr12⟩ := ho12.arg
        have hF12 := hF11.gotB hb12 ho12
        refine hK.out _ _ ((hF12.blk (i := 2) rfl)) (fun _ => ?_)
        clear hK K
        (try simp only [Act.put, List.setIfInBounds_toArray, List.set_cons_zero, List.set_cons_succ])
        refine wpAnyH_ready (rs := [3]) (by kernel_rfl) (by simp) ?_
        refine AllReadyH.cons (by simp only [List.getElem?_toArray, List.getElem?_cons_zero, List.getElem?_cons_succ]; rfl) (fun K hK => ?_) ?_
        · refine stp (by with_unfolding_all rfl) (wp_fbsl T_u8 hF12 (vs := [bv 1]) (by with_unfolding_all rfl) (by with_unfolding_all rfl) (by with_unfolding_all rfl) (by decide) (by simp [bv, Value.cells]) ?_)
          intro w13 g13 hF13 hz13
          refine hK.out _ _ ((hF13.blk (i := 3) rfl)) (fun _ => ?_)
          clear hK K
          (try simp only [Act.put, List.setIfInBounds_toArray, List.set_cons_zero, List.set_cons_succ])
          refine wpAnyH_ready (rs := [8]) (by kernel_rfl) (by simp) ?_
          refine AllReadyH.cons (by simp only [List.getElem?_toArray, List.getElem?_cons_zero, List.getElem?_cons_succ]; rfl) (fun K hK => ?_) ?_
          · refine stp (by with_unfolding_all rfl) (wp_fapp T_u8 hF13 (i := 0) (l := [1]) rfl (Nat.le_refl _) (hF13.rdOwn (i := 1) rfl) (by with_unfolding_all exact ⟨_, _, rfl, rfl, rfl⟩) (by simp only [List.length_cons, List.length_nil]; omega) ?_)
            intro v14 w14 hF14 hz14
            refine hK.out _ _ ((hF14.blk (i := 3) rfl)) (fun _ => ?_)
            clear hK K
            (try simp only [Act.put, List.setIfInBounds_toArray, List.set_cons_zero, List.set_cons_succ])
            refine wpAnyH_take (i := 9) (v := ?_) (by simp only [List.getElem?_toArray, List.getElem?_cons_zero, List.getElem?_cons_succ]; rfl) (by kernel_rfl) (by kernel_rfl) (by kernel_rfl) (by exact fun _ _ _ h => h) (Or.inl ⟨by with_unfolding_all rfl, ?_⟩) (hF14.blk (i := 3) rfl) ?_
            rotate_left
            · (intro w hSw; (try dsimp only at hSw); go_simp; try with_reducible rfl)
            (try simp only [Act.put, List.setIfInBounds_toArray, List.set_cons_zero, List.set_cons_succ])
            refine wpAnyH_done (by kernel_rfl) ?_ _
            go_wp2_with fail
            go_meet
            exact ⟨_, rfl, hF14.pick2 (i := 0) (j := 3) rfl rfl (by decide)⟩
          exact AllReadyH.nil
        exact AllReadyH.nil
      exact AllReadyH.nil
    exact AllReadyH.nil
  case rest =>
    obtain ⟨v4, rfl, hF3⟩ := hcut
    clear hF2 hx1
    go_wp2_with (first | (with_reducible refine lst (by with_unfolding_all rfl) (wp_fld1 hF3 Tryd.underlying9 rfl (by with_unfolding_all exact ⟨_, rfl, rfl⟩) (by first | with_unfolding_all rfl | assumption) ?_)) | ((with_reducible refine lst (by with_unfolding_all rfl) (wp_fs2b T_u8 Tryd.underlying5 Tryd.underlying9 hF3 (by with_unfolding_all exact ⟨_, rfl, rfl⟩) ?_)); intro w4 g4 c4 hF4 hz4 hc4))
    refine (text_any _ _ _ tag.data.toList _ (by omega) hF4.rd0).mono ?_
    rintro e w5 ⟨v5, rfl, ho5, hb5⟩
    obtain ⟨A5, c5, rfl, _, hr5⟩ := ho5.arg
    have hF5 := hF4.tail.call hb5
    have room5 : ([1] ++ textL repo.data.toList).length + (textL tag.data.toList).length ≤ 140737488355328 := by simp only [List.length_append, List.length_cons, List.length_nil]; omega
    have room6 : ([1] ++ textL repo.data.toList ++ textL tag.data.toList).length + 32 ≤ 140737488355328 := by simp only [List.length_append, List.length_cons, List.length_nil]; omega
    go_wp2_with (first | ((with_reducible refine lst (by with_unfolding_all rfl) (wp_fapp0 T_u8 hF5 (Nat.le_refl _) hr5 (by with_unfolding_all exact ⟨_, _, rfl, rfl, rfl⟩) room5 ?_)); intro v6 w6 hF6 hz6) | (with_reducible refine lst (by with_unfolding_all rfl) (wp_fld1 hF6 Tryd.underlying3 rfl (by with_unfolding_all exact ⟨_, rfl, rfl⟩) (by first | with_unfolding_all rfl | exact h35.out) ?_)) | ((with_reducible refine lst (by with_unfolding_all rfl) (wp_fapp0 T_u8 hF6 (Nat.le_refl _) (hF6.rdBlk1 (off := 3) (xs := d.map bv) hdm.out (rcL_dig hdm.out)) (by with_unfolding_all exact ⟨_, _, rfl, rfl, rfl⟩) room6 ?_)); intro v7 w7 hF7 hz7) | (with_reducible refine lst (by with_unfolding_all rfl) (wp_fld1 hF7 Tryd.underlying3 rfl (by with_unfolding_all exact ⟨_, rfl, rfl⟩) (by first | exact h35.out) ?_)))
    have hF7' := hF7
    refine (put_any i 8 _).mono ?_
    rintro e w8 ⟨v8, rfl, ho8, hb8⟩
    rw [putS_8] at ho8
    obtain ⟨A8, c8, rfl, _, hr8⟩ := ho8.arg
    have hF8 := hF7'.call hb8
    have room8 : ([1] ++ textL repo.data.toList ++ textL tag.data.toList ++ d).length + (putL i 8).length ≤ 140737488355328 := by simp only [List.length_append, List.length_cons, List.length_nil]; have := hd.out; omega
    go_wp2_with (first | ((with_reducible refine lst (by with_unfolding_all rfl) (wp_fapp0 T_u8 hF8 (Nat.le_refl _) hr8 (by with_unfolding_all exact ⟨_, _, rfl, rfl, rfl⟩) room8 ?_)); intro v9 w9 hF9 hz9))
    go_ret2
    exact ⟨_, rfl, by rw [hB.out]; exact hF9.bytes0, hF9.below⟩

set_option maxRecDepth 20000 in
set_option maxHeartbeats 1600000 in
theorem enc_good2 (repo tag : ByteArray) (d : List UInt8) (i : Nat) (w : World) (hM : MaxW w) (hd : d.length = 32) (hok : recOk ⟨2, repo, tag, d, (i : Int)⟩ = true) :
    Calls Tryd.prog 7 #[.agg (rcL (.int .i64 2) (.string repo) (.string tag) (d.map bv) (.int .i64 (i : Int))).toArray] w (Told w 5 (recB ⟨2, repo, tag, d, (i : Int)⟩) 0) := by
  obtain ⟨_, hr, ht, _, h5⟩ := recOk_iff hok
  have hrs := repo_size hr
  have hts := tag_size ht
  simp only [] at hrs hts h5
  have hri := box (fun w (hM : MaxW w) => right_any ⟨2, repo, tag, d, (i : Int)⟩ w hM hd (by show repo.size ≤ _; omega) (by show tag.size ≤ _; omega))
  rw [hok] at hri
  simp only [Rec.cells] at hri
  clear hr ht hok
  have hdm : (d.map bv).length = 32 := by rw [List.length_map]; exact hd
  have h35 := box (rcL_at (k := (Value.int .i64) 2) (a := .string repo) (b := .string tag) (t := (Value.int .i64) (i : Int)) hdm)
  have hB := box (recB_2 repo tag d i)
  have hpl := putL_len i 8
  replace hdm := box hdm
  replace hd := box hd
  have hT := textL_len repo.data.toList (by rw [str_len]; omega)
  have hT2 := textL_len tag.data.toList (by rw [str_len]; omega)
  rw [str_len] at hT hT2
  have hF0 := Fr.nil w
  have hx1 : IntKind.u8.wrap 2 = 2 := by decide
  go_enter Tryd.func7, Tryd.ntmps7
  go_wp2_with (first | ((with_reducible refine lst (by with_unfolding_all rfl) (wp_fbox hF0 (cs := (rcL (.int .i64 2) (.string repo) (.string tag) (d.map bv) (.int .i64 (i : Int)))) rfl (by with_unfolding_all rfl) (by with_unfolding_all rfl) ?_)); intro w1 g1 hF1 hz1) | (with_reducible refine lst (by with_unfolding_all rfl) (wp_fldA0 hF1 Tryd.underlying31 rfl (by with_unfolding_all exact ⟨_, rfl, rfl⟩) (ds := (rcL (.int .i64 2) (.string repo) (.string tag) (d.map bv) (.int .i64 (i : Int)))) (by rw [rc_len hdm.out]; kernel_rfl) (take_all _) ?_)))
  refine (hri.out _ (hF1.maxW hM)).mono ?_
  rintro e w2 ⟨rfl, hb2⟩
  have hF2 := hF1.call hb2
  clear hri hF0 hF1
  go_upto_region 3 with (fail)
  go_cut [4] (fun s4 wx => ∃ v, s4 = v ∧ Fr [] w wx [Ent.bytes w.heap.size 5 v ([2] ++ textL repo.data.toList), .blk g1 31 (rcL (.int .i64 2) (.string repo) (.string tag) (d.map bv) (.int .i64 (i : Int)))])
  case first =>
    have hF2d := hF2.drew
    refine wp_region_held (S := fun w' => w'.heap[g1]? = some (.cells (List.toArray (rcL (.int .i64 2) (.string repo) (.string tag) (d.map bv) (.int .i64 (i : Int)))) 31 (0, 0))) (by kernel_rfl) ?_
    change wpAnyH _ _ _ _ _ _ _ _ (World.drew _)
    refine wpAnyH_take (i := 0) (v := ?_) (by simp only [List.getElem?_toArray, List.getElem?_cons_zero]; rfl) (by kernel_rfl) (by kernel_rfl) (by kernel_rfl) (by exact fun _ _ _ h => h) (Or.inl ⟨by with_unfolding_all rfl, ?_⟩) (hF2d.blk (i := 0) rfl) ?_
    rotate_left
    · (intro w hSw; (try dsimp only at hSw); go_simp; try with_reducible rfl)
    (try simp only [Act.put, List.setIfInBounds_toArray, List.set_cons_zero, List.set_cons_succ])
    refine wpAnyH_take (i := 1) (by simp only [List.getElem?_toArray, List.getElem?_cons_zero, List.getElem?_cons_succ]; rfl) (by kernel_rfl) (by kernel_rfl) (by kernel_rfl) (by exact fun _ _ _ h => h) (yi_fld (by with_unfolding_all rfl) (fun _ h => h) Tryd.underlying3 rfl (by with_unfolding_all exact ⟨_, rfl, rfl⟩) rfl) (hF2d.blk (i := 0) rfl) ?_
    (try simp only [Act.put, List.setIfInBounds_toArray, List.set_cons_zero, List.set_cons_succ])
    refine wpAnyH_take (i := 2) (v := ?_) (by simp only [List.getElem?_toArray, List.getElem?_cons_zero, List.getElem?_cons_succ]; rfl) (by kernel_rfl) (by kernel_rfl) (by kernel_rfl) (by exact fun _ _ _ h => h) (Or.inl ⟨by with_unfolding_all rfl, ?_⟩) (hF2d.blk (i := 0) rfl) ?_
    rotate_left
    · (intro w hSw; (try dsimp only at hSw); go_simp; try with_reducible rfl)
    (try simp only [Act.put, List.setIfInBounds_toArray, List.set_cons_zero, List.set_cons_succ])
    refine wpAnyH_take (i := 4) (v := ?_) (by simp only [List.getElem?_toArray, List.getElem?_cons_zero, List.getElem?_cons_succ]; rfl) (by kernel_rfl) (by kernel_rfl) (by kernel_rfl) (by exact fun _ _ _ h => h) (Or.inl ⟨by with_unfolding_all rfl, ?_⟩) (hF2d.blk (i := 0) rfl) ?_
    rotate_left
    · (intro w hSw; (try dsimp only at hSw); go_simp; try with_reducible rfl)
    (try simp only [Act.put, List.setIfInBounds_toArray, List.set_cons_zero, List.set_cons_succ])
    refine wpAnyH_take (i := 5) (by simp only [List.getElem?_toArray, List.getElem?_cons_zero, List.getElem?_cons_succ]; rfl) (by kernel_rfl) (by kernel_rfl) (by kernel_rfl) (by exact fun _ _ _ h => h) (yi_fld (by with_unfolding_all rfl) (fun _ h => h) Tryd.underlying9 rfl (by with_unfolding_all exact ⟨_, rfl, rfl⟩) rfl) (hF2d.blk (i := 0) rfl) ?_
    (try simp only [Act.put, List.setIfInBounds_toArray, List.set_cons_zero, List.set_cons_succ])
    refine wpAnyH_ready (rs := [3, 6]) (by kernel_rfl) (by simp) ?_
    refine AllReadyH.cons (by simp only [List.getElem?_toArray, List.getElem?_cons_zero, List.getElem?_cons_succ]; rfl) (fun K hK => ?_) ?_
    · refine stp (by with_unfolding_all rfl) (wp_fbsl T_u8 hF2d (vs := [bv 2]) (by with_unfolding_all rfl) (by with_unfolding_all rfl) (by with_unfolding_all rfl) (by decide) (by simp [bv, Value.cells]) ?_)
      intro w11 g11 hF11 hz11
      refine hK.out _ _ ((hF11.blk (i := 1) rfl)) (fun _ => ?_)
      clear hK K
      (try simp only [Act.put, List.setIfInBounds_toArray, List.set_cons_zero, List.set_cons_succ])
      refine wpAnyH_ready (rs := [6]) (by kernel_rfl) (by simp) ?_
      refine AllReadyH.cons (by simp only [List.getElem?_toArray, List.getElem?_cons_zero, List.getElem?_cons_succ]; rfl) (fun K hK => ?_) ?_
      · refine stp (by with_unfolding_all rfl) (wp_fs2b T_u8 Tryd.underlying5 Tryd.underlying9 hF11 (by with_unfolding_all exact ⟨_, rfl, rfl⟩) ?_)
        intro w12 g12 c12 hF12 hz12 hc12
        refine hK.out _ _ ((hF12.blk (i := 2) rfl)) (fun _ => ?_)
        clear hK K
        (try simp only [Act.put, List.setIfInBounds_toArray, List.set_cons_zero, List.set_cons_succ])
        refine wpAnyH_ready (rs := [7]) (by kernel_rfl) (by simp) ?_
        refine AllReadyH.cons (by simp only [List.getElem?_toArray, List.getElem?_cons_zero, List.getElem?_cons_succ]; rfl) (fun K hK => ?_) ?_
        · refine stp (by with_unfolding_all rfl) (wp_call Tryd.func23 rfl (by with_unfolding_all rfl) (by with_unfolding_all rfl) (by with_unfolding_all rfl) (text_any _ _ _ repo.data.toList _ (by omega) (hF12.rd (i := 0) rfl)) ?_)
          rintro e w13 ⟨v13, rfl, ho13, hb13⟩
          refine ⟨_, rfl, ?_⟩
          obtain ⟨A13, c13, rfl, hc13, hr13⟩ := ho13.arg
          have hF13 := hF12.gotB hb13 ho13
          refine hK.out _ _ ((hF13.blk (i := 3) rfl)) (fun _ => ?_)
          clear hK K
          (try simp only [Act.put, List.setIfInBounds_toArray, List.set_cons_zero, List.set_cons_succ])
          refine wpAnyH_ready (rs := [8]) (by kernel_rfl) (by simp) ?_
          refine AllReadyH.cons (by simp only [List.getElem?_toArray, List.getElem?_cons_zero, List.getElem?_cons_succ]; rfl) (fun K hK => ?_) ?_
          · refine stp (by with_unfolding_all rfl) (wp_fapp T_u8 hF13 (i := 2) (l := [2]) rfl (Nat.le_refl _) (hF13.rdOwn (i := 0) rfl) (by with_unfolding_all exact ⟨_, _, rfl, rfl, rfl⟩) (by simp only [List.length_cons, List.length_nil]; omega) ?_)
            intro v14 w14 hF14 hz14
            refine hK.out _ _ ((hF14.blk (i := 3) rfl)) (fun _ => ?_)
            clear hK K
            (try simp only [Act.put, List.setIfInBounds_toArray, List.set_cons_zero, List.set_cons_succ])
            refine wpAnyH_take (i := 9) (v := ?_) (by simp only [List.getElem?_toArray, List.getElem?_cons_zero, List.getElem?_cons_succ]; rfl) (by kernel_rfl) (by kernel_rfl) (by kernel_rfl) (by exact fun _ _ _ h => h) (Or.inl ⟨by with_unfolding_all rfl, ?_⟩) (hF14.blk (i := 3) rfl) ?_
            rotate_left
            · (intro w hSw; (try dsimp only at hSw); go_simp; try with_reducible rfl)
            (try simp only [Act.put, List.setIfInBounds_toArray, List.set_cons_zero, List.set_cons_succ])
            refine wpAnyH_done (by kernel_rfl) ?_ _
            go_wp2_with fail
            go_meet
            exact ⟨_, rfl, hF14.pick2 (i := 2) (j := 3) rfl rfl (by decide)⟩
          exact AllReadyH.nil
        exact AllReadyH.nil
      exact AllReadyH.nil
    refine AllReadyH.cons (by simp only [List.getElem?_toArray, List.getElem?_cons_zero, List.getElem?_cons_succ]; rfl) (fun K hK => ?_) ?_
    · refine stp (by with_unfolding_all rfl) (wp_fs2b T_u8 Tryd.underlying5 Tryd.underlying9 hF2d (by with_unfolding_all exact ⟨_, rfl, rfl⟩) ?_)
      intro w11 g11 c11 hF11 hz11 hc11
      refine hK.out _ _ ((hF11.blk (i := 1) rfl)) (fun _ => ?_)
      clear hK K
      (try simp only [Act.put, List.setIfInBounds_toArray, List.set_cons_zero, List.set_cons_succ])
      refine wpAnyH_ready (rs := [3, 7]) (by kernel_rfl) (by simp) ?_
      refine AllReadyH.cons (by simp only [List.getElem?_toArray, List.getElem?_cons_zero, List.getElem?_cons_succ]; rfl) (fun K hK => ?_) ?_
      · refine stp (by with_unfolding_all rfl) (wp_fbsl T_u8 hF11 (vs := [bv 2]) (by with_unfolding_all rfl) (by with_unfolding_all rfl) (by with_unfolding_all rfl) (by decide) (by simp [bv, Value.cells]) ?_)
        intro w12 g12 hF12 hz12
        refine hK.out _ _ ((hF12.blk (i := 2) rfl)) (fun _ => ?_)
        clear hK K
        (try simp only [Act.put, List.setIfInBounds_toArray, List.set_cons_zero, List.set_cons_succ])
        refine wpAnyH_ready (rs := [7]) (by kernel_rfl) (by simp) ?_
        refine AllReadyH.cons (by simp only [List.getElem?_toArray, List.getElem?_cons_zero, List.getElem?_cons_succ]; rfl) (fun K hK => ?_) ?_
        · refine stp (by with_unfolding_all rfl) (wp_call Tryd.func23 rfl (by with_unfolding_all rfl) (by with_unfolding_all rfl) (by with_unfolding_all rfl) (text_any _ _ _ repo.data.toList _ (by omega) (hF12.rd (i := 1) rfl)) ?_)
          rintro e w13 ⟨v13, rfl, ho13, hb13⟩
          refine ⟨_, rfl, ?_⟩
          obtain ⟨A13, c13, rfl, hc13, hr13⟩ := ho13.arg
          have hF13 := hF12.gotB hb13 ho13
          refine hK.out _ _ ((hF13.blk (i := 3) rfl)) (fun _ => ?_)
          clear hK K
          (try simp only [Act.put, List.setIfInBounds_toArray, List.set_cons_zero, List.set_cons_succ])
          refine wpAnyH_ready (rs := [8]) (by kernel_rfl) (by simp) ?_
          refine AllReadyH.cons (by simp only [List.getElem?_toArray, List.getElem?_cons_zero, List.getElem?_cons_succ]; rfl) (fun K hK => ?_) ?_
          · refine stp (by with_unfolding_all rfl) (wp_fapp T_u8 hF13 (i := 1) (l := [2]) rfl (Nat.le_refl _) (hF13.rdOwn (i := 0) rfl) (by with_unfolding_all exact ⟨_, _, rfl, rfl, rfl⟩) (by simp only [List.length_cons, List.length_nil]; omega) ?_)
            intro v14 w14 hF14 hz14
            refine hK.out _ _ ((hF14.blk (i := 3) rfl)) (fun _ => ?_)
            clear hK K
            (try simp only [Act.put, List.setIfInBounds_toArray, List.set_cons_zero, List.set_cons_succ])
            refine wpAnyH_take (i := 9) (v := ?_) (by simp only [List.getElem?_toArray, List.getElem?_cons_zero, List.getElem?_cons_succ]; rfl) (by kernel_rfl) (by kernel_rfl) (by kernel_rfl) (by exact fun _ _ _ h => h) (Or.inl ⟨by with_unfolding_all rfl, ?_⟩) (hF14.blk (i := 3) rfl) ?_
            rotate_left
            · (intro w hSw; (try dsimp only at hSw); go_simp; try with_reducible rfl)
            (try simp only [Act.put, List.setIfInBounds_toArray, List.set_cons_zero, List.set_cons_succ])
            refine wpAnyH_done (by kernel_rfl) ?_ _
            go_wp2_with fail
            go_meet
            exact ⟨_, rfl, hF14.pick2 (i := 1) (j := 3) rfl rfl (by decide)⟩
          exact AllReadyH.nil
        exact AllReadyH.nil
      refine AllReadyH.cons (by simp only [List.getElem?_toArray, List.getElem?_cons_zero, List.getElem?_cons_succ]; rfl) (fun K hK => ?_) ?_
      · refine stp (by with_unfolding_all rfl) (wp_call Tryd.func23 rfl (by with_unfolding_all rfl) (by with_unfolding_all rfl) (by with_unfolding_all rfl) (text_any _ _ _ repo.data.toList _ (by omega) (hF11.rd (i := 0) rfl)) ?_)
        rintro e w12 ⟨v12, rfl, ho12, hb12⟩
        refine ⟨_, rfl, ?_⟩
        obtain ⟨A12, c12, rfl, hc12, hr12⟩ := ho12.arg
        have hF12 := hF11.gotB hb12 ho12
        refine hK.out _ _ ((hF12.blk (i := 2) rfl)) (fun _ => ?_)
        clear hK K
        (try simp only [Act.put, List.setIfInBounds_toArray, List.set_cons_zero, List.set_cons_succ])
        refine wpAnyH_ready (rs := [3]) (by kernel_rfl) (by simp) ?_
        refine AllReadyH.cons (by simp only [List.getElem?_toArray, List.getElem?_cons_zero, List.getElem?_cons_succ]; rfl) (fun K hK => ?_) ?_
        · refine stp (by with_unfolding_all rfl) (wp_fbsl T_u8 hF12 (vs := [bv 2]) (by with_unfolding_all rfl) (by with_unfolding_all rfl) (by with_unfolding_all rfl) (by decide) (by simp [bv, Value.cells]) ?_)
          intro w13 g13 hF13 hz13
          refine hK.out _ _ ((hF13.blk (i := 3) rfl)) (fun _ => ?_)
          clear hK K
          (try simp only [Act.put, List.setIfInBounds_toArray, List.set_cons_zero, List.set_cons_succ])
          refine wpAnyH_ready (rs := [8]) (by kernel_rfl) (by simp) ?_
          refine AllReadyH.cons (by simp only [List.getElem?_toArray, List.getElem?_cons_zero, List.getElem?_cons_succ]; rfl) (fun K hK => ?_) ?_
          · refine stp (by with_unfolding_all rfl) (wp_fapp T_u8 hF13 (i := 0) (l := [2]) rfl (Nat.le_refl _) (hF13.rdOwn (i := 1) rfl) (by with_unfolding_all exact ⟨_, _, rfl, rfl, rfl⟩) (by simp only [List.length_cons, List.length_nil]; omega) ?_)
            intro v14 w14 hF14 hz14
            refine hK.out _ _ ((hF14.blk (i := 3) rfl)) (fun _ => ?_)
            clear hK K
            (try simp only [Act.put, List.setIfInBounds_toArray, List.set_cons_zero, List.set_cons_succ])
            refine wpAnyH_take (i := 9) (v := ?_) (by simp only [List.getElem?_toArray, List.getElem?_cons_zero, List.getElem?_cons_succ]; rfl) (by kernel_rfl) (by kernel_rfl) (by kernel_rfl) (by exact fun _ _ _ h => h) (Or.inl ⟨by with_unfolding_all rfl, ?_⟩) (hF14.blk (i := 3) rfl) ?_
            rotate_left
            · (intro w hSw; (try dsimp only at hSw); go_simp; try with_reducible rfl)
            (try simp only [Act.put, List.setIfInBounds_toArray, List.set_cons_zero, List.set_cons_succ])
            refine wpAnyH_done (by kernel_rfl) ?_ _
            go_wp2_with fail
            go_meet
            exact ⟨_, rfl, hF14.pick2 (i := 0) (j := 3) rfl rfl (by decide)⟩
          exact AllReadyH.nil
        exact AllReadyH.nil
      exact AllReadyH.nil
    exact AllReadyH.nil
  case rest =>
    obtain ⟨v4, rfl, hF3⟩ := hcut
    clear hF2 hx1
    go_wp2_with (first | (with_reducible refine lst (by with_unfolding_all rfl) (wp_fld1 hF3 Tryd.underlying9 rfl (by with_unfolding_all exact ⟨_, rfl, rfl⟩) (by first | with_unfolding_all rfl | assumption) ?_)) | ((with_reducible refine lst (by with_unfolding_all rfl) (wp_fs2b T_u8 Tryd.underlying5 Tryd.underlying9 hF3 (by with_unfolding_all exact ⟨_, rfl, rfl⟩) ?_)); intro w4 g4 c4 hF4 hz4 hc4))
    refine (text_any _ _ _ tag.data.toList _ (by omega) hF4.rd0).mono ?_
    rintro e w5 ⟨v5, rfl, ho5, hb5⟩
    obtain ⟨A5, c5, rfl, _, hr5⟩ := ho5.arg
    have hF5 := hF4.tail.call hb5
    have room5 : ([2] ++ textL repo.data.toList).length + (textL tag.data.toList).length ≤ 140737488355328 := by simp only [List.length_append, List.length_cons, List.length_nil]; omega
    have room6 : ([2] ++ textL repo.data.toList ++ textL tag.data.toList).length + 32 ≤ 140737488355328 := by simp only [List.length_append, List.length_cons, List.length_nil]; omega
    go_wp2_with (first | ((with_reducible refine lst (by with_unfolding_all rfl) (wp_fapp0 T_u8 hF5 (Nat.le_refl _) hr5 (by with_unfolding_all exact ⟨_, _, rfl, rfl, rfl⟩) room5 ?_)); intro v6 w6 hF6 hz6) | (with_reducible refine lst (by with_unfolding_all rfl) (wp_fld1 hF6 Tryd.underlying3 rfl (by with_unfolding_all exact ⟨_, rfl, rfl⟩) (by first | with_unfolding_all rfl | exact h35.out) ?_)))
    have hF7' := hF6
    refine (put_any i 8 _).mono ?_
    rintro e w8 ⟨v8, rfl, ho8, hb8⟩
    rw [putS_8] at ho8
    obtain ⟨A8, c8, rfl, _, hr8⟩ := ho8.arg
    have hF8 := hF7'.call hb8
    have room8 : ([2] ++ textL repo.data.toList ++ textL tag.data.toList).length + (putL i 8).length ≤ 140737488355328 := by simp only [List.length_append, List.length_cons, List.length_nil]; have := hd.out; omega
    go_wp2_with (first | ((with_reducible refine lst (by with_unfolding_all rfl) (wp_fapp0 T_u8 hF8 (Nat.le_refl _) hr8 (by with_unfolding_all exact ⟨_, _, rfl, rfl, rfl⟩) room8 ?_)); intro v9 w9 hF9 hz9))
    go_ret2
    exact ⟨_, rfl, by rw [hB.out]; exact hF9.bytes0, hF9.below⟩

set_option maxRecDepth 20000 in
set_option maxHeartbeats 1600000 in
theorem enc_bad (r : Rec) (w : World) (hM : MaxW w) (hd : r.d.length = 32) (hs : r.repo.size ≤ 4000000000) (ht : r.tag.size ≤ 4000000000) (hok : recOk r = false) :
    Calls Tryd.prog 7 #[.agg r.cells.toArray] w (Told w 5 [] 1) := by
  have hri := box (fun w (hM : MaxW w) => right_any r w hM hd hs ht)
  rw [hok] at hri
  have hL := box (r.len hd)
  have hF0 := Fr.nil w
  clear hok
  go_enter Tryd.func7, Tryd.ntmps7
  go_wp2_with (first | ((with_reducible refine lst (by with_unfolding_all rfl) (wp_fbox hF0 (cs := r.cells) rfl (by with_unfolding_all rfl) (by with_unfolding_all rfl) ?_)); intro w1 g1 hF1 hz1) | (with_reducible refine lst (by with_unfolding_all rfl) (wp_fldA0 hF1 Tryd.underlying31 rfl (by with_unfolding_all exact ⟨_, rfl, rfl⟩) (ds := r.cells) (by rw [hL.out]; kernel_rfl) (take_all _) ?_)))
  refine (hri.out _ (hF1.maxW hM)).mono ?_
  rintro e w2 ⟨rfl, hb2⟩
  have hF2 := hF1.call hb2
  go_wp2_with fail
  go_ret2
  exact ⟨_, rfl, OwnB.nil _ _ _, hF2.below⟩
theorem enc_any (r : Rec) (w : World) (hM : MaxW w) (hd : r.d.length = 32) (hs : r.repo.size ≤ 4000000000) (ht : r.tag.size ≤ 4000000000) :
    Calls Tryd.prog 7 #[.agg r.cells.toArray] w (Told w 5 (if recOk r = true then recB r else []) (if recOk r = true then 0 else 1)) := by
  by_cases h : recOk r = true
  · rw [if_pos h, if_pos h]
    obtain ⟨kind, repo, tag, d, t⟩ := r
    obtain ⟨hk, _, _, h0, _⟩ := recOk_iff h
    obtain ⟨i, rfl⟩ := Int.eq_ofNat_of_zero_le h0
    simp only [kindB, Bool.or_eq_true, Bool.and_eq_true, beq_iff_eq] at hk
    rcases hk with rfl | ⟨rfl, _⟩
    · exact enc_good1 repo tag d i w hM hd h
    · exact enc_good2 repo tag d i w hM hd h
  · rw [if_neg h, if_neg h]; exact enc_bad r w hM hd hs ht (by simpa using h)
end Go.Proofs.YtpdbjhgphgcjoaaDoor
