/-
  Layer 14: the walk of the law on heads.
-/
import Derived.Test.YtpdbjhgphgcjoaaDoorJ20
import Derived.Test.YtpdbjhgphgcjoaaDoorJ22
namespace Go.Proofs.YtpdbjhgphgcjoaaDoor
open Go.RowKit
set_option linter.unusedSimpArgs false

theorem hd_fill3 {s t : Value} {dg : List Value} (hd : dg.length = 32) (hs : s.cells = #[s]) (ht : t.cells = #[t]) :
    Instr.fill (fun i : Nat => hdP[i]?) hd0.toArray [(0, s), (1, .agg dg.toArray), (2, t)] = some (hdL s dg t).toArray := by
  unfold hd0
  rw [fill_step (off := 0) (size := 1) rfl (by rw [hs]; rfl) (by rw [hd_len zeros_len]; omega), hs, hdL_0,
    fill_step (off := 1) (size := 32) rfl (by simpa [Value.cells] using hd) (by rw [hd_len zeros_len]; omega), show (Value.agg dg.toArray).cells.toList = dg from rfl, hdL_1 (by rw [zeros_len, hd]),
    fill_step (off := 33) (size := 1) rfl (by rw [ht]; rfl) (by rw [hd_len hd]; omega), ht, hdL_33 hd]
  rfl
theorem Hd.len (h : Hd) (hr : h.root.length = 32) : h.cells.length = 34 := hd_len (by rw [List.length_map]; exact hr)
theorem hdB_len {h : Hd} (hr : h.root.length = 32) : (hdB h).length = 49 := by
  unfold hdB
  have p1 := putL_len h.size.toNat 8
  have p2 := putL_len h.t.toNat 8
  simp only [List.length_append, List.length_cons, List.length_nil]
  omega

set_option maxRecDepth 20000 in
set_option maxHeartbeats 6400000 in
theorem recordHeads_any (h : Hd) (A : Option Addr) (n c : Nat) (l : List UInt8) (w : World) (hM : MaxW w) (hd : h.root.length = 32) (hm : n ≤ 140737488355000) (hnc : n ≤ c) (hr : Rd w (· < w.heap.size) A 1 n (l.map bv)) :
    Calls Tryd.prog 6 #[.agg h.cells.toArray, .slice A n c] w fun e w' => e = .returned (.bool true) ∧ Below w.heap.size w w' := by
  have hF0 := Fr.nil w
  have hz0 := box hd0_len
  have hdm : (h.root.map bv).length = 32 := by rw [List.length_map]; exact hd
  have h33 := box (hdL_at (s := (Value.int .i64) h.size) (t := (Value.int .i64) h.t) hdm)
  have hfl := box (hd_fill3 (s := .int .i64 h.size) (t := .int .i64 h.t) hdm rfl rfl)
  have hC := box (h.len hd)
  have hCD := box ((hdD l).1.len (hdD_root l))
  have he1 := box (fun w => ench_any h w hd)
  have he2 := box (fun w => rench_any h w hd)
  have hd1 := box (fun w hr => dech_any A n c l w hm hnc hr)
  have hd2 := box (fun w hr => rdech_any A n c l w hm hnc hr)
  have hr1 := box (fun w => righth_any h w hd)
  have hr2 := box (fun w => rrighth_any h w hd)
  have hq1 := box (hd_eq (P := Tryd.prog) (t := 46) (u8 := 5) (x := (hdD l).1) (y := (hdD l).1) ⟨Tryd.underlying46, by kernel_rfl, by kernel_rfl, by kernel_rfl, by kernel_rfl, by kernel_rfl, by kernel_rfl, by kernel_rfl, by kernel_rfl, by kernel_rfl⟩ (hdD_root l) (hdD_root l))
  rw [sameHd_self] at hq1
  have hq2 := box (hd_eq (P := Tryd.prog) (t := 46) (u8 := 5) (x := h) (y := h) ⟨Tryd.underlying46, by kernel_rfl, by kernel_rfl, by kernel_rfl, by kernel_rfl, by kernel_rfl, by kernel_rfl, by kernel_rfl, by kernel_rfl, by kernel_rfl⟩ hd hd)
  rw [sameHd_self] at hq2
  have hDr : ((hdD l).1.root.map bv).length = 32 := by rw [List.length_map]; exact hdD_root l
  have h33D := box (hdL_at (s := (Value.int .i64) (hdD l).1.size) (t := (Value.int .i64) (hdD l).1.t) hDr)
  have hflD := box (hd_fill3 (s := .int .i64 (hdD l).1.size) (t := .int .i64 (hdD l).1.t) hDr rfl rfl)
  have hcase : hdOk h = true ∧ hdD (hdB h) = (h, 0) ∧ (hdB h).length = 49 ∨ hdOk h = false := by
    cases ho : hdOk h with
    | true => exact .inl ⟨rfl, hdD_back hd ho, hdB_len hd⟩
    | false => exact .inr rfl
  have hlen : (if hdOk h = true then hdB h else []).length ≤ 49 := by
    split
    · rw [hdB_len hd]; omega
    · exact Nat.zero_le _
  replace hd := box hd
  replace hdm := box hdm
  replace hDr := box hDr
  obtain ⟨l2, hl2⟩ : ∃ l2, l2 = if hdOk h = true then hdB h else [] := ⟨_, rfl⟩
  obtain ⟨er, her⟩ : ∃ er : Int, er = if hdOk h = true then 0 else 1 := ⟨_, rfl⟩
  rw [← hl2, ← her] at he1 he2
  rw [← hl2] at hlen
  have hback : Box (er = 0 ∧ hdD l2 = (h, 0) ∨ er = 1) := box (by
    rcases hcase with ⟨a, b, _⟩ | a
    · rw [a, if_pos rfl] at hl2 her
      exact .inl ⟨her, hl2 ▸ b⟩
    · rw [a, if_neg (by decide)] at her
      exact .inr her)
  clear hl2 her hcase
  have hzd := box (fun A c w hnc hr => dech_any A l2.length c l2 w (by omega) hnc hr)
  have hrt := box (hdD_root l2)
  generalize hdOk h = ok at *
  generalize hdD l2 = D2 at *
  generalize hdD l = D at *
  obtain ⟨y, g⟩ := D
  simp only [] at hCD hd1 hd2 hq1 hDr h33D hflD
  go_enter Tryd.func6, Tryd.ntmps6
  go_wp2_with (first | ((with_reducible refine lst (by with_unfolding_all rfl) (wp_fbox hF0 (cs := h.cells) rfl (by with_unfolding_all rfl) (by with_unfolding_all rfl) ?_)); intro w1 g1 hF1 hz1) | (with_reducible refine lst (by with_unfolding_all rfl) (wp_fld0 hF1 Tryd.underlying3 rfl (by with_unfolding_all exact ⟨_, rfl, rfl⟩) (by first | with_unfolding_all rfl | with_unfolding_all exact h33.out) ?_)) | (with_reducible refine lst (by with_unfolding_all rfl) (wp_fldA0 hF1 Tryd.underlying22 rfl (by with_unfolding_all exact ⟨_, rfl, rfl⟩) (ds := (h.root.map bv)) (by rw [hdm.out]; kernel_rfl) (by with_unfolding_all exact hdL_dig rfl) ?_)) | (with_reducible refine lst (by with_unfolding_all rfl) (wp_fbuild Tryd.underlying46 (z := .agg (List.toArray hd0)) (by kernel_rfl) (pl := hdP) (by kernel_rfl) (cs := h.cells) rfl (vs := [(0, .int .i64 h.size), (1, .agg (h.root.map bv).toArray), (2, .int .i64 h.t)]) (by with_unfolding_all rfl) (by with_unfolding_all exact hfl.out) ?_)) | ((with_reducible refine lst (by with_unfolding_all rfl) (wp_falloc hF1 (cs := hd0) (z := .agg (List.toArray (hd0))) rfl (by kernel_rfl) (by with_unfolding_all rfl) ?_)); intro w2 g2 hF2 hz2) | ((with_reducible refine lst (by with_unfolding_all rfl) (wp_fstA0 hF2 (by with_unfolding_all exact ⟨_, _, rfl, rfl, rfl⟩) (by rw [hC.out]; kernel_rfl) (Hd.one _) (by rw [hC.out, hz0.out]; omega) (spl_all (by rw [hC.out, hz0.out])) ?_)); intro w3 hF3 hz3) | (with_reducible refine lst (by with_unfolding_all rfl) (wp_fldA0 hF3 Tryd.underlying46 rfl (by with_unfolding_all exact ⟨_, rfl, rfl⟩) (ds := h.cells) (by rw [hC.out]; kernel_rfl) (take_all _) ?_)))
  refine (he1.out _).mono ?_
  rintro e w4 ⟨v4, rfl, ho4, hb4⟩
  obtain ⟨A4, c4, rfl, hn4, _⟩ := ho4.arg
  have hF4 := hF3.gotB hb4 ho4
  go_wp2_with (first | (with_reducible refine lst (by with_unfolding_all rfl) (wp_fldA2 hF4 Tryd.underlying51 rfl (by with_unfolding_all exact ⟨_, rfl, rfl⟩) (ds := h.cells) (by rw [hC.out]; kernel_rfl) (take_all _) ?_)))
  refine (he2.out _).mono ?_
  rintro e w5 ⟨v5, rfl, ho5, hb5⟩
  obtain ⟨A5, c5, rfl, hn5, _⟩ := ho5.arg
  have hF5 := hF4.gotB hb5 ho5
  go_wp2_with fail
  refine (hd1.out _ (hF5.rdOld hr)).mono ?_
  rintro e w6 ⟨rfl, hb6⟩
  have hF6 := hF5.call hb6
  go_wp2_with (first | ((with_reducible refine lst (by with_unfolding_all rfl) (wp_falloc hF6 (cs := hd0) (z := .agg (List.toArray (hd0))) rfl (by kernel_rfl) (by with_unfolding_all rfl) ?_)); intro w7 g7 hF7 hz7) | ((with_reducible refine lst (by with_unfolding_all rfl) (wp_fstA0 hF7 (by with_unfolding_all exact ⟨_, _, rfl, rfl, rfl⟩) (by rw [hCD.out]; kernel_rfl) (Hd.one _) (by rw [hCD.out, hz0.out]; omega) (spl_all (by rw [hCD.out, hz0.out])) ?_)); intro w8 hF8 hz8))
  refine (hd2.out _ (hF8.rdOld hr)).mono ?_
  rintro e w9 ⟨rfl, hb9⟩
  have hF9 := hF8.call hb9
  clear hF0 hF1 hF2 hF3 hF4 hF5 hF6 ho4 ho5 hb4 hb5 hb6 he1 he2 hd1 hd2
  go_wp2_with (first | ((with_reducible refine lst (by with_unfolding_all rfl) (wp_falloc hF9 (cs := hd0) (z := .agg (List.toArray (hd0))) rfl (by kernel_rfl) (by with_unfolding_all rfl) ?_)); intro w10 g10 hF10 hz10) | ((with_reducible refine lst (by with_unfolding_all rfl) (wp_fstA0 hF10 (by with_unfolding_all exact ⟨_, _, rfl, rfl, rfl⟩) (by rw [hCD.out]; kernel_rfl) (Hd.one _) (by rw [hCD.out, hz0.out]; omega) (spl_all (by rw [hCD.out, hz0.out])) ?_)); intro w11 hF11 hz11) | fail)
  go_upto_region 6 with (fail)
  go_cut [78] (fun s78 wx => s78 = .bool false ∧ Fr [] w wx [.blk g10 51 y.cells, .blk g7 46 y.cells, Ent.bytes w.heap.size 5 (.slice A5 l2.length c5) l2, Ent.bytes w.heap.size 5 (.slice A4 l2.length c4) l2, .blk g2 46 h.cells, .blk g1 51 h.cells])
  case first =>
    have hFd := hF11.drew
    clear hF7 hF8 hF9 hF10 hF11
    refine wp_region_held (S := fun w' => w'.heap[g10]? = some (.cells (List.toArray y.cells) 51 (0, 0)) ∧ w'.heap[g7]? = some (.cells (List.toArray y.cells) 46 (0, 0)) ∧ w'.heap[g2]? = some (.cells (List.toArray h.cells) 46 (0, 0)) ∧ w'.heap[g1]? = some (.cells (List.toArray h.cells) 51 (0, 0))) (by kernel_rfl) ?_
    change wpAnyH _ _ _ _ _ _ _ _ (World.drew _)
    refine wpAnyH_ready (rs := [0]) (by kernel_rfl) (by simp) ?_
    refine AllReadyH.cons (by simp only [List.getElem?_toArray, List.getElem?_cons_zero]; rfl) (fun K hK => ?_) ?_
    · refine stp (by with_unfolding_all rfl) (wp_call Tryd.func10 rfl (by with_unfolding_all rfl) (by with_unfolding_all rfl) (by with_unfolding_all rfl) (awake_any _ (hFd.maxW hM)) ?_)
      rintro e w21 ⟨rfl, hb21⟩
      refine ⟨_, rfl, ?_⟩
      have hF21 := hFd.call hb21
      refine hK.out _ _ (⟨hF21.blk (i := 0) rfl, hF21.blk (i := 1) rfl, hF21.blk (i := 4) rfl, hF21.blk (i := 5) rfl⟩) (fun _ => ?_)
      clear hK K
      (try simp only [Act.put, List.setIfInBounds_toArray, List.set_cons_zero, List.set_cons_succ])
      refine wpAnyH_take (i := 1) (v := ?_) (by simp only [List.getElem?_toArray, List.getElem?_cons_zero, List.getElem?_cons_succ]; rfl) (by kernel_rfl) (by kernel_rfl) (by kernel_rfl) (by exact fun _ _ _ h => h) (Or.inl ⟨by with_unfolding_all rfl, ?_⟩) ⟨hF21.blk (i := 0) rfl, hF21.blk (i := 1) rfl, hF21.blk (i := 4) rfl, hF21.blk (i := 5) rfl⟩ ?_
      rotate_left
      · (intro w hSw; (try dsimp only at hSw); go_simp; try with_reducible rfl)
      (try simp only [Act.put, List.setIfInBounds_toArray, List.set_cons_zero, List.set_cons_succ])
      refine wpAnyH_take (i := 2) (v := ?_) (by simp only [List.getElem?_toArray, List.getElem?_cons_zero, List.getElem?_cons_succ]; rfl) (by kernel_rfl) (by kernel_rfl) (by kernel_rfl) (by exact fun _ _ _ h => h) (Or.inl ⟨by with_unfolding_all rfl, ?_⟩) ⟨hF21.blk (i := 0) rfl, hF21.blk (i := 1) rfl, hF21.blk (i := 4) rfl, hF21.blk (i := 5) rfl⟩ ?_
      rotate_left
      · (intro w hSw; (try dsimp only at hSw); go_simp; try with_reducible rfl)
      (try simp only [Act.put, List.setIfInBounds_toArray, List.set_cons_zero, List.set_cons_succ])
      refine wpAnyH_take (i := 3) (by simp only [List.getElem?_toArray, List.getElem?_cons_zero, List.getElem?_cons_succ]; rfl) (by kernel_rfl) (by kernel_rfl) (by kernel_rfl) (by exact fun _ _ _ h => h) (yi_fldA (by with_unfolding_all rfl) (fun _ h => h.2.2.1) Tryd.underlying46 rfl (by with_unfolding_all exact ⟨_, rfl, rfl⟩) (ds := h.cells) (by rw [hC.out]; kernel_rfl) (take_all _)) ⟨hF21.blk (i := 0) rfl, hF21.blk (i := 1) rfl, hF21.blk (i := 4) rfl, hF21.blk (i := 5) rfl⟩ ?_
      (try simp only [Act.put, List.setIfInBounds_toArray, List.set_cons_zero, List.set_cons_succ])
      refine wpAnyH_take (i := 5) (by simp only [List.getElem?_toArray, List.getElem?_cons_zero, List.getElem?_cons_succ]; rfl) (by kernel_rfl) (by kernel_rfl) (by kernel_rfl) (by exact fun _ _ _ h => h) (yi_fldA (by with_unfolding_all rfl) (fun _ h => h.2.2.2) Tryd.underlying51 rfl (by with_unfolding_all exact ⟨_, rfl, rfl⟩) (ds := h.cells) (by rw [hC.out]; kernel_rfl) (take_all _)) ⟨hF21.blk (i := 0) rfl, hF21.blk (i := 1) rfl, hF21.blk (i := 4) rfl, hF21.blk (i := 5) rfl⟩ ?_
      (try simp only [Act.put, List.setIfInBounds_toArray, List.set_cons_zero, List.set_cons_succ])
      refine wpAnyH_ready (rs := [4]) (by kernel_rfl) (by simp) ?_
      refine AllReadyH.cons (by simp only [List.getElem?_toArray, List.getElem?_cons_zero, List.getElem?_cons_succ]; rfl) (fun K hK => ?_) ?_
      · refine stp (by with_unfolding_all rfl) (wp_call Tryd.func21 rfl (by with_unfolding_all rfl) (by with_unfolding_all rfl) (by with_unfolding_all rfl) (hr1.out _) ?_)
        rintro e w22 ⟨rfl, hb22⟩
        refine ⟨_, rfl, ?_⟩
        have hF22 := hF21.call hb22
        refine hK.out _ _ (⟨hF22.blk (i := 0) rfl, hF22.blk (i := 1) rfl, hF22.blk (i := 4) rfl, hF22.blk (i := 5) rfl⟩) (fun _ => ?_)
        clear hK K
        (try simp only [Act.put, List.setIfInBounds_toArray, List.set_cons_zero, List.set_cons_succ])
        refine wpAnyH_ready (rs := [6]) (by kernel_rfl) (by simp) ?_
        refine AllReadyH.cons (by simp only [List.getElem?_toArray, List.getElem?_cons_zero, List.getElem?_cons_succ]; rfl) (fun K hK => ?_) ?_
        · refine stp (by with_unfolding_all rfl) (wp_call Tryd.func22 rfl (by with_unfolding_all rfl) (by with_unfolding_all rfl) (by with_unfolding_all rfl) (hr2.out _) ?_)
          rintro e w23 ⟨rfl, hb23⟩
          refine ⟨_, rfl, ?_⟩
          have hF23 := hF22.call hb23
          refine hK.out _ _ (⟨hF23.blk (i := 0) rfl, hF23.blk (i := 1) rfl, hF23.blk (i := 4) rfl, hF23.blk (i := 5) rfl⟩) (fun _ => ?_)
          clear hK K
          (try simp only [Act.put, List.setIfInBounds_toArray, List.set_cons_zero, List.set_cons_succ])
          refine wpAnyH_take (i := 7) (v := ?_) (by simp only [List.getElem?_toArray, List.getElem?_cons_zero, List.getElem?_cons_succ]; rfl) (by kernel_rfl) (by kernel_rfl) (by kernel_rfl) (by exact fun _ _ _ h => h) (Or.inl ⟨by with_unfolding_all rfl, ?_⟩) ⟨hF23.blk (i := 0) rfl, hF23.blk (i := 1) rfl, hF23.blk (i := 4) rfl, hF23.blk (i := 5) rfl⟩ ?_
          rotate_left
          · (intro w hSw; (try dsimp only at hSw); go_simp; try with_reducible rfl)
          (try simp only [Act.put, List.setIfInBounds_toArray, List.set_cons_zero, List.set_cons_succ])
          refine wpAnyH_take (i := 8) (v := ?_) (by simp only [List.getElem?_toArray, List.getElem?_cons_zero, List.getElem?_cons_succ]; rfl) (by kernel_rfl) (by kernel_rfl) (by kernel_rfl) (by exact fun _ _ _ h => h) (Or.inl ⟨by with_unfolding_all rfl, ?_⟩) ⟨hF23.blk (i := 0) rfl, hF23.blk (i := 1) rfl, hF23.blk (i := 4) rfl, hF23.blk (i := 5) rfl⟩ ?_
          rotate_left
          · (intro w hSw; (try dsimp only at hSw); go_simp; try with_reducible rfl)
          (try simp only [Act.put, List.setIfInBounds_toArray, List.set_cons_zero, List.set_cons_succ])
          refine wpAnyH_take (i := 9) (v := ?_) (by simp only [List.getElem?_toArray, List.getElem?_cons_zero, List.getElem?_cons_succ]; rfl) (by kernel_rfl) (by kernel_rfl) (by kernel_rfl) (by exact fun _ _ _ h => h) (Or.inl ⟨by with_unfolding_all rfl, ?_⟩) ⟨hF23.blk (i := 0) rfl, hF23.blk (i := 1) rfl, hF23.blk (i := 4) rfl, hF23.blk (i := 5) rfl⟩ ?_
          rotate_left
          · (intro w hSw; (try dsimp only at hSw); go_simp; try with_reducible rfl)
          (try simp only [Act.put, List.setIfInBounds_toArray, List.set_cons_zero, List.set_cons_succ])
          refine wpAnyH_take (i := 10) (v := ?_) (by simp only [List.getElem?_toArray, List.getElem?_cons_zero, List.getElem?_cons_succ]; rfl) (by kernel_rfl) (by kernel_rfl) (by kernel_rfl) (by exact fun _ _ _ h => h) (Or.inl ⟨by with_unfolding_all rfl, ?_⟩) ⟨hF23.blk (i := 0) rfl, hF23.blk (i := 1) rfl, hF23.blk (i := 4) rfl, hF23.blk (i := 5) rfl⟩ ?_
          rotate_left
          · (intro w hSw; (try dsimp only at hSw); go_simp; try with_reducible rfl)
          (try simp only [Act.put, List.setIfInBounds_toArray, List.set_cons_zero, List.set_cons_succ])
          refine wpAnyH_take (i := 11) (v := ?_) (by simp only [List.getElem?_toArray, List.getElem?_cons_zero, List.getElem?_cons_succ]; rfl) (by kernel_rfl) (by kernel_rfl) (by kernel_rfl) (by exact fun _ _ _ h => h) (Or.inl ⟨by with_unfolding_all rfl, ?_⟩) ⟨hF23.blk (i := 0) rfl, hF23.blk (i := 1) rfl, hF23.blk (i := 4) rfl, hF23.blk (i := 5) rfl⟩ ?_
          rotate_left
          · (intro w hSw; (try dsimp only at hSw); go_simp; try with_reducible rfl)
          (try simp only [Act.put, List.setIfInBounds_toArray, List.set_cons_zero, List.set_cons_succ])
          refine wpAnyH_take (i := 12) (v := ?_) (by simp only [List.getElem?_toArray, List.getElem?_cons_zero, List.getElem?_cons_succ]; rfl) (by kernel_rfl) (by kernel_rfl) (by kernel_rfl) (by exact fun _ _ _ h => h) (Or.inl ⟨by with_unfolding_all rfl, ?_⟩) ⟨hF23.blk (i := 0) rfl, hF23.blk (i := 1) rfl, hF23.blk (i := 4) rfl, hF23.blk (i := 5) rfl⟩ ?_
          rotate_left
          · (intro w hSw; (try dsimp only at hSw); go_simp; try with_reducible rfl)
          (try simp only [Act.put, List.setIfInBounds_toArray, List.set_cons_zero, List.set_cons_succ])
          refine wpAnyH_take (i := 13) (v := ?_) (by simp only [List.getElem?_toArray, List.getElem?_cons_zero, List.getElem?_cons_succ]; rfl) (by kernel_rfl) (by kernel_rfl) (by kernel_rfl) (by exact fun _ _ _ h => h) (Or.inl ⟨by with_unfolding_all rfl, ?_⟩) ⟨hF23.blk (i := 0) rfl, hF23.blk (i := 1) rfl, hF23.blk (i := 4) rfl, hF23.blk (i := 5) rfl⟩ ?_
          rotate_left
          · (intro w hSw; (try dsimp only at hSw); go_simp; try with_reducible rfl)
          (try simp only [Act.put, List.setIfInBounds_toArray, List.set_cons_zero, List.set_cons_succ])
          refine wpAnyH_take (i := 14) (v := ?_) (by simp only [List.getElem?_toArray, List.getElem?_cons_zero, List.getElem?_cons_succ]; rfl) (by kernel_rfl) (by kernel_rfl) (by kernel_rfl) (by exact fun _ _ _ h => h) (Or.inl ⟨by with_unfolding_all rfl, ?_⟩) ⟨hF23.blk (i := 0) rfl, hF23.blk (i := 1) rfl, hF23.blk (i := 4) rfl, hF23.blk (i := 5) rfl⟩ ?_
          rotate_left
          · (intro w hSw; (try dsimp only at hSw); go_simp; try with_reducible rfl)
          (try simp only [Act.put, List.setIfInBounds_toArray, List.set_cons_zero, List.set_cons_succ])
          refine wpAnyH_take (i := 15) (v := ?_) (by simp only [List.getElem?_toArray, List.getElem?_cons_zero, List.getElem?_cons_succ]; rfl) (by kernel_rfl) (by kernel_rfl) (by kernel_rfl) (by exact fun _ _ _ h => h) (Or.inl ⟨by with_unfolding_all rfl, ?_⟩) ⟨hF23.blk (i := 0) rfl, hF23.blk (i := 1) rfl, hF23.blk (i := 4) rfl, hF23.blk (i := 5) rfl⟩ ?_
          rotate_left
          · (intro w hSw; (try dsimp only at hSw); go_simp; try with_reducible rfl)
          (try simp only [Act.put, List.setIfInBounds_toArray, List.set_cons_zero, List.set_cons_succ])
          refine wpAnyH_take (i := 16) (v := ?_) (by simp only [List.getElem?_toArray, List.getElem?_cons_zero, List.getElem?_cons_succ]; rfl) (by kernel_rfl) (by kernel_rfl) (by kernel_rfl) (by exact fun _ _ _ h => h) (Or.inl ⟨by with_unfolding_all rfl, ?_⟩) ⟨hF23.blk (i := 0) rfl, hF23.blk (i := 1) rfl, hF23.blk (i := 4) rfl, hF23.blk (i := 5) rfl⟩ ?_
          rotate_left
          · (intro w hSw; (try dsimp only at hSw); go_simp; try with_reducible rfl)
          (try simp only [Act.put, List.setIfInBounds_toArray, List.set_cons_zero, List.set_cons_succ])
          refine wpAnyH_ready (rs := [17]) (by kernel_rfl) (by simp) ?_
          refine AllReadyH.cons (by simp only [List.getElem?_toArray, List.getElem?_cons_zero, List.getElem?_cons_succ]; rfl) (fun K hK => ?_) ?_
          · refine stp (by with_unfolding_all rfl) (wp_call Tryd.func13 rfl (by with_unfolding_all rfl) (by with_unfolding_all rfl) (by with_unfolding_all rfl) (same_self _ _ _ _ _ _ l2 _ (by omega) (hF23.rdOwn (i := 3) rfl) (hF23.rdOwn (i := 2) rfl)) ?_)
            rintro e w24 ⟨rfl, hb24⟩
            refine ⟨_, rfl, ?_⟩
            have hF24 := hF23.call hb24
            refine hK.out _ _ (⟨hF24.blk (i := 0) rfl, hF24.blk (i := 1) rfl, hF24.blk (i := 4) rfl, hF24.blk (i := 5) rfl⟩) (fun _ => ?_)
            clear hK K
            (try simp only [Act.put, List.setIfInBounds_toArray, List.set_cons_zero, List.set_cons_succ])
            refine wpAnyH_take (i := 18) (v := ?_) (by simp only [List.getElem?_toArray, List.getElem?_cons_zero, List.getElem?_cons_succ]; rfl) (by kernel_rfl) (by kernel_rfl) (by kernel_rfl) (by exact fun _ _ _ h => h) (Or.inl ⟨by with_unfolding_all rfl, ?_⟩) ⟨hF24.blk (i := 0) rfl, hF24.blk (i := 1) rfl, hF24.blk (i := 4) rfl, hF24.blk (i := 5) rfl⟩ ?_
            rotate_left
            · (intro w hSw; (try dsimp only at hSw); go_simp; try with_reducible rfl)
            (try simp only [Act.put, List.setIfInBounds_toArray, List.set_cons_zero, List.set_cons_succ])
            refine wpAnyH_take (i := 19) (v := ?_) (by simp only [List.getElem?_toArray, List.getElem?_cons_zero, List.getElem?_cons_succ]; rfl) (by kernel_rfl) (by kernel_rfl) (by kernel_rfl) (by exact fun _ _ _ h => h) (Or.inl ⟨by with_unfolding_all rfl, ?_⟩) ⟨hF24.blk (i := 0) rfl, hF24.blk (i := 1) rfl, hF24.blk (i := 4) rfl, hF24.blk (i := 5) rfl⟩ ?_
            rotate_left
            · (intro w hSw; (try dsimp only at hSw); go_simp; try with_reducible rfl)
            (try simp only [Act.put, List.setIfInBounds_toArray, List.set_cons_zero, List.set_cons_succ])
            refine wpAnyH_take (i := 20) (v := ?_) (by simp only [List.getElem?_toArray, List.getElem?_cons_zero, List.getElem?_cons_succ]; rfl) (by kernel_rfl) (by kernel_rfl) (by kernel_rfl) (by exact fun _ _ _ h => h) (Or.inl ⟨by with_unfolding_all rfl, ?_⟩) ⟨hF24.blk (i := 0) rfl, hF24.blk (i := 1) rfl, hF24.blk (i := 4) rfl, hF24.blk (i := 5) rfl⟩ ?_
            rotate_left
            · (intro w hSw; (try dsimp only at hSw); go_simp; try with_reducible rfl)
            (try simp only [Act.put, List.setIfInBounds_toArray, List.set_cons_zero, List.set_cons_succ])
            refine wpAnyH_take (i := 21) (v := ?_) (by simp only [List.getElem?_toArray, List.getElem?_cons_zero, List.getElem?_cons_succ]; rfl) (by kernel_rfl) (by kernel_rfl) (by kernel_rfl) (by exact fun _ _ _ h => h) (Or.inl ⟨by with_unfolding_all rfl, ?_⟩) ⟨hF24.blk (i := 0) rfl, hF24.blk (i := 1) rfl, hF24.blk (i := 4) rfl, hF24.blk (i := 5) rfl⟩ ?_
            rotate_left
            · (intro w hSw; (try dsimp only at hSw); go_simp; try with_reducible rfl)
            (try simp only [Act.put, List.setIfInBounds_toArray, List.set_cons_zero, List.set_cons_succ])
            refine wpAnyH_take (i := 22) (v := ?_) (by simp only [List.getElem?_toArray, List.getElem?_cons_zero, List.getElem?_cons_succ]; rfl) (by kernel_rfl) (by kernel_rfl) (by kernel_rfl) (by exact fun _ _ _ h => h) (Or.inl ⟨by with_unfolding_all rfl, ?_⟩) ⟨hF24.blk (i := 0) rfl, hF24.blk (i := 1) rfl, hF24.blk (i := 4) rfl, hF24.blk (i := 5) rfl⟩ ?_
            rotate_left
            · (intro w hSw; (try dsimp only at hSw); go_simp; try with_reducible rfl)
            (try simp only [Act.put, List.setIfInBounds_toArray, List.set_cons_zero, List.set_cons_succ])
            refine wpAnyH_take (i := 23) (v := ?_) (by simp only [List.getElem?_toArray, List.getElem?_cons_zero, List.getElem?_cons_succ]; rfl) (by kernel_rfl) (by kernel_rfl) (by kernel_rfl) (by exact fun _ _ _ h => h) (Or.inl ⟨by with_unfolding_all rfl, ?_⟩) ⟨hF24.blk (i := 0) rfl, hF24.blk (i := 1) rfl, hF24.blk (i := 4) rfl, hF24.blk (i := 5) rfl⟩ ?_
            rotate_left
            · (intro w hSw; (try dsimp only at hSw); go_simp; try with_reducible rfl)
            (try simp only [Act.put, List.setIfInBounds_toArray, List.set_cons_zero, List.set_cons_succ])
            refine wpAnyH_take (i := 24) (v := ?_) (by simp only [List.getElem?_toArray, List.getElem?_cons_zero, List.getElem?_cons_succ]; rfl) (by kernel_rfl) (by kernel_rfl) (by kernel_rfl) (by exact fun _ _ _ h => h) (Or.inl ⟨by with_unfolding_all rfl, ?_⟩) ⟨hF24.blk (i := 0) rfl, hF24.blk (i := 1) rfl, hF24.blk (i := 4) rfl, hF24.blk (i := 5) rfl⟩ ?_
            rotate_left
            · (intro w hSw; (try dsimp only at hSw); go_simp; try with_reducible rfl)
            (try simp only [Act.put, List.setIfInBounds_toArray, List.set_cons_zero, List.set_cons_succ])
            refine wpAnyH_take (i := 25) (v := ?_) (by simp only [List.getElem?_toArray, List.getElem?_cons_zero, List.getElem?_cons_succ]; rfl) (by kernel_rfl) (by kernel_rfl) (by kernel_rfl) (by exact fun _ _ _ h => h) (Or.inl ⟨by with_unfolding_all rfl, ?_⟩) ⟨hF24.blk (i := 0) rfl, hF24.blk (i := 1) rfl, hF24.blk (i := 4) rfl, hF24.blk (i := 5) rfl⟩ ?_
            rotate_left
            · (intro w hSw; (try dsimp only at hSw); go_simp; try with_reducible rfl)
            (try simp only [Act.put, List.setIfInBounds_toArray, List.set_cons_zero, List.set_cons_succ])
            refine wpAnyH_take (i := 26) (by simp only [List.getElem?_toArray, List.getElem?_cons_zero, List.getElem?_cons_succ]; rfl) (by kernel_rfl) (by kernel_rfl) (by kernel_rfl) (by exact fun _ _ _ h => h) (yi_fldA (by with_unfolding_all rfl) (fun _ h => h.2.1) Tryd.underlying46 rfl (by with_unfolding_all exact ⟨_, rfl, rfl⟩) (ds := y.cells) (by rw [hCD.out]; kernel_rfl) (take_all _)) ⟨hF24.blk (i := 0) rfl, hF24.blk (i := 1) rfl, hF24.blk (i := 4) rfl, hF24.blk (i := 5) rfl⟩ ?_
            (try simp only [Act.put, List.setIfInBounds_toArray, List.set_cons_zero, List.set_cons_succ])
            refine wpAnyH_take (i := 27) (v := ?_) (by simp only [List.getElem?_toArray, List.getElem?_cons_zero, List.getElem?_cons_succ]; rfl) (by kernel_rfl) (by kernel_rfl) (by kernel_rfl) (by exact fun _ _ _ h => h) (Or.inl ⟨by with_unfolding_all rfl, ?_⟩) ⟨hF24.blk (i := 0) rfl, hF24.blk (i := 1) rfl, hF24.blk (i := 4) rfl, hF24.blk (i := 5) rfl⟩ ?_
            rotate_left
            · (intro w hSw; (try dsimp only at hSw); go_simp; try with_reducible rfl)
            (try simp only [Act.put, List.setIfInBounds_toArray, List.set_cons_zero, List.set_cons_succ])
            refine wpAnyH_take (i := 28) (by simp only [List.getElem?_toArray, List.getElem?_cons_zero, List.getElem?_cons_succ]; rfl) (by kernel_rfl) (by kernel_rfl) (by kernel_rfl) (by exact fun _ _ _ h => h) (yi_fld (by with_unfolding_all rfl) (fun _ h => h.1) Tryd.underlying3 rfl (by with_unfolding_all exact ⟨_, rfl, rfl⟩) (by with_unfolding_all rfl)) ⟨hF24.blk (i := 0) rfl, hF24.blk (i := 1) rfl, hF24.blk (i := 4) rfl, hF24.blk (i := 5) rfl⟩ ?_
            (try simp only [Act.put, List.setIfInBounds_toArray, List.set_cons_zero, List.set_cons_succ])
            refine wpAnyH_take (i := 29) (v := ?_) (by simp only [List.getElem?_toArray, List.getElem?_cons_zero, List.getElem?_cons_succ]; rfl) (by kernel_rfl) (by kernel_rfl) (by kernel_rfl) (by exact fun _ _ _ h => h) (Or.inl ⟨by with_unfolding_all rfl, ?_⟩) ⟨hF24.blk (i := 0) rfl, hF24.blk (i := 1) rfl, hF24.blk (i := 4) rfl, hF24.blk (i := 5) rfl⟩ ?_
            rotate_left
            · (intro w hSw; (try dsimp only at hSw); go_simp; try with_reducible rfl)
            (try simp only [Act.put, List.setIfInBounds_toArray, List.set_cons_zero, List.set_cons_succ])
            refine wpAnyH_take (i := 30) (by simp only [List.getElem?_toArray, List.getElem?_cons_zero, List.getElem?_cons_succ]; rfl) (by kernel_rfl) (by kernel_rfl) (by kernel_rfl) (by exact fun _ _ _ h => h) (yi_fldA (by with_unfolding_all rfl) (fun _ h => h.1) Tryd.underlying22 rfl (by with_unfolding_all exact ⟨_, rfl, rfl⟩) (ds := (y.root.map bv)) (by rw [hDr.out]; kernel_rfl) (by with_unfolding_all exact hdL_dig rfl)) ⟨hF24.blk (i := 0) rfl, hF24.blk (i := 1) rfl, hF24.blk (i := 4) rfl, hF24.blk (i := 5) rfl⟩ ?_
            (try simp only [Act.put, List.setIfInBounds_toArray, List.set_cons_zero, List.set_cons_succ])
            refine wpAnyH_take (i := 31) (v := ?_) (by simp only [List.getElem?_toArray, List.getElem?_cons_zero, List.getElem?_cons_succ]; rfl) (by kernel_rfl) (by kernel_rfl) (by kernel_rfl) (by exact fun _ _ _ h => h) (Or.inl ⟨by with_unfolding_all rfl, ?_⟩) ⟨hF24.blk (i := 0) rfl, hF24.blk (i := 1) rfl, hF24.blk (i := 4) rfl, hF24.blk (i := 5) rfl⟩ ?_
            rotate_left
            · (intro w hSw; (try dsimp only at hSw); go_simp; try with_reducible rfl)
            (try simp only [Act.put, List.setIfInBounds_toArray, List.set_cons_zero, List.set_cons_succ])
            refine wpAnyH_take (i := 32) (by simp only [List.getElem?_toArray, List.getElem?_cons_zero, List.getElem?_cons_succ]; rfl) (by kernel_rfl) (by kernel_rfl) (by kernel_rfl) (by exact fun _ _ _ h => h) (yi_fld (by with_unfolding_all rfl) (fun _ h => h.1) Tryd.underlying3 rfl (by with_unfolding_all exact ⟨_, rfl, rfl⟩) (by with_unfolding_all exact h33D.out)) ⟨hF24.blk (i := 0) rfl, hF24.blk (i := 1) rfl, hF24.blk (i := 4) rfl, hF24.blk (i := 5) rfl⟩ ?_
            (try simp only [Act.put, List.setIfInBounds_toArray, List.set_cons_zero, List.set_cons_succ])
            refine wpAnyH_take (i := 33) (by simp only [List.getElem?_toArray, List.getElem?_cons_zero, List.getElem?_cons_succ]; rfl) (by kernel_rfl) (by kernel_rfl) (by kernel_rfl) (by exact fun _ _ _ h => h) (yi_build (cs := y.cells) (by with_unfolding_all rfl) Tryd.underlying46 (z := .agg (List.toArray hd0)) (by kernel_rfl) (pl := hdP) (by kernel_rfl) rfl (vs := [(0, .int .i64 y.size), (1, .agg (y.root.map bv).toArray), (2, .int .i64 y.t)]) (by with_unfolding_all rfl) (by with_unfolding_all exact hflD.out)) ⟨hF24.blk (i := 0) rfl, hF24.blk (i := 1) rfl, hF24.blk (i := 4) rfl, hF24.blk (i := 5) rfl⟩ ?_
            (try simp only [Act.put, List.setIfInBounds_toArray, List.set_cons_zero, List.set_cons_succ])
            refine wpAnyH_take (i := 34) (by simp only [List.getElem?_toArray, List.getElem?_cons_zero, List.getElem?_cons_succ]; rfl) (by kernel_rfl) (by kernel_rfl) (by kernel_rfl) (by exact fun _ _ _ h => h) (yi_neS (by with_unfolding_all rfl) hq1.out (by with_unfolding_all rfl) (by with_unfolding_all rfl) (by with_unfolding_all rfl)) ⟨hF24.blk (i := 0) rfl, hF24.blk (i := 1) rfl, hF24.blk (i := 4) rfl, hF24.blk (i := 5) rfl⟩ ?_
            (try simp only [Act.put, List.setIfInBounds_toArray, List.set_cons_zero, List.set_cons_succ])
            refine wpAnyH_take (i := 35) (v := ?_) (by simp only [List.getElem?_toArray, List.getElem?_cons_zero, List.getElem?_cons_succ]; rfl) (by kernel_rfl) (by kernel_rfl) (by kernel_rfl) (by exact fun _ _ _ h => h) (Or.inl ⟨by with_unfolding_all rfl, ?_⟩) ⟨hF24.blk (i := 0) rfl, hF24.blk (i := 1) rfl, hF24.blk (i := 4) rfl, hF24.blk (i := 5) rfl⟩ ?_
            rotate_left
            · (intro w hSw; (try dsimp only at hSw); go_simp; try with_reducible rfl)
            (try simp only [Act.put, List.setIfInBounds_toArray, List.set_cons_zero, List.set_cons_succ])
            refine wpAnyH_done (by kernel_rfl) ?_ _
            go_wp2_with fail
            go_meet
            exact ⟨rfl, hF24⟩
          exact AllReadyH.nil
        exact AllReadyH.nil
      exact AllReadyH.nil
    exact AllReadyH.nil
  case rest =>
    obtain ⟨rfl, hF12⟩ := hcut
    clear hF7 hF8 hF9 hF10 hF11
    have hC2 := box (D2.1.len hrt.out)
    go_wp2_with fail
    refine (hzd.out _ _ _ hn4 (hF12.rdOwn (i := 3) rfl)).mono ?_
    rintro e w13 ⟨rfl, hb13⟩
    have hF13 := hF12.call hb13
    rcases hback.out with ⟨rfl, rfl⟩ | rfl
    · go_wp2_with (first | ((with_reducible refine lst (by with_unfolding_all rfl) (wp_falloc hF13 (cs := hd0) (z := .agg (List.toArray (hd0))) rfl (by kernel_rfl) (by with_unfolding_all rfl) ?_)); intro w14 g14 hF14 hz14) | ((with_reducible refine lst (by with_unfolding_all rfl) (wp_fstA0 hF14 (by with_unfolding_all exact ⟨_, _, rfl, rfl, rfl⟩) (by rw [hC.out]; kernel_rfl) (Hd.one _) (by rw [hC.out, hz0.out]; omega) (spl_all (by rw [hC.out, hz0.out])) ?_)); intro w15 hF15 hz15) | (with_reducible refine lst (by with_unfolding_all rfl) (wp_fldA0 hF15 Tryd.underlying46 rfl (by with_unfolding_all exact ⟨_, rfl, rfl⟩) (ds := h.cells) (by rw [hC.out]; kernel_rfl) (take_all _) ?_)) | (with_reducible refine lst (by with_unfolding_all rfl) (wp_fldA5 hF15 Tryd.underlying46 rfl (by with_unfolding_all exact ⟨_, rfl, rfl⟩) (ds := h.cells) (by rw [hC.out]; kernel_rfl) (take_all _) ?_)) | (with_reducible refine lst (by with_unfolding_all rfl) (wp_eqS hq2.out (by with_unfolding_all rfl) (by with_unfolding_all rfl) (by with_unfolding_all rfl) ?_)))
      go_ret
      exact ⟨rfl, hF15.below⟩
    · go_wp2_with (first | ((with_reducible refine lst (by with_unfolding_all rfl) (wp_falloc hF13 (cs := hd0) (z := .agg (List.toArray (hd0))) rfl (by kernel_rfl) (by with_unfolding_all rfl) ?_)); intro w14 g14 hF14 hz14) | ((with_reducible refine lst (by with_unfolding_all rfl) (wp_fstA0 hF14 (by with_unfolding_all exact ⟨_, _, rfl, rfl, rfl⟩) (by rw [hC2.out]; kernel_rfl) (Hd.one _) (by rw [hC2.out, hz0.out]; omega) (spl_all (by rw [hC2.out, hz0.out])) ?_)); intro w15 hF15 hz15))
      go_ret
      exact ⟨rfl, hF15.below⟩
end Go.Proofs.YtpdbjhgphgcjoaaDoor
