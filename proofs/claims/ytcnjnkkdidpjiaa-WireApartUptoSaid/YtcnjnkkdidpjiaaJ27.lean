/-
  Layer 19: the walks that turn a request of the document's into one of the program's, and back.
-/
import Derived.Test.YtcnjnkkdidpjiaaJ07
import Derived.Test.YtcnjnkkdidpjiaaJ17
namespace Go.Proofs.Ytcnjnkkdidpjiaa
open Go.RowKit

/-- What a call that turns a request hands back. -/
def TurnReq (w : World) (t : TypeId) (r : Req) (e : Ending) (w' : World) : Prop :=
  ∃ A c, e = .returned (.agg (r.cells A c).toArray) ∧ OwnB w' w.heap.size t (.slice A r.body.length c) r.body ∧ Below w.heap.size w w'

set_option maxRecDepth 20000 in
set_option maxHeartbeats 1600000 in
theorem toReq_any (r : Req) (A : Option Addr) (c : Nat) (w : World) (hd : r.d.length = 32) (hr : Rd w (· < w.heap.size) A 1 r.body.length (r.body.map bv)) (hm : r.body.length ≤ 140737488355000) :
    Calls Try.prog 8 #[.agg (r.cells A c).toArray] w (TurnReq w 5 r) := by
  obtain ⟨op, repo, word, d, id, at_, n, body⟩ := r
  simp only [Req.cells] at *
  have hdl : (d.map bv).length = 32 := by simpa using hd
  have hq := rqL_at (a := .int .i64 op) (b := .string repo) (c := .string word) (e := .int .i64 id) (f := .int .i64 at_) (g := .int .i64 n) (h := .slice A body.length c) hdl
  replace hq := box hq
  replace hdl := box hdl
  have hz0 := zeros_len
  replace hz0 := box hz0
  have hF0 := Fr.nil w
  go_enter Try.func8, Try.ntmps8
  go_wp2_with (first | ((with_reducible refine lst (by with_unfolding_all rfl) (wp_fbox hF0 (cs := (rqL (.int .i64 op) (.string repo) (.string word) (d.map bv) (.int .i64 id) (.int .i64 at_) (.int .i64 n) (.slice A body.length c))) rfl (by with_unfolding_all rfl) (by with_unfolding_all rfl) ?_)); intro w1 g1 hF1 hz1) | ((with_reducible refine lst (by with_unfolding_all rfl) (wp_falloc hF1 (cs := rq0) (z := .agg (List.toArray (rq0))) rfl (by kernel_rfl) (by with_unfolding_all rfl) ?_)); intro w2 g2 hF2 hz2))
  have hF2d := hF2.drew
  refine wp_region_held (S := fun w' => w'.heap[g1]? = some (.cells (List.toArray (rqL (.int .i64 op) (.string repo) (.string word) (d.map bv) (.int .i64 id) (.int .i64 at_) (.int .i64 n) (.slice A body.length c))) 25 (0, 0))) (by kernel_rfl) ?_
  change wpAnyH _ _ _ _ _ _ _ _ (World.drew _)
  refine wpAnyH_take (i := 0) (v := ?_) (by simp only [List.getElem?_toArray, List.getElem?_cons_zero]; rfl) (by kernel_rfl) (by kernel_rfl) (by kernel_rfl) (by exact fun _ _ _ h => h) (Or.inl ⟨by with_unfolding_all rfl, ?_⟩) (hF2d.blk (i := 1) rfl) ?_
  rotate_left
  · (intro w hSw; (try dsimp only at hSw); go_simp; try with_reducible rfl)
  (try simp only [Act.put, List.setIfInBounds_toArray, List.set_cons_zero, List.set_cons_succ])
  refine wpAnyH_take (i := 1) (by simp only [List.getElem?_toArray, List.getElem?_cons_zero, List.getElem?_cons_succ]; rfl) (by kernel_rfl) (by kernel_rfl) (by kernel_rfl) (by exact fun _ _ _ h => h) (yi_fld (by with_unfolding_all rfl) (fun _ h => h) Try.underlying3 rfl (by with_unfolding_all exact ⟨_, rfl, rfl⟩) rfl) (hF2d.blk (i := 1) rfl) ?_
  (try simp only [Act.put, List.setIfInBounds_toArray, List.set_cons_zero, List.set_cons_succ])
  refine wpAnyH_take (i := 2) (v := ?_) (by simp only [List.getElem?_toArray, List.getElem?_cons_zero, List.getElem?_cons_succ]; rfl) (by kernel_rfl) (by kernel_rfl) (by kernel_rfl) (by exact fun _ _ _ h => h) (Or.inl ⟨by with_unfolding_all rfl, ?_⟩) (hF2d.blk (i := 1) rfl) ?_
  rotate_left
  · (intro w hSw; (try dsimp only at hSw); go_simp; try with_reducible rfl)
  (try simp only [Act.put, List.setIfInBounds_toArray, List.set_cons_zero, List.set_cons_succ])
  refine wpAnyH_take (i := 3) (by simp only [List.getElem?_toArray, List.getElem?_cons_zero, List.getElem?_cons_succ]; rfl) (by kernel_rfl) (by kernel_rfl) (by kernel_rfl) (by exact fun _ _ _ h => h) (yi_fld (by with_unfolding_all rfl) (fun _ h => h) Try.underlying9 rfl (by with_unfolding_all exact ⟨_, rfl, rfl⟩) rfl) (hF2d.blk (i := 1) rfl) ?_
  (try simp only [Act.put, List.setIfInBounds_toArray, List.set_cons_zero, List.set_cons_succ])
  refine wpAnyH_take (i := 4) (v := ?_) (by simp only [List.getElem?_toArray, List.getElem?_cons_zero, List.getElem?_cons_succ]; rfl) (by kernel_rfl) (by kernel_rfl) (by kernel_rfl) (by exact fun _ _ _ h => h) (Or.inl ⟨by with_unfolding_all rfl, ?_⟩) (hF2d.blk (i := 1) rfl) ?_
  rotate_left
  · (intro w hSw; (try dsimp only at hSw); go_simp; try with_reducible rfl)
  (try simp only [Act.put, List.setIfInBounds_toArray, List.set_cons_zero, List.set_cons_succ])
  refine wpAnyH_take (i := 5) (by simp only [List.getElem?_toArray, List.getElem?_cons_zero, List.getElem?_cons_succ]; rfl) (by kernel_rfl) (by kernel_rfl) (by kernel_rfl) (by exact fun _ _ _ h => h) (yi_fld (by with_unfolding_all rfl) (fun _ h => h) Try.underlying9 rfl (by with_unfolding_all exact ⟨_, rfl, rfl⟩) rfl) (hF2d.blk (i := 1) rfl) ?_
  (try simp only [Act.put, List.setIfInBounds_toArray, List.set_cons_zero, List.set_cons_succ])
  refine wpAnyH_take (i := 6) (v := ?_) (by simp only [List.getElem?_toArray, List.getElem?_cons_zero, List.getElem?_cons_succ]; rfl) (by kernel_rfl) (by kernel_rfl) (by kernel_rfl) (by exact fun _ _ _ h => h) (Or.inl ⟨by with_unfolding_all rfl, ?_⟩) (hF2d.blk (i := 1) rfl) ?_
  rotate_left
  · (intro w hSw; (try dsimp only at hSw); go_simp; try with_reducible rfl)
  (try simp only [Act.put, List.setIfInBounds_toArray, List.set_cons_zero, List.set_cons_succ])
  refine wpAnyH_take (i := 7) (by simp only [List.getElem?_toArray, List.getElem?_cons_zero, List.getElem?_cons_succ]; rfl) (by kernel_rfl) (by kernel_rfl) (by kernel_rfl) (by exact fun _ _ _ h => h) (yi_fldA (by with_unfolding_all rfl) (fun _ h => h) Try.underlying22 rfl (by with_unfolding_all exact ⟨_, rfl, rfl⟩) (ds := (d.map bv)) (by rw [hdl.out]; kernel_rfl) (rqL_dig rfl)) (hF2d.blk (i := 1) rfl) ?_
  (try simp only [Act.put, List.setIfInBounds_toArray, List.set_cons_zero, List.set_cons_succ])
  refine wpAnyH_take (i := 8) (v := ?_) (by simp only [List.getElem?_toArray, List.getElem?_cons_zero, List.getElem?_cons_succ]; rfl) (by kernel_rfl) (by kernel_rfl) (by kernel_rfl) (by exact fun _ _ _ h => h) (Or.inl ⟨by with_unfolding_all rfl, ?_⟩) (hF2d.blk (i := 1) rfl) ?_
  rotate_left
  · (intro w hSw; (try dsimp only at hSw); go_simp; try with_reducible rfl)
  (try simp only [Act.put, List.setIfInBounds_toArray, List.set_cons_zero, List.set_cons_succ])
  refine wpAnyH_take (i := 9) (by simp only [List.getElem?_toArray, List.getElem?_cons_zero, List.getElem?_cons_succ]; rfl) (by kernel_rfl) (by kernel_rfl) (by kernel_rfl) (by exact fun _ _ _ h => h) (yi_fld (by with_unfolding_all rfl) (fun _ h => h) Try.underlying3 rfl (by with_unfolding_all exact ⟨_, rfl, rfl⟩) hq.out.1) (hF2d.blk (i := 1) rfl) ?_
  (try simp only [Act.put, List.setIfInBounds_toArray, List.set_cons_zero, List.set_cons_succ])
  refine wpAnyH_take (i := 10) (v := ?_) (by simp only [List.getElem?_toArray, List.getElem?_cons_zero, List.getElem?_cons_succ]; rfl) (by kernel_rfl) (by kernel_rfl) (by kernel_rfl) (by exact fun _ _ _ h => h) (Or.inl ⟨by with_unfolding_all rfl, ?_⟩) (hF2d.blk (i := 1) rfl) ?_
  rotate_left
  · (intro w hSw; (try dsimp only at hSw); go_simp; try with_reducible rfl)
  (try simp only [Act.put, List.setIfInBounds_toArray, List.set_cons_zero, List.set_cons_succ])
  refine wpAnyH_take (i := 11) (by simp only [List.getElem?_toArray, List.getElem?_cons_zero, List.getElem?_cons_succ]; rfl) (by kernel_rfl) (by kernel_rfl) (by kernel_rfl) (by exact fun _ _ _ h => h) (yi_fld (by with_unfolding_all rfl) (fun _ h => h) Try.underlying3 rfl (by with_unfolding_all exact ⟨_, rfl, rfl⟩) hq.out.2.1) (hF2d.blk (i := 1) rfl) ?_
  (try simp only [Act.put, List.setIfInBounds_toArray, List.set_cons_zero, List.set_cons_succ])
  refine wpAnyH_take (i := 12) (v := ?_) (by simp only [List.getElem?_toArray, List.getElem?_cons_zero, List.getElem?_cons_succ]; rfl) (by kernel_rfl) (by kernel_rfl) (by kernel_rfl) (by exact fun _ _ _ h => h) (Or.inl ⟨by with_unfolding_all rfl, ?_⟩) (hF2d.blk (i := 1) rfl) ?_
  rotate_left
  · (intro w hSw; (try dsimp only at hSw); go_simp; try with_reducible rfl)
  (try simp only [Act.put, List.setIfInBounds_toArray, List.set_cons_zero, List.set_cons_succ])
  refine wpAnyH_take (i := 13) (by simp only [List.getElem?_toArray, List.getElem?_cons_zero, List.getElem?_cons_succ]; rfl) (by kernel_rfl) (by kernel_rfl) (by kernel_rfl) (by exact fun _ _ _ h => h) (yi_fld (by with_unfolding_all rfl) (fun _ h => h) Try.underlying3 rfl (by with_unfolding_all exact ⟨_, rfl, rfl⟩) hq.out.2.2.1) (hF2d.blk (i := 1) rfl) ?_
  (try simp only [Act.put, List.setIfInBounds_toArray, List.set_cons_zero, List.set_cons_succ])
  refine wpAnyH_take (i := 14) (v := ?_) (by simp only [List.getElem?_toArray, List.getElem?_cons_zero, List.getElem?_cons_succ]; rfl) (by kernel_rfl) (by kernel_rfl) (by kernel_rfl) (by exact fun _ _ _ h => h) (Or.inl ⟨by with_unfolding_all rfl, ?_⟩) (hF2d.blk (i := 1) rfl) ?_
  rotate_left
  · (intro w hSw; (try dsimp only at hSw); go_simp; try with_reducible rfl)
  (try simp only [Act.put, List.setIfInBounds_toArray, List.set_cons_zero, List.set_cons_succ])
  refine wpAnyH_take (i := 15) (by simp only [List.getElem?_toArray, List.getElem?_cons_zero, List.getElem?_cons_succ]; rfl) (by kernel_rfl) (by kernel_rfl) (by kernel_rfl) (by exact fun _ _ _ h => h) (yi_fld (by with_unfolding_all rfl) (fun _ h => h) Try.underlying23 rfl (by with_unfolding_all exact ⟨_, rfl, rfl⟩) hq.out.2.2.2) (hF2d.blk (i := 1) rfl) ?_
  (try simp only [Act.put, List.setIfInBounds_toArray, List.set_cons_zero, List.set_cons_succ])
  refine wpAnyH_ready (rs := [16]) (by kernel_rfl) (by simp) ?_
  refine AllReadyH.cons (by simp only [List.getElem?_toArray, List.getElem?_cons_zero, List.getElem?_cons_succ]; rfl) (fun K hK => ?_) ?_
  · refine stp (by with_unfolding_all rfl) (wp_call Try.func26 rfl (by with_unfolding_all rfl) (by with_unfolding_all rfl) (by with_unfolding_all rfl) (twin_any A _ c body _ (by omega) (hF2d.rdOld hr)) ?_)
    rintro e w11 ⟨v11, rfl, ho11, hb11⟩
    refine ⟨_, rfl, ?_⟩
    obtain ⟨A11, c11, rfl, hc11, hr11⟩ := ho11.arg
    have hF11 := hF2d.gotB hb11 ho11
    refine hK.out _ _ ((hF11.blk (i := 2) rfl)) (fun _ => ?_)
    clear hK K
    (try simp only [Act.put, List.setIfInBounds_toArray, List.set_cons_zero, List.set_cons_succ])
    refine wpAnyH_ready (rs := [17]) (by kernel_rfl) (by simp) ?_
    refine AllReadyH.cons (by simp only [List.getElem?_toArray, List.getElem?_cons_zero, List.getElem?_cons_succ]; rfl) (fun K hK => ?_) ?_
    · refine stp (by with_unfolding_all rfl) (wp_fbuild Try.underlying31 (z := .agg (List.toArray rq0)) (by kernel_rfl) (pl := rqP) (by kernel_rfl) (cs := rqL (.int .i64 op) (.string repo) (.string word) (d.map bv) (.int .i64 id) (.int .i64 at_) (.int .i64 n) (.slice A11 body.length c11)) (by with_unfolding_all rfl) (vs := [(0, .int .i64 op), (1, .string repo), (2, .string word), (3, .agg (d.map bv).toArray), (4, .int .i64 id), (5, .int .i64 at_), (6, .int .i64 n), (7, .slice A11 body.length c11)]) (by with_unfolding_all rfl) (by with_unfolding_all exact rq_fill hdl.out rfl rfl rfl rfl rfl rfl rfl) ?_)
      refine hK.out _ _ ((hF11.blk (i := 2) rfl)) (fun _ => ?_)
      clear hK K
      (try simp only [Act.put, List.setIfInBounds_toArray, List.set_cons_zero, List.set_cons_succ])
      refine wpAnyH_ready (rs := [18]) (by kernel_rfl) (by simp) ?_
      refine AllReadyH.cons (by simp only [List.getElem?_toArray, List.getElem?_cons_zero, List.getElem?_cons_succ]; rfl) (fun K hK => ?_) ?_
      · refine stp (by with_unfolding_all rfl) (wp_fstA hF11 (i := 1) rfl (ds := rqL (.int .i64 op) (.string repo) (.string word) (d.map bv) (.int .i64 id) (.int .i64 at_) (.int .i64 n) (.slice A11 body.length c11)) (by with_unfolding_all exact ⟨_, _, rfl, rfl, rfl⟩) (by rw [rqL_length hdl.out]; kernel_rfl) (rqL_one (bv_one _) rfl rfl rfl rfl rfl rfl rfl) (by rw [rqL_length hdl.out, rq0, rqL_length hz0.out]; omega) ?_)
        intro w12 hF12 hz12
        rw [spl_all (by rw [rqL_length hdl.out, rq0, rqL_length hz0.out])] at hF12
        refine hK.out _ _ ((hF12.blk (i := 2) rfl)) (fun _ => ?_)
        clear hK K
        (try simp only [Act.put])
        refine wpAnyH_done (by kernel_rfl) ?_ _
        go_wp2_with fail
        refine bodyPost_end (results_cellF rfl _ hF12 (i := 1) rfl rfl Try.underlying31 rfl (by rw [rqL_length hdl.out]; kernel_rfl)) rfl ?_
        exact ⟨A11, c11, rfl, hF12.own (i := 0) rfl, hF12.below⟩
      exact AllReadyH.nil
    exact AllReadyH.nil
  exact AllReadyH.nil

set_option maxRecDepth 20000 in
set_option maxHeartbeats 1600000 in
theorem fromReq_any (r : Req) (A : Option Addr) (c : Nat) (w : World) (hd : r.d.length = 32) :
    Calls Try.prog 15 #[.agg (r.cells A c).toArray] w fun e w' => e = .returned (.agg (r.cells A c).toArray) ∧ Below w.heap.size w w' := by
  obtain ⟨op, repo, word, d, id, at_, n, body⟩ := r
  simp only [Req.cells] at *
  have hdl : (d.map bv).length = 32 := by simpa using hd
  have hq := rqL_at (a := .int .i64 op) (b := .string repo) (c := .string word) (e := .int .i64 id) (f := .int .i64 at_) (g := .int .i64 n) (h := .slice A body.length c) hdl
  replace hq := box hq
  replace hdl := box hdl
  have hz0 := zeros_len
  replace hz0 := box hz0
  have hF0 := Fr.nil w
  go_enter Try.func15, Try.ntmps15
  go_wp2_with (first | ((with_reducible refine lst (by with_unfolding_all rfl) (wp_fbox hF0 (cs := (rqL (.int .i64 op) (.string repo) (.string word) (d.map bv) (.int .i64 id) (.int .i64 at_) (.int .i64 n) (.slice A body.length c))) rfl (by with_unfolding_all rfl) (by with_unfolding_all rfl) ?_)); intro w1 g1 hF1 hz1) | ((with_reducible refine lst (by with_unfolding_all rfl) (wp_falloc hF1 (cs := rq0) (z := .agg (List.toArray (rq0))) rfl (by kernel_rfl) (by with_unfolding_all rfl) ?_)); intro w2 g2 hF2 hz2) | (with_reducible refine lst (by with_unfolding_all rfl) (wp_fld1 hF2 Try.underlying3 rfl (by with_unfolding_all exact ⟨_, rfl, rfl⟩) (by first | with_unfolding_all rfl | exact hq.out.1 | exact hq.out.2.1 | exact hq.out.2.2.1) ?_)) | (with_reducible refine lst (by with_unfolding_all rfl) (wp_fld1 hF2 Try.underlying9 rfl (by with_unfolding_all exact ⟨_, rfl, rfl⟩) (by first | with_unfolding_all rfl | assumption) ?_)) | (with_reducible refine lst (by with_unfolding_all rfl) (wp_fld1 hF2 Try.underlying23 rfl (by with_unfolding_all exact ⟨_, rfl, rfl⟩) hq.out.2.2.2 ?_)) | (with_reducible refine lst (by with_unfolding_all rfl) (wp_fldA1 hF2 Try.underlying29 rfl (by with_unfolding_all exact ⟨_, rfl, rfl⟩) (ds := (d.map bv)) (by rw [hdl.out]; kernel_rfl) (rqL_dig rfl) ?_)) | (with_reducible refine lst (by with_unfolding_all rfl) (wp_fbuild Try.underlying25 (z := .agg (List.toArray rq0)) (by kernel_rfl) (pl := rqP) (by kernel_rfl) (cs := (rqL (.int .i64 op) (.string repo) (.string word) (d.map bv) (.int .i64 id) (.int .i64 at_) (.int .i64 n) (.slice A body.length c))) rfl (vs := [(0, .int .i64 op), (1, .string repo), (2, .string word), (3, .agg (d.map bv).toArray), (4, .int .i64 id), (5, .int .i64 at_), (6, .int .i64 n), (7, .slice A body.length c)]) (by with_unfolding_all rfl) (by with_unfolding_all exact rq_fill hdl.out rfl rfl rfl rfl rfl rfl rfl) ?_)) | ((with_reducible refine lst (by with_unfolding_all rfl) (wp_fstA0 hF2 (by with_unfolding_all exact ⟨_, _, rfl, rfl, rfl⟩) (by rw [rqL_length hdl.out]; kernel_rfl) (rqL_one (bv_one _) rfl rfl rfl rfl rfl rfl rfl) (by rw [rqL_length hdl.out, rq0, rqL_length hz0.out]; omega) (spl_all (by rw [rqL_length hdl.out, rq0, rqL_length hz0.out])) ?_)); intro w3 hF3 hz3))
  refine bodyPost_ret (results_cellF_0 hF3 rfl _ rfl Try.underlying25 rfl (by rw [rqL_length hdl.out]; kernel_rfl)) rfl ?_
  exact ⟨rfl, hF3.below⟩
end Go.Proofs.Ytcnjnkkdidpjiaa
