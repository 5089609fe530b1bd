/-
  Layer 19: the walk that turns a reply of the document's into one of the program's.
-/
import Derived.Test.YtcnjnkkdidpjiaaJ13
import Derived.Test.YtcnjnkkdidpjiaaJ17
namespace Go.Proofs.Ytcnjnkkdidpjiaa
open Go.RowKit

theorem strs_one (l : List ByteArray) : ∀ u ∈ l.map Value.string, u.oneCell' = true := by
  intro u hu
  obtain ⟨s, _, rfl⟩ := List.mem_map.1 hu
  rfl
/-- What ToReply hands back. -/
def ToRep (w : World) (tb ts td : TypeId) (r : Rep) (e : Ending) (w' : World) : Prop :=
  ∃ A B C c cb cc, e = .returned (.agg (r.cells A B C c cb cc).toArray) ∧ Fr [] w w' (RepEs w.heap.size tb ts td r A B C c cb cc)

set_option linter.unusedSimpArgs false in
set_option maxRecDepth 20000 in
set_option maxHeartbeats 3200000 in
theorem toRep_any (r : Rep) (A B C : Option Addr) (c cb cc : Nat) (w : World) (hR : RepRd w r A B C) (hm : r.body.length ≤ 140737488355000) (hmw : r.words.length ≤ 1000000000) (hms : r.sums.length ≤ 1000000000) :
    Calls Try.prog 17 #[.agg (r.cells A B C c cb cc).toArray] w (ToRep w 5 9 29 r) := by
  obtain ⟨code, d, n, m, body, words, sums⟩ := r
  obtain ⟨hd, hr, hrw, hrs, hs32⟩ := hR
  simp only [Rep.cells] at *
  have hdl : (d.map bv).length = 32 := by simpa using hd
  have hq := rpL_at (a := (Value.int .i64) code) (e := (Value.int .i64) n) (f := (Value.int .i64) m) (g := .slice A body.length c) (h := .slice B words.length cb) (i := .slice C sums.length cc) hdl
  replace hq := box hq
  replace hdl := box hdl
  replace hs32 := box hs32
  have hz0 := box zeros_len
  have hF0 := Fr.nil w
  go_enter Try.func17, Try.ntmps17
  go_upto_region 1 with (first | ((with_reducible refine lst (by with_unfolding_all rfl) (wp_fbox hF0 (cs := (rpL (.int .i64 code) (d.map bv) (.int .i64 n) (.int .i64 m) (.slice A body.length c) (.slice B words.length cb) (.slice C sums.length cc))) rfl (by with_unfolding_all rfl) (by with_unfolding_all rfl) ?_)); intro w1 g1 hF1 hz1) | ((with_reducible refine lst (by with_unfolding_all rfl) (wp_falloc hF1 (cs := rp0) (z := .agg (List.toArray (rp0))) rfl (by kernel_rfl) (by with_unfolding_all rfl) ?_)); intro w2 g2 hF2 hz2))
  (try simp only [Act.put, List.setIfInBounds_toArray, List.set_cons_zero, List.set_cons_succ])
  go_cut [3] (fun s3 wx => ∃ g A' c' B' cb', s3 = .pointer (some ⟨g, 0, none⟩) ∧ Fr [] w wx [.blk g 51 (rpL (.int .i64 code) (d.map bv) (.int .i64 n) (.int .i64 m) (.slice A' body.length c') (.slice B' words.length cb') (.slice none 0 0)), .own w.heap.size 9 1 (.slice B' words.length cb') words.length (words.map Value.string), Ent.bytes w.heap.size 5 (.slice A' body.length c') body, .blk g2 51 rp0, .blk g1 47 (rpL (.int .i64 code) (d.map bv) (.int .i64 n) (.int .i64 m) (.slice A body.length c) (.slice B words.length cb) (.slice C sums.length cc))])
  case first =>
    have hF2d := hF2.drew
    refine wp_region_held (S := fun w' => w'.heap[g1]? = some (.cells (List.toArray (rpL (.int .i64 code) (d.map bv) (.int .i64 n) (.int .i64 m) (.slice A body.length c) (.slice B words.length cb) (.slice C sums.length cc))) 47 (0, 0))) (by kernel_rfl) ?_
    change wpAnyH _ _ _ _ _ _ _ _ (World.drew _)
    refine wpAnyH_take (i := 0) (v := ?_) (by simp only [List.getElem?_toArray, List.getElem?_cons_zero]; rfl) (by kernel_rfl) (by kernel_rfl) (by kernel_rfl) (by exact fun _ _ _ h => h) (Or.inl ⟨by with_unfolding_all rfl, ?_⟩) (hF2d.blk (i := 1) rfl) ?_
    rotate_left
    · (intro w hSw; (try dsimp only at hSw); go_simp; try with_reducible rfl)
    (try simp only [Act.put, List.setIfInBounds_toArray, List.set_cons_zero, List.set_cons_succ])
    refine wpAnyH_take (i := 1) (by simp only [List.getElem?_toArray, List.getElem?_cons_zero, List.getElem?_cons_succ]; rfl) (by kernel_rfl) (by kernel_rfl) (by kernel_rfl) (by exact fun _ _ _ h => h) (yi_fld (by with_unfolding_all rfl) (fun _ h => h) Try.underlying3 rfl (by with_unfolding_all exact ⟨_, rfl, rfl⟩) rfl) (hF2d.blk (i := 1) rfl) ?_
    (try simp only [Act.put, List.setIfInBounds_toArray, List.set_cons_zero, List.set_cons_succ])
    refine wpAnyH_take (i := 2) (v := ?_) (by simp only [List.getElem?_toArray, List.getElem?_cons_zero, List.getElem?_cons_succ]; rfl) (by kernel_rfl) (by kernel_rfl) (by kernel_rfl) (by exact fun _ _ _ h => h) (Or.inl ⟨by with_unfolding_all rfl, ?_⟩) (hF2d.blk (i := 1) rfl) ?_
    rotate_left
    · (intro w hSw; (try dsimp only at hSw); go_simp; try with_reducible rfl)
    (try simp only [Act.put, List.setIfInBounds_toArray, List.set_cons_zero, List.set_cons_succ])
    refine wpAnyH_take (i := 3) (by simp only [List.getElem?_toArray, List.getElem?_cons_zero, List.getElem?_cons_succ]; rfl) (by kernel_rfl) (by kernel_rfl) (by kernel_rfl) (by exact fun _ _ _ h => h) (yi_fldA (by with_unfolding_all rfl) (fun _ h => h) Try.underlying22 rfl (by with_unfolding_all exact ⟨_, rfl, rfl⟩) (ds := (d.map bv)) (by rw [hdl.out]; kernel_rfl) (rpL_dig rfl)) (hF2d.blk (i := 1) rfl) ?_
    (try simp only [Act.put, List.setIfInBounds_toArray, List.set_cons_zero, List.set_cons_succ])
    refine wpAnyH_take (i := 4) (v := ?_) (by simp only [List.getElem?_toArray, List.getElem?_cons_zero, List.getElem?_cons_succ]; rfl) (by kernel_rfl) (by kernel_rfl) (by kernel_rfl) (by exact fun _ _ _ h => h) (Or.inl ⟨by with_unfolding_all rfl, ?_⟩) (hF2d.blk (i := 1) rfl) ?_
    rotate_left
    · (intro w hSw; (try dsimp only at hSw); go_simp; try with_reducible rfl)
    (try simp only [Act.put, List.setIfInBounds_toArray, List.set_cons_zero, List.set_cons_succ])
    refine wpAnyH_take (i := 5) (by simp only [List.getElem?_toArray, List.getElem?_cons_zero, List.getElem?_cons_succ]; rfl) (by kernel_rfl) (by kernel_rfl) (by kernel_rfl) (by exact fun _ _ _ h => h) (yi_fld (by with_unfolding_all rfl) (fun _ h => h) Try.underlying3 rfl (by with_unfolding_all exact ⟨_, rfl, rfl⟩) hq.out.1) (hF2d.blk (i := 1) rfl) ?_
    (try simp only [Act.put, List.setIfInBounds_toArray, List.set_cons_zero, List.set_cons_succ])
    refine wpAnyH_take (i := 6) (v := ?_) (by simp only [List.getElem?_toArray, List.getElem?_cons_zero, List.getElem?_cons_succ]; rfl) (by kernel_rfl) (by kernel_rfl) (by kernel_rfl) (by exact fun _ _ _ h => h) (Or.inl ⟨by with_unfolding_all rfl, ?_⟩) (hF2d.blk (i := 1) rfl) ?_
    rotate_left
    · (intro w hSw; (try dsimp only at hSw); go_simp; try with_reducible rfl)
    (try simp only [Act.put, List.setIfInBounds_toArray, List.set_cons_zero, List.set_cons_succ])
    refine wpAnyH_take (i := 7) (by simp only [List.getElem?_toArray, List.getElem?_cons_zero, List.getElem?_cons_succ]; rfl) (by kernel_rfl) (by kernel_rfl) (by kernel_rfl) (by exact fun _ _ _ h => h) (yi_fld (by with_unfolding_all rfl) (fun _ h => h) Try.underlying3 rfl (by with_unfolding_all exact ⟨_, rfl, rfl⟩) hq.out.2.1) (hF2d.blk (i := 1) rfl) ?_
    (try simp only [Act.put, List.setIfInBounds_toArray, List.set_cons_zero, List.set_cons_succ])
    refine wpAnyH_take (i := 8) (v := ?_) (by simp only [List.getElem?_toArray, List.getElem?_cons_zero, List.getElem?_cons_succ]; rfl) (by kernel_rfl) (by kernel_rfl) (by kernel_rfl) (by exact fun _ _ _ h => h) (Or.inl ⟨by with_unfolding_all rfl, ?_⟩) (hF2d.blk (i := 1) rfl) ?_
    rotate_left
    · (intro w hSw; (try dsimp only at hSw); go_simp; try with_reducible rfl)
    (try simp only [Act.put, List.setIfInBounds_toArray, List.set_cons_zero, List.set_cons_succ])
    refine wpAnyH_take (i := 9) (by simp only [List.getElem?_toArray, List.getElem?_cons_zero, List.getElem?_cons_succ]; rfl) (by kernel_rfl) (by kernel_rfl) (by kernel_rfl) (by exact fun _ _ _ h => h) (yi_fld (by with_unfolding_all rfl) (fun _ h => h) Try.underlying23 rfl (by with_unfolding_all exact ⟨_, rfl, rfl⟩) hq.out.2.2.1) (hF2d.blk (i := 1) rfl) ?_
    (try simp only [Act.put, List.setIfInBounds_toArray, List.set_cons_zero, List.set_cons_succ])
    refine wpAnyH_take (i := 12) (v := ?_) (by simp only [List.getElem?_toArray, List.getElem?_cons_zero, List.getElem?_cons_succ]; rfl) (by kernel_rfl) (by kernel_rfl) (by kernel_rfl) (by exact fun _ _ _ h => h) (Or.inl ⟨by with_unfolding_all rfl, ?_⟩) (hF2d.blk (i := 1) rfl) ?_
    rotate_left
    · (intro w hSw; (try dsimp only at hSw); go_simp; try with_reducible rfl)
    (try simp only [Act.put, List.setIfInBounds_toArray, List.set_cons_zero, List.set_cons_succ])
    refine wpAnyH_take (i := 13) (by simp only [List.getElem?_toArray, List.getElem?_cons_zero, List.getElem?_cons_succ]; rfl) (by kernel_rfl) (by kernel_rfl) (by kernel_rfl) (by exact fun _ _ _ h => h) (yi_fld (by with_unfolding_all rfl) (fun _ h => h) Try.underlying44 rfl (by with_unfolding_all exact ⟨_, rfl, rfl⟩) hq.out.2.2.2.1) (hF2d.blk (i := 1) rfl) ?_
    (try simp only [Act.put, List.setIfInBounds_toArray, List.set_cons_zero, List.set_cons_succ])
    refine wpAnyH_ready (rs := [10, 11, 16]) (by kernel_rfl) (by simp) ?_
    refine AllReadyH.cons (by simp only [List.getElem?_toArray, List.getElem?_cons_zero, List.getElem?_cons_succ]; rfl) (fun K hK => ?_) ?_
    · refine stp (by with_unfolding_all rfl) (wp_call Try.func26 rfl (by with_unfolding_all rfl) (by with_unfolding_all rfl) (by with_unfolding_all rfl) (twin_any A _ c body _ (by omega) (hF2d.rdOld hr)) ?_)
      rintro e w11 ⟨v11, rfl, ho11, hb11⟩
      refine ⟨_, rfl, ?_⟩
      obtain ⟨A11, c11, rfl, hc11, hr11⟩ := ho11.arg
      have hF11 := hF2d.gotB hb11 ho11
      refine hK.out _ _ ((hF11.blk (i := 2) rfl)) (fun _ => ?_)
      clear hK K
      (try simp only [Act.put, List.setIfInBounds_toArray, List.set_cons_zero, List.set_cons_succ])
      refine wpAnyH_ready (rs := [11, 16]) (by kernel_rfl) (by simp) ?_
      refine AllReadyH.cons (by simp only [List.getElem?_toArray, List.getElem?_cons_zero, List.getElem?_cons_succ]; rfl) (fun K hK => ?_) ?_
      · refine stp (by with_unfolding_all rfl) (wp_fbsl T_str hF11 (vs := []) (by with_unfolding_all rfl) (by with_unfolding_all rfl) (by with_unfolding_all rfl) (by decide) (by simp [Value.cells]) ?_)
        intro w12 g12 hF12 hz12
        refine hK.out _ _ ((hF12.blk (i := 3) rfl)) (fun _ => ?_)
        clear hK K
        (try simp only [Act.put, List.setIfInBounds_toArray, List.set_cons_zero, List.set_cons_succ])
        refine wpAnyH_ready (rs := [14, 16]) (by kernel_rfl) (by simp) ?_
        refine AllReadyH.cons (by simp only [List.getElem?_toArray, List.getElem?_cons_zero, List.getElem?_cons_succ]; rfl) (fun K hK => ?_) ?_
        · refine stp (by with_unfolding_all rfl) (wp_fappG T_str hF12 (i := 0) rfl (Nat.le_refl _) (hF12.rdOld hrw) (strs_one _) (by with_unfolding_all exact ⟨_, _, rfl, rfl, rfl⟩) (by unfold maxLen; omega) (by omega) ?_)
          intro v13 w13 hF13 hz13
          (try simp only [List.set_cons_zero, List.set_cons_succ] at hF13)
          rw [Nat.zero_add, List.nil_append] at hF13
          obtain ⟨A13, c13, rfl, hc13⟩ := hF13.ownParts (i := 0) rfl
          refine hK.out _ _ ((hF13.blk (i := 3) rfl)) (fun _ => ?_)
          clear hK K
          (try simp only [Act.put, List.setIfInBounds_toArray, List.set_cons_zero, List.set_cons_succ])
          refine wpAnyH_ready (rs := [15, 16]) (by kernel_rfl) (by simp) ?_
          refine AllReadyH.cons (by simp only [List.getElem?_toArray, List.getElem?_cons_zero, List.getElem?_cons_succ]; rfl) (fun K hK => ?_) ?_
          · refine stp (by with_unfolding_all rfl) (wp_fbuild Try.underlying51 (z := .agg (List.toArray rp0)) (by kernel_rfl) (pl := rpP) (by kernel_rfl) (cs := rpL (.int .i64 code) (d.map bv) (.int .i64 n) (.int .i64 m) (.slice A11 body.length c11) (.slice A13 words.length c13) (.slice none 0 0)) (by with_unfolding_all rfl) (vs := [(0, .int .i64 code), (1, .agg (d.map bv).toArray), (2, .int .i64 n), (3, .int .i64 m), (4, .slice A11 body.length c11), (5, .slice A13 words.length c13)]) (by with_unfolding_all rfl) (by with_unfolding_all exact rp_fill hdl.out rfl rfl rfl rfl rfl) ?_)
            refine hK.out _ _ ((hF13.blk (i := 3) rfl)) (fun _ => ?_)
            clear hK K
            (try simp only [Act.put, List.setIfInBounds_toArray, List.set_cons_zero, List.set_cons_succ])
            refine wpAnyH_ready (rs := [16]) (by kernel_rfl) (by simp) ?_
            refine AllReadyH.cons (by simp only [List.getElem?_toArray, List.getElem?_cons_zero, List.getElem?_cons_succ]; rfl) (fun K hK => ?_) ?_
            · refine stp (by with_unfolding_all rfl) (wp_falloc hF13 (cs := rp0) (z := .agg (List.toArray (rp0))) rfl (by kernel_rfl) (by with_unfolding_all rfl) ?_)
              intro w14 g14 hF14 hz14
              refine hK.out _ _ ((hF14.blk (i := 4) rfl)) (fun _ => ?_)
              clear hK K
              (try simp only [Act.put, List.setIfInBounds_toArray, List.set_cons_zero, List.set_cons_succ])
              refine wpAnyH_ready (rs := [17]) (by kernel_rfl) (by simp) ?_
              refine AllReadyH.cons (by simp only [List.getElem?_toArray, List.getElem?_cons_zero, List.getElem?_cons_succ]; rfl) (fun K hK => ?_) ?_
              · refine stp (by with_unfolding_all rfl) (wp_fstA hF14 (i := 0) rfl (ds := rpL (.int .i64 code) (d.map bv) (.int .i64 n) (.int .i64 m) (.slice A11 body.length c11) (.slice A13 words.length c13) (.slice none 0 0)) (by with_unfolding_all exact ⟨_, _, rfl, rfl, rfl⟩) (by rw [rpL_length hdl.out]; kernel_rfl) (rpL_one (bv_one _) rfl rfl rfl rfl rfl rfl) (by rw [rpL_length hdl.out, rp0, rpL_length hz0.out]; omega) ?_)
                intro w15 hF15 hz15
                (try simp only [List.set_cons_zero, List.set_cons_succ] at hF15)
                rw [spl_all (by rw [rpL_length hdl.out, rp0, rpL_length hz0.out])] at hF15
                refine hK.out _ _ ((hF15.blk (i := 4) rfl)) (fun _ => ?_)
                clear hK K
                (try simp only [Act.put])
                refine wpAnyH_done (by kernel_rfl) ?_ _
                go_wp2_with fail
                go_meet
                exact ⟨_, A11, c11, A13, c13, rfl, hF15.picks [0, 1, 2, 3, 4] rfl (by decide)⟩
              exact AllReadyH.nil
            exact AllReadyH.nil
          refine AllReadyH.cons (by simp only [List.getElem?_toArray, List.getElem?_cons_zero, List.getElem?_cons_succ]; rfl) (fun K hK => ?_) ?_
          · refine stp (by with_unfolding_all rfl) (wp_falloc hF13 (cs := rp0) (z := .agg (List.toArray (rp0))) rfl (by kernel_rfl) (by with_unfolding_all rfl) ?_)
            intro w14 g14 hF14 hz14
            refine hK.out _ _ ((hF14.blk (i := 4) rfl)) (fun _ => ?_)
            clear hK K
            (try simp only [Act.put, List.setIfInBounds_toArray, List.set_cons_zero, List.set_cons_succ])
            refine wpAnyH_ready (rs := [15]) (by kernel_rfl) (by simp) ?_
            refine AllReadyH.cons (by simp only [List.getElem?_toArray, List.getElem?_cons_zero, List.getElem?_cons_succ]; rfl) (fun K hK => ?_) ?_
            · refine stp (by with_unfolding_all rfl) (wp_fbuild Try.underlying51 (z := .agg (List.toArray rp0)) (by kernel_rfl) (pl := rpP) (by kernel_rfl) (cs := rpL (.int .i64 code) (d.map bv) (.int .i64 n) (.int .i64 m) (.slice A11 body.length c11) (.slice A13 words.length c13) (.slice none 0 0)) (by with_unfolding_all rfl) (vs := [(0, .int .i64 code), (1, .agg (d.map bv).toArray), (2, .int .i64 n), (3, .int .i64 m), (4, .slice A11 body.length c11), (5, .slice A13 words.length c13)]) (by with_unfolding_all rfl) (by with_unfolding_all exact rp_fill hdl.out rfl rfl rfl rfl rfl) ?_)
              refine hK.out _ _ ((hF14.blk (i := 4) rfl)) (fun _ => ?_)
              clear hK K
              (try simp only [Act.put, List.setIfInBounds_toArray, List.set_cons_zero, List.set_cons_succ])
              refine wpAnyH_ready (rs := [17]) (by kernel_rfl) (by simp) ?_
              refine AllReadyH.cons (by simp only [List.getElem?_toArray, List.getElem?_cons_zero, List.getElem?_cons_succ]; rfl) (fun K hK => ?_) ?_
              · refine stp (by with_unfolding_all rfl) (wp_fstA hF14 (i := 0) rfl (ds := rpL (.int .i64 code) (d.map bv) (.int .i64 n) (.int .i64 m) (.slice A11 body.length c11) (.slice A13 words.length c13) (.slice none 0 0)) (by with_unfolding_all exact ⟨_, _, rfl, rfl, rfl⟩) (by rw [rpL_length hdl.out]; kernel_rfl) (rpL_one (bv_one _) rfl rfl rfl rfl rfl rfl) (by rw [rpL_length hdl.out, rp0, rpL_length hz0.out]; omega) ?_)
                intro w15 hF15 hz15
                (try simp only [List.set_cons_zero, List.set_cons_succ] at hF15)
                rw [spl_all (by rw [rpL_length hdl.out, rp0, rpL_length hz0.out])] at hF15
                refine hK.out _ _ ((hF15.blk (i := 4) rfl)) (fun _ => ?_)
                clear hK K
                (try simp only [Act.put])
                refine wpAnyH_done (by kernel_rfl) ?_ _
                go_wp2_with fail
                go_meet
                exact ⟨_, A11, c11, A13, c13, rfl, hF15.picks [0, 1, 2, 3, 4] rfl (by decide)⟩
              exact AllReadyH.nil
            exact AllReadyH.nil
          exact AllReadyH.nil
        refine AllReadyH.cons (by simp only [List.getElem?_toArray, List.getElem?_cons_zero, List.getElem?_cons_succ]; rfl) (fun K hK => ?_) ?_
        · refine stp (by with_unfolding_all rfl) (wp_falloc hF12 (cs := rp0) (z := .agg (List.toArray (rp0))) rfl (by kernel_rfl) (by with_unfolding_all rfl) ?_)
          intro w13 g13 hF13 hz13
          refine hK.out _ _ ((hF13.blk (i := 4) rfl)) (fun _ => ?_)
          clear hK K
          (try simp only [Act.put, List.setIfInBounds_toArray, List.set_cons_zero, List.set_cons_succ])
          refine wpAnyH_ready (rs := [14]) (by kernel_rfl) (by simp) ?_
          refine AllReadyH.cons (by simp only [List.getElem?_toArray, List.getElem?_cons_zero, List.getElem?_cons_succ]; rfl) (fun K hK => ?_) ?_
          · refine stp (by with_unfolding_all rfl) (wp_fappG T_str hF13 (i := 1) rfl (Nat.le_refl _) (hF13.rdOld hrw) (strs_one _) (by with_unfolding_all exact ⟨_, _, rfl, rfl, rfl⟩) (by unfold maxLen; omega) (by omega) ?_)
            intro v14 w14 hF14 hz14
            (try simp only [List.set_cons_zero, List.set_cons_succ] at hF14)
            rw [Nat.zero_add, List.nil_append] at hF14
            obtain ⟨A14, c14, rfl, hc14⟩ := hF14.ownParts (i := 1) rfl
            refine hK.out _ _ ((hF14.blk (i := 4) rfl)) (fun _ => ?_)
            clear hK K
            (try simp only [Act.put, List.setIfInBounds_toArray, List.set_cons_zero, List.set_cons_succ])
            refine wpAnyH_ready (rs := [15]) (by kernel_rfl) (by simp) ?_
            refine AllReadyH.cons (by simp only [List.getElem?_toArray, List.getElem?_cons_zero, List.getElem?_cons_succ]; rfl) (fun K hK => ?_) ?_
            · refine stp (by with_unfolding_all rfl) (wp_fbuild Try.underlying51 (z := .agg (List.toArray rp0)) (by kernel_rfl) (pl := rpP) (by kernel_rfl) (cs := rpL (.int .i64 code) (d.map bv) (.int .i64 n) (.int .i64 m) (.slice A11 body.length c11) (.slice A14 words.length c14) (.slice none 0 0)) (by with_unfolding_all rfl) (vs := [(0, .int .i64 code), (1, .agg (d.map bv).toArray), (2, .int .i64 n), (3, .int .i64 m), (4, .slice A11 body.length c11), (5, .slice A14 words.length c14)]) (by with_unfolding_all rfl) (by with_unfolding_all exact rp_fill hdl.out rfl rfl rfl rfl rfl) ?_)
              refine hK.out _ _ ((hF14.blk (i := 4) rfl)) (fun _ => ?_)
              clear hK K
              (try simp only [Act.put, List.setIfInBounds_toArray, List.set_cons_zero, List.set_cons_succ])
              refine wpAnyH_ready (rs := [17]) (by kernel_rfl) (by simp) ?_
              refine AllReadyH.cons (by simp only [List.getElem?_toArray, List.getElem?_cons_zero, List.getElem?_cons_succ]; rfl) (fun K hK => ?_) ?_
              · refine stp (by with_unfolding_all rfl) (wp_fstA hF14 (i := 0) rfl (ds := rpL (.int .i64 code) (d.map bv) (.int .i64 n) (.int .i64 m) (.slice A11 body.length c11) (.slice A14 words.length c14) (.slice none 0 0)) (by with_unfolding_all exact ⟨_, _, rfl, rfl, rfl⟩) (by rw [rpL_length hdl.out]; kernel_rfl) (rpL_one (bv_one _) rfl rfl rfl rfl rfl rfl) (by rw [rpL_length hdl.out, rp0, rpL_length hz0.out]; omega) ?_)
                intro w15 hF15 hz15
                (try simp only [List.set_cons_zero, List.set_cons_succ] at hF15)
                rw [spl_all (by rw [rpL_length hdl.out, rp0, rpL_length hz0.out])] at hF15
                refine hK.out _ _ ((hF15.blk (i := 4) rfl)) (fun _ => ?_)
                clear hK K
                (try simp only [Act.put])
                refine wpAnyH_done (by kernel_rfl) ?_ _
                go_wp2_with fail
                go_meet
                exact ⟨_, A11, c11, A14, c14, rfl, hF15.picks [0, 1, 2, 3, 4] rfl (by decide)⟩
              exact AllReadyH.nil
            exact AllReadyH.nil
          exact AllReadyH.nil
        exact AllReadyH.nil
      refine AllReadyH.cons (by simp only [List.getElem?_toArray, List.getElem?_cons_zero, List.getElem?_cons_succ]; rfl) (fun K hK => ?_) ?_
      · refine stp (by with_unfolding_all rfl) (wp_falloc hF11 (cs := rp0) (z := .agg (List.toArray (rp0))) rfl (by kernel_rfl) (by with_unfolding_all rfl) ?_)
        intro w12 g12 hF12 hz12
        refine hK.out _ _ ((hF12.blk (i := 3) rfl)) (fun _ => ?_)
        clear hK K
        (try simp only [Act.put, List.setIfInBounds_toArray, List.set_cons_zero, List.set_cons_succ])
        refine wpAnyH_ready (rs := [11]) (by kernel_rfl) (by simp) ?_
        refine AllReadyH.cons (by simp only [List.getElem?_toArray, List.getElem?_cons_zero, List.getElem?_cons_succ]; rfl) (fun K hK => ?_) ?_
        · refine stp (by with_unfolding_all rfl) (wp_fbsl T_str hF12 (vs := []) (by with_unfolding_all rfl) (by with_unfolding_all rfl) (by with_unfolding_all rfl) (by decide) (by simp [Value.cells]) ?_)
          intro w13 g13 hF13 hz13
          refine hK.out _ _ ((hF13.blk (i := 4) rfl)) (fun _ => ?_)
          clear hK K
          (try simp only [Act.put, List.setIfInBounds_toArray, List.set_cons_zero, List.set_cons_succ])
          refine wpAnyH_ready (rs := [14]) (by kernel_rfl) (by simp) ?_
          refine AllReadyH.cons (by simp only [List.getElem?_toArray, List.getElem?_cons_zero, List.getElem?_cons_succ]; rfl) (fun K hK => ?_) ?_
          · refine stp (by with_unfolding_all rfl) (wp_fappG T_str hF13 (i := 0) rfl (Nat.le_refl _) (hF13.rdOld hrw) (strs_one _) (by with_unfolding_all exact ⟨_, _, rfl, rfl, rfl⟩) (by unfold maxLen; omega) (by omega) ?_)
            intro v14 w14 hF14 hz14
            (try simp only [List.set_cons_zero, List.set_cons_succ] at hF14)
            rw [Nat.zero_add, List.nil_append] at hF14
            obtain ⟨A14, c14, rfl, hc14⟩ := hF14.ownParts (i := 0) rfl
            refine hK.out _ _ ((hF14.blk (i := 4) rfl)) (fun _ => ?_)
            clear hK K
            (try simp only [Act.put, List.setIfInBounds_toArray, List.set_cons_zero, List.set_cons_succ])
            refine wpAnyH_ready (rs := [15]) (by kernel_rfl) (by simp) ?_
            refine AllReadyH.cons (by simp only [List.getElem?_toArray, List.getElem?_cons_zero, List.getElem?_cons_succ]; rfl) (fun K hK => ?_) ?_
            · refine stp (by with_unfolding_all rfl) (wp_fbuild Try.underlying51 (z := .agg (List.toArray rp0)) (by kernel_rfl) (pl := rpP) (by kernel_rfl) (cs := rpL (.int .i64 code) (d.map bv) (.int .i64 n) (.int .i64 m) (.slice A11 body.length c11) (.slice A14 words.length c14) (.slice none 0 0)) (by with_unfolding_all rfl) (vs := [(0, .int .i64 code), (1, .agg (d.map bv).toArray), (2, .int .i64 n), (3, .int .i64 m), (4, .slice A11 body.length c11), (5, .slice A14 words.length c14)]) (by with_unfolding_all rfl) (by with_unfolding_all exact rp_fill hdl.out rfl rfl rfl rfl rfl) ?_)
              refine hK.out _ _ ((hF14.blk (i := 4) rfl)) (fun _ => ?_)
              clear hK K
              (try simp only [Act.put, List.setIfInBounds_toArray, List.set_cons_zero, List.set_cons_succ])
              refine wpAnyH_ready (rs := [17]) (by kernel_rfl) (by simp) ?_
              refine AllReadyH.cons (by simp only [List.getElem?_toArray, List.getElem?_cons_zero, List.getElem?_cons_succ]; rfl) (fun K hK => ?_) ?_
              · refine stp (by with_unfolding_all rfl) (wp_fstA hF14 (i := 1) rfl (ds := rpL (.int .i64 code) (d.map bv) (.int .i64 n) (.int .i64 m) (.slice A11 body.length c11) (.slice A14 words.length c14) (.slice none 0 0)) (by with_unfolding_all exact ⟨_, _, rfl, rfl, rfl⟩) (by rw [rpL_length hdl.out]; kernel_rfl) (rpL_one (bv_one _) rfl rfl rfl rfl rfl rfl) (by rw [rpL_length hdl.out, rp0, rpL_length hz0.out]; omega) ?_)
                intro w15 hF15 hz15
                (try simp only [List.set_cons_zero, List.set_cons_succ] at hF15)
                rw [spl_all (by rw [rpL_length hdl.out, rp0, rpL_length hz0.out])] at hF15
                refine hK.out _ _ ((hF15.blk (i := 4) rfl)) (fun _ => ?_)
                clear hK K
                (try simp only [Act.put])
                refine wpAnyH_done (by kernel_rfl) ?_ _
                go_wp2_with fail
                go_meet
                exact ⟨_, A11, c11, A14, c14, rfl, hF15.picks [1, 0, 2, 3, 4] rfl (by decide)⟩
              exact AllReadyH.nil
            exact AllReadyH.nil
          exact AllReadyH.nil
        exact AllReadyH.nil
      exact AllReadyH.nil
    refine AllReadyH.cons (by simp only [List.getElem?_toArray, List.getElem?_cons_zero, List.getElem?_cons_succ]; rfl) (fun K hK => ?_) ?_
    · refine stp (by with_unfolding_all rfl) (wp_fbsl T_str hF2d (vs := []) (by with_unfolding_all rfl) (by with_unfolding_all rfl) (by with_unfolding_all rfl) (by decide) (by simp [Value.cells]) ?_)
      intro w11 g11 hF11 hz11
      refine hK.out _ _ ((hF11.blk (i := 2) rfl)) (fun _ => ?_)
      clear hK K
      (try simp only [Act.put, List.setIfInBounds_toArray, List.set_cons_zero, List.set_cons_succ])
      refine wpAnyH_ready (rs := [10, 16]) (by kernel_rfl) (by simp) ?_
      refine AllReadyH.cons (by simp only [List.getElem?_toArray, List.getElem?_cons_zero, List.getElem?_cons_succ]; rfl) (fun K hK => ?_) ?_
      · refine stp (by with_unfolding_all rfl) (wp_call Try.func26 rfl (by with_unfolding_all rfl) (by with_unfolding_all rfl) (by with_unfolding_all rfl) (twin_any A _ c body _ (by omega) (hF11.rdOld hr)) ?_)
        rintro e w12 ⟨v12, rfl, ho12, hb12⟩
        refine ⟨_, rfl, ?_⟩
        obtain ⟨A12, c12, rfl, hc12, hr12⟩ := ho12.arg
        have hF12 := hF11.gotB hb12 ho12
        refine hK.out _ _ ((hF12.blk (i := 3) rfl)) (fun _ => ?_)
        clear hK K
        (try simp only [Act.put, List.setIfInBounds_toArray, List.set_cons_zero, List.set_cons_succ])
        refine wpAnyH_ready (rs := [14, 16]) (by kernel_rfl) (by simp) ?_
        refine AllReadyH.cons (by simp only [List.getElem?_toArray, List.getElem?_cons_zero, List.getElem?_cons_succ]; rfl) (fun K hK => ?_) ?_
        · refine stp (by with_unfolding_all rfl) (wp_fappG T_str hF12 (i := 1) rfl (Nat.le_refl _) (hF12.rdOld hrw) (strs_one _) (by with_unfolding_all exact ⟨_, _, rfl, rfl, rfl⟩) (by unfold maxLen; omega) (by omega) ?_)
          intro v13 w13 hF13 hz13
          (try simp only [List.set_cons_zero, List.set_cons_succ] at hF13)
          rw [Nat.zero_add, List.nil_append] at hF13
          obtain ⟨A13, c13, rfl, hc13⟩ := hF13.ownParts (i := 1) rfl
          refine hK.out _ _ ((hF13.blk (i := 3) rfl)) (fun _ => ?_)
          clear hK K
          (try simp only [Act.put, List.setIfInBounds_toArray, List.set_cons_zero, List.set_cons_succ])
          refine wpAnyH_ready (rs := [15, 16]) (by kernel_rfl) (by simp) ?_
          refine AllReadyH.cons (by simp only [List.getElem?_toArray, List.getElem?_cons_zero, List.getElem?_cons_succ]; rfl) (fun K hK => ?_) ?_
          · refine stp (by with_unfolding_all rfl) (wp_fbuild Try.underlying51 (z := .agg (List.toArray rp0)) (by kernel_rfl) (pl := rpP) (by kernel_rfl) (cs := rpL (.int .i64 code) (d.map bv) (.int .i64 n) (.int .i64 m) (.slice A12 body.length c12) (.slice A13 words.length c13) (.slice none 0 0)) (by with_unfolding_all rfl) (vs := [(0, .int .i64 code), (1, .agg (d.map bv).toArray), (2, .int .i64 n), (3, .int .i64 m), (4, .slice A12 body.length c12), (5, .slice A13 words.length c13)]) (by with_unfolding_all rfl) (by with_unfolding_all exact rp_fill hdl.out rfl rfl rfl rfl rfl) ?_)
            refine hK.out _ _ ((hF13.blk (i := 3) rfl)) (fun _ => ?_)
            clear hK K
            (try simp only [Act.put, List.setIfInBounds_toArray, List.set_cons_zero, List.set_cons_succ])
            refine wpAnyH_ready (rs := [16]) (by kernel_rfl) (by simp) ?_
            refine AllReadyH.cons (by simp only [List.getElem?_toArray, List.getElem?_cons_zero, List.getElem?_cons_succ]; rfl) (fun K hK => ?_) ?_
            · refine stp (by with_unfolding_all rfl) (wp_falloc hF13 (cs := rp0) (z := .agg (List.toArray (rp0))) rfl (by kernel_rfl) (by with_unfolding_all rfl) ?_)
              intro w14 g14 hF14 hz14
              refine hK.out _ _ ((hF14.blk (i := 4) rfl)) (fun _ => ?_)
              clear hK K
              (try simp only [Act.put, List.setIfInBounds_toArray, List.set_cons_zero, List.set_cons_succ])
              refine wpAnyH_ready (rs := [17]) (by kernel_rfl) (by simp) ?_
              refine AllReadyH.cons (by simp only [List.getElem?_toArray, List.getElem?_cons_zero, List.getElem?_cons_succ]; rfl) (fun K hK => ?_) ?_
              · refine stp (by with_unfolding_all rfl) (wp_fstA hF14 (i := 0) rfl (ds := rpL (.int .i64 code) (d.map bv) (.int .i64 n) (.int .i64 m) (.slice A12 body.length c12) (.slice A13 words.length c13) (.slice none 0 0)) (by with_unfolding_all exact ⟨_, _, rfl, rfl, rfl⟩) (by rw [rpL_length hdl.out]; kernel_rfl) (rpL_one (bv_one _) rfl rfl rfl rfl rfl rfl) (by rw [rpL_length hdl.out, rp0, rpL_length hz0.out]; omega) ?_)
                intro w15 hF15 hz15
                (try simp only [List.set_cons_zero, List.set_cons_succ] at hF15)
                rw [spl_all (by rw [rpL_length hdl.out, rp0, rpL_length hz0.out])] at hF15
                refine hK.out _ _ ((hF15.blk (i := 4) rfl)) (fun _ => ?_)
                clear hK K
                (try simp only [Act.put])
                refine wpAnyH_done (by kernel_rfl) ?_ _
                go_wp2_with fail
                go_meet
                exact ⟨_, A12, c12, A13, c13, rfl, hF15.picks [0, 2, 1, 3, 4] rfl (by decide)⟩
              exact AllReadyH.nil
            exact AllReadyH.nil
          refine AllReadyH.cons (by simp only [List.getElem?_toArray, List.getElem?_cons_zero, List.getElem?_cons_succ]; rfl) (fun K hK => ?_) ?_
          · refine stp (by with_unfolding_all rfl) (wp_falloc hF13 (cs := rp0) (z := .agg (List.toArray (rp0))) rfl (by kernel_rfl) (by with_unfolding_all rfl) ?_)
            intro w14 g14 hF14 hz14
            refine hK.out _ _ ((hF14.blk (i := 4) rfl)) (fun _ => ?_)
            clear hK K
            (try simp only [Act.put, List.setIfInBounds_toArray, List.set_cons_zero, List.set_cons_succ])
            refine wpAnyH_ready (rs := [15]) (by kernel_rfl) (by simp) ?_
            refine AllReadyH.cons (by simp only [List.getElem?_toArray, List.getElem?_cons_zero, List.getElem?_cons_succ]; rfl) (fun K hK => ?_) ?_
            · refine stp (by with_unfolding_all rfl) (wp_fbuild Try.underlying51 (z := .agg (List.toArray rp0)) (by kernel_rfl) (pl := rpP) (by kernel_rfl) (cs := rpL (.int .i64 code) (d.map bv) (.int .i64 n) (.int .i64 m) (.slice A12 body.length c12) (.slice A13 words.length c13) (.slice none 0 0)) (by with_unfolding_all rfl) (vs := [(0, .int .i64 code), (1, .agg (d.map bv).toArray), (2, .int .i64 n), (3, .int .i64 m), (4, .slice A12 body.length c12), (5, .slice A13 words.length c13)]) (by with_unfolding_all rfl) (by with_unfolding_all exact rp_fill hdl.out rfl rfl rfl rfl rfl) ?_)
              refine hK.out _ _ ((hF14.blk (i := 4) rfl)) (fun _ => ?_)
              clear hK K
              (try simp only [Act.put, List.setIfInBounds_toArray, List.set_cons_zero, List.set_cons_succ])
              refine wpAnyH_ready (rs := [17]) (by kernel_rfl) (by simp) ?_
              refine AllReadyH.cons (by simp only [List.getElem?_toArray, List.getElem?_cons_zero, List.getElem?_cons_succ]; rfl) (fun K hK => ?_) ?_
              · refine stp (by with_unfolding_all rfl) (wp_fstA hF14 (i := 0) rfl (ds := rpL (.int .i64 code) (d.map bv) (.int .i64 n) (.int .i64 m) (.slice A12 body.length c12) (.slice A13 words.length c13) (.slice none 0 0)) (by with_unfolding_all exact ⟨_, _, rfl, rfl, rfl⟩) (by rw [rpL_length hdl.out]; kernel_rfl) (rpL_one (bv_one _) rfl rfl rfl rfl rfl rfl) (by rw [rpL_length hdl.out, rp0, rpL_length hz0.out]; omega) ?_)
                intro w15 hF15 hz15
                (try simp only [List.set_cons_zero, List.set_cons_succ] at hF15)
                rw [spl_all (by rw [rpL_length hdl.out, rp0, rpL_length hz0.out])] at hF15
                refine hK.out _ _ ((hF15.blk (i := 4) rfl)) (fun _ => ?_)
                clear hK K
                (try simp only [Act.put])
                refine wpAnyH_done (by kernel_rfl) ?_ _
                go_wp2_with fail
                go_meet
                exact ⟨_, A12, c12, A13, c13, rfl, hF15.picks [0, 2, 1, 3, 4] rfl (by decide)⟩
              exact AllReadyH.nil
            exact AllReadyH.nil
          exact AllReadyH.nil
        refine AllReadyH.cons (by simp only [List.getElem?_toArray, List.getElem?_cons_zero, List.getElem?_cons_succ]; rfl) (fun K hK => ?_) ?_
        · refine stp (by with_unfolding_all rfl) (wp_falloc hF12 (cs := rp0) (z := .agg (List.toArray (rp0))) rfl (by kernel_rfl) (by with_unfolding_all rfl) ?_)
          intro w13 g13 hF13 hz13
          refine hK.out _ _ ((hF13.blk (i := 4) rfl)) (fun _ => ?_)
          clear hK K
          (try simp only [Act.put, List.setIfInBounds_toArray, List.set_cons_zero, List.set_cons_succ])
          refine wpAnyH_ready (rs := [14]) (by kernel_rfl) (by simp) ?_
          refine AllReadyH.cons (by simp only [List.getElem?_toArray, List.getElem?_cons_zero, List.getElem?_cons_succ]; rfl) (fun K hK => ?_) ?_
          · refine stp (by with_unfolding_all rfl) (wp_fappG T_str hF13 (i := 2) rfl (Nat.le_refl _) (hF13.rdOld hrw) (strs_one _) (by with_unfolding_all exact ⟨_, _, rfl, rfl, rfl⟩) (by unfold maxLen; omega) (by omega) ?_)
            intro v14 w14 hF14 hz14
            (try simp only [List.set_cons_zero, List.set_cons_succ] at hF14)
            rw [Nat.zero_add, List.nil_append] at hF14
            obtain ⟨A14, c14, rfl, hc14⟩ := hF14.ownParts (i := 2) rfl
            refine hK.out _ _ ((hF14.blk (i := 4) rfl)) (fun _ => ?_)
            clear hK K
            (try simp only [Act.put, List.setIfInBounds_toArray, List.set_cons_zero, List.set_cons_succ])
            refine wpAnyH_ready (rs := [15]) (by kernel_rfl) (by simp) ?_
            refine AllReadyH.cons (by simp only [List.getElem?_toArray, List.getElem?_cons_zero, List.getElem?_cons_succ]; rfl) (fun K hK => ?_) ?_
            · refine stp (by with_unfolding_all rfl) (wp_fbuild Try.underlying51 (z := .agg (List.toArray rp0)) (by kernel_rfl) (pl := rpP) (by kernel_rfl) (cs := rpL (.int .i64 code) (d.map bv) (.int .i64 n) (.int .i64 m) (.slice A12 body.length c12) (.slice A14 words.length c14) (.slice none 0 0)) (by with_unfolding_all rfl) (vs := [(0, .int .i64 code), (1, .agg (d.map bv).toArray), (2, .int .i64 n), (3, .int .i64 m), (4, .slice A12 body.length c12), (5, .slice A14 words.length c14)]) (by with_unfolding_all rfl) (by with_unfolding_all exact rp_fill hdl.out rfl rfl rfl rfl rfl) ?_)
              refine hK.out _ _ ((hF14.blk (i := 4) rfl)) (fun _ => ?_)
              clear hK K
              (try simp only [Act.put, List.setIfInBounds_toArray, List.set_cons_zero, List.set_cons_succ])
              refine wpAnyH_ready (rs := [17]) (by kernel_rfl) (by simp) ?_
              refine AllReadyH.cons (by simp only [List.getElem?_toArray, List.getElem?_cons_zero, List.getElem?_cons_succ]; rfl) (fun K hK => ?_) ?_
              · refine stp (by with_unfolding_all rfl) (wp_fstA hF14 (i := 0) rfl (ds := rpL (.int .i64 code) (d.map bv) (.int .i64 n) (.int .i64 m) (.slice A12 body.length c12) (.slice A14 words.length c14) (.slice none 0 0)) (by with_unfolding_all exact ⟨_, _, rfl, rfl, rfl⟩) (by rw [rpL_length hdl.out]; kernel_rfl) (rpL_one (bv_one _) rfl rfl rfl rfl rfl rfl) (by rw [rpL_length hdl.out, rp0, rpL_length hz0.out]; omega) ?_)
                intro w15 hF15 hz15
                (try simp only [List.set_cons_zero, List.set_cons_succ] at hF15)
                rw [spl_all (by rw [rpL_length hdl.out, rp0, rpL_length hz0.out])] at hF15
                refine hK.out _ _ ((hF15.blk (i := 4) rfl)) (fun _ => ?_)
                clear hK K
                (try simp only [Act.put])
                refine wpAnyH_done (by kernel_rfl) ?_ _
                go_wp2_with fail
                go_meet
                exact ⟨_, A12, c12, A14, c14, rfl, hF15.picks [0, 2, 1, 3, 4] rfl (by decide)⟩
              exact AllReadyH.nil
            exact AllReadyH.nil
          exact AllReadyH.nil
        exact AllReadyH.nil
      refine AllReadyH.cons (by simp only [List.getElem?_toArray, List.getElem?_cons_zero, List.getElem?_cons_succ]; rfl) (fun K hK => ?_) ?_
      · refine stp (by with_unfolding_all rfl) (wp_falloc hF11 (cs := rp0) (z := .agg (List.toArray (rp0))) rfl (by kernel_rfl) (by with_unfolding_all rfl) ?_)
        intro w12 g12 hF12 hz12
        refine hK.out _ _ ((hF12.blk (i := 3) rfl)) (fun _ => ?_)
        clear hK K
        (try simp only [Act.put, List.setIfInBounds_toArray, List.set_cons_zero, List.set_cons_succ])
        refine wpAnyH_ready (rs := [10]) (by kernel_rfl) (by simp) ?_
        refine AllReadyH.cons (by simp only [List.getElem?_toArray, List.getElem?_cons_zero, List.getElem?_cons_succ]; rfl) (fun K hK => ?_) ?_
        · refine stp (by with_unfolding_all rfl) (wp_call Try.func26 rfl (by with_unfolding_all rfl) (by with_unfolding_all rfl) (by with_unfolding_all rfl) (twin_any A _ c body _ (by omega) (hF12.rdOld hr)) ?_)
          rintro e w13 ⟨v13, rfl, ho13, hb13⟩
          refine ⟨_, rfl, ?_⟩
          obtain ⟨A13, c13, rfl, hc13, hr13⟩ := ho13.arg
          have hF13 := hF12.gotB hb13 ho13
          refine hK.out _ _ ((hF13.blk (i := 4) rfl)) (fun _ => ?_)
          clear hK K
          (try simp only [Act.put, List.setIfInBounds_toArray, List.set_cons_zero, List.set_cons_succ])
          refine wpAnyH_ready (rs := [14]) (by kernel_rfl) (by simp) ?_
          refine AllReadyH.cons (by simp only [List.getElem?_toArray, List.getElem?_cons_zero, List.getElem?_cons_succ]; rfl) (fun K hK => ?_) ?_
          · refine stp (by with_unfolding_all rfl) (wp_fappG T_str hF13 (i := 2) rfl (Nat.le_refl _) (hF13.rdOld hrw) (strs_one _) (by with_unfolding_all exact ⟨_, _, rfl, rfl, rfl⟩) (by unfold maxLen; omega) (by omega) ?_)
            intro v14 w14 hF14 hz14
            (try simp only [List.set_cons_zero, List.set_cons_succ] at hF14)
            rw [Nat.zero_add, List.nil_append] at hF14
            obtain ⟨A14, c14, rfl, hc14⟩ := hF14.ownParts (i := 2) rfl
            refine hK.out _ _ ((hF14.blk (i := 4) rfl)) (fun _ => ?_)
            clear hK K
            (try simp only [Act.put, List.setIfInBounds_toArray, List.set_cons_zero, List.set_cons_succ])
            refine wpAnyH_ready (rs := [15]) (by kernel_rfl) (by simp) ?_
            refine AllReadyH.cons (by simp only [List.getElem?_toArray, List.getElem?_cons_zero, List.getElem?_cons_succ]; rfl) (fun K hK => ?_) ?_
            · refine stp (by with_unfolding_all rfl) (wp_fbuild Try.underlying51 (z := .agg (List.toArray rp0)) (by kernel_rfl) (pl := rpP) (by kernel_rfl) (cs := rpL (.int .i64 code) (d.map bv) (.int .i64 n) (.int .i64 m) (.slice A13 body.length c13) (.slice A14 words.length c14) (.slice none 0 0)) (by with_unfolding_all rfl) (vs := [(0, .int .i64 code), (1, .agg (d.map bv).toArray), (2, .int .i64 n), (3, .int .i64 m), (4, .slice A13 body.length c13), (5, .slice A14 words.length c14)]) (by with_unfolding_all rfl) (by with_unfolding_all exact rp_fill hdl.out rfl rfl rfl rfl rfl) ?_)
              refine hK.out _ _ ((hF14.blk (i := 4) rfl)) (fun _ => ?_)
              clear hK K
              (try simp only [Act.put, List.setIfInBounds_toArray, List.set_cons_zero, List.set_cons_succ])
              refine wpAnyH_ready (rs := [17]) (by kernel_rfl) (by simp) ?_
              refine AllReadyH.cons (by simp only [List.getElem?_toArray, List.getElem?_cons_zero, List.getElem?_cons_succ]; rfl) (fun K hK => ?_) ?_
              · refine stp (by with_unfolding_all rfl) (wp_fstA hF14 (i := 1) rfl (ds := rpL (.int .i64 code) (d.map bv) (.int .i64 n) (.int .i64 m) (.slice A13 body.length c13) (.slice A14 words.length c14) (.slice none 0 0)) (by with_unfolding_all exact ⟨_, _, rfl, rfl, rfl⟩) (by rw [rpL_length hdl.out]; kernel_rfl) (rpL_one (bv_one _) rfl rfl rfl rfl rfl rfl) (by rw [rpL_length hdl.out, rp0, rpL_length hz0.out]; omega) ?_)
                intro w15 hF15 hz15
                (try simp only [List.set_cons_zero, List.set_cons_succ] at hF15)
                rw [spl_all (by rw [rpL_length hdl.out, rp0, rpL_length hz0.out])] at hF15
                refine hK.out _ _ ((hF15.blk (i := 4) rfl)) (fun _ => ?_)
                clear hK K
                (try simp only [Act.put])
                refine wpAnyH_done (by kernel_rfl) ?_ _
                go_wp2_with fail
                go_meet
                exact ⟨_, A13, c13, A14, c14, rfl, hF15.picks [1, 2, 0, 3, 4] rfl (by decide)⟩
              exact AllReadyH.nil
            exact AllReadyH.nil
          exact AllReadyH.nil
        exact AllReadyH.nil
      exact AllReadyH.nil
    refine AllReadyH.cons (by simp only [List.getElem?_toArray, List.getElem?_cons_zero, List.getElem?_cons_succ]; rfl) (fun K hK => ?_) ?_
    · refine stp (by with_unfolding_all rfl) (wp_falloc hF2d (cs := rp0) (z := .agg (List.toArray (rp0))) rfl (by kernel_rfl) (by with_unfolding_all rfl) ?_)
      intro w11 g11 hF11 hz11
      refine hK.out _ _ ((hF11.blk (i := 2) rfl)) (fun _ => ?_)
      clear hK K
      (try simp only [Act.put, List.setIfInBounds_toArray, List.set_cons_zero, List.set_cons_succ])
      refine wpAnyH_ready (rs := [10, 11]) (by kernel_rfl) (by simp) ?_
      refine AllReadyH.cons (by simp only [List.getElem?_toArray, List.getElem?_cons_zero, List.getElem?_cons_succ]; rfl) (fun K hK => ?_) ?_
      · refine stp (by with_unfolding_all rfl) (wp_call Try.func26 rfl (by with_unfolding_all rfl) (by with_unfolding_all rfl) (by with_unfolding_all rfl) (twin_any A _ c body _ (by omega) (hF11.rdOld hr)) ?_)
        rintro e w12 ⟨v12, rfl, ho12, hb12⟩
        refine ⟨_, rfl, ?_⟩
        obtain ⟨A12, c12, rfl, hc12, hr12⟩ := ho12.arg
        have hF12 := hF11.gotB hb12 ho12
        refine hK.out _ _ ((hF12.blk (i := 3) rfl)) (fun _ => ?_)
        clear hK K
        (try simp only [Act.put, List.setIfInBounds_toArray, List.set_cons_zero, List.set_cons_succ])
        refine wpAnyH_ready (rs := [11]) (by kernel_rfl) (by simp) ?_
        refine AllReadyH.cons (by simp only [List.getElem?_toArray, List.getElem?_cons_zero, List.getElem?_cons_succ]; rfl) (fun K hK => ?_) ?_
        · refine stp (by with_unfolding_all rfl) (wp_fbsl T_str hF12 (vs := []) (by with_unfolding_all rfl) (by with_unfolding_all rfl) (by with_unfolding_all rfl) (by decide) (by simp [Value.cells]) ?_)
          intro w13 g13 hF13 hz13
          refine hK.out _ _ ((hF13.blk (i := 4) rfl)) (fun _ => ?_)
          clear hK K
          (try simp only [Act.put, List.setIfInBounds_toArray, List.set_cons_zero, List.set_cons_succ])
          refine wpAnyH_ready (rs := [14]) (by kernel_rfl) (by simp) ?_
          refine AllReadyH.cons (by simp only [List.getElem?_toArray, List.getElem?_cons_zero, List.getElem?_cons_succ]; rfl) (fun K hK => ?_) ?_
          · refine stp (by with_unfolding_all rfl) (wp_fappG T_str hF13 (i := 0) rfl (Nat.le_refl _) (hF13.rdOld hrw) (strs_one _) (by with_unfolding_all exact ⟨_, _, rfl, rfl, rfl⟩) (by unfold maxLen; omega) (by omega) ?_)
            intro v14 w14 hF14 hz14
            (try simp only [List.set_cons_zero, List.set_cons_succ] at hF14)
            rw [Nat.zero_add, List.nil_append] at hF14
            obtain ⟨A14, c14, rfl, hc14⟩ := hF14.ownParts (i := 0) rfl
            refine hK.out _ _ ((hF14.blk (i := 4) rfl)) (fun _ => ?_)
            clear hK K
            (try simp only [Act.put, List.setIfInBounds_toArray, List.set_cons_zero, List.set_cons_succ])
            refine wpAnyH_ready (rs := [15]) (by kernel_rfl) (by simp) ?_
            refine AllReadyH.cons (by simp only [List.getElem?_toArray, List.getElem?_cons_zero, List.getElem?_cons_succ]; rfl) (fun K hK => ?_) ?_
            · refine stp (by with_unfolding_all rfl) (wp_fbuild Try.underlying51 (z := .agg (List.toArray rp0)) (by kernel_rfl) (pl := rpP) (by kernel_rfl) (cs := rpL (.int .i64 code) (d.map bv) (.int .i64 n) (.int .i64 m) (.slice A12 body.length c12) (.slice A14 words.length c14) (.slice none 0 0)) (by with_unfolding_all rfl) (vs := [(0, .int .i64 code), (1, .agg (d.map bv).toArray), (2, .int .i64 n), (3, .int .i64 m), (4, .slice A12 body.length c12), (5, .slice A14 words.length c14)]) (by with_unfolding_all rfl) (by with_unfolding_all exact rp_fill hdl.out rfl rfl rfl rfl rfl) ?_)
              refine hK.out _ _ ((hF14.blk (i := 4) rfl)) (fun _ => ?_)
              clear hK K
              (try simp only [Act.put, List.setIfInBounds_toArray, List.set_cons_zero, List.set_cons_succ])
              refine wpAnyH_ready (rs := [17]) (by kernel_rfl) (by simp) ?_
              refine AllReadyH.cons (by simp only [List.getElem?_toArray, List.getElem?_cons_zero, List.getElem?_cons_succ]; rfl) (fun K hK => ?_) ?_
              · refine stp (by with_unfolding_all rfl) (wp_fstA hF14 (i := 2) rfl (ds := rpL (.int .i64 code) (d.map bv) (.int .i64 n) (.int .i64 m) (.slice A12 body.length c12) (.slice A14 words.length c14) (.slice none 0 0)) (by with_unfolding_all exact ⟨_, _, rfl, rfl, rfl⟩) (by rw [rpL_length hdl.out]; kernel_rfl) (rpL_one (bv_one _) rfl rfl rfl rfl rfl rfl) (by rw [rpL_length hdl.out, rp0, rpL_length hz0.out]; omega) ?_)
                intro w15 hF15 hz15
                (try simp only [List.set_cons_zero, List.set_cons_succ] at hF15)
                rw [spl_all (by rw [rpL_length hdl.out, rp0, rpL_length hz0.out])] at hF15
                refine hK.out _ _ ((hF15.blk (i := 4) rfl)) (fun _ => ?_)
                clear hK K
                (try simp only [Act.put])
                refine wpAnyH_done (by kernel_rfl) ?_ _
                go_wp2_with fail
                go_meet
                exact ⟨_, A12, c12, A14, c14, rfl, hF15.picks [2, 0, 1, 3, 4] rfl (by decide)⟩
              exact AllReadyH.nil
            exact AllReadyH.nil
          exact AllReadyH.nil
        exact AllReadyH.nil
      refine AllReadyH.cons (by simp only [List.getElem?_toArray, List.getElem?_cons_zero, List.getElem?_cons_succ]; rfl) (fun K hK => ?_) ?_
      · refine stp (by with_unfolding_all rfl) (wp_fbsl T_str hF11 (vs := []) (by with_unfolding_all rfl) (by with_unfolding_all rfl) (by with_unfolding_all rfl) (by decide) (by simp [Value.cells]) ?_)
        intro w12 g12 hF12 hz12
        refine hK.out _ _ ((hF12.blk (i := 3) rfl)) (fun _ => ?_)
        clear hK K
        (try simp only [Act.put, List.setIfInBounds_toArray, List.set_cons_zero, List.set_cons_succ])
        refine wpAnyH_ready (rs := [10]) (by kernel_rfl) (by simp) ?_
        refine AllReadyH.cons (by simp only [List.getElem?_toArray, List.getElem?_cons_zero, List.getElem?_cons_succ]; rfl) (fun K hK => ?_) ?_
        · refine stp (by with_unfolding_all rfl) (wp_call Try.func26 rfl (by with_unfolding_all rfl) (by with_unfolding_all rfl) (by with_unfolding_all rfl) (twin_any A _ c body _ (by omega) (hF12.rdOld hr)) ?_)
          rintro e w13 ⟨v13, rfl, ho13, hb13⟩
          refine ⟨_, rfl, ?_⟩
          obtain ⟨A13, c13, rfl, hc13, hr13⟩ := ho13.arg
          have hF13 := hF12.gotB hb13 ho13
          refine hK.out _ _ ((hF13.blk (i := 4) rfl)) (fun _ => ?_)
          clear hK K
          (try simp only [Act.put, List.setIfInBounds_toArray, List.set_cons_zero, List.set_cons_succ])
          refine wpAnyH_ready (rs := [14]) (by kernel_rfl) (by simp) ?_
          refine AllReadyH.cons (by simp only [List.getElem?_toArray, List.getElem?_cons_zero, List.getElem?_cons_succ]; rfl) (fun K hK => ?_) ?_
          · refine stp (by with_unfolding_all rfl) (wp_fappG T_str hF13 (i := 1) rfl (Nat.le_refl _) (hF13.rdOld hrw) (strs_one _) (by with_unfolding_all exact ⟨_, _, rfl, rfl, rfl⟩) (by unfold maxLen; omega) (by omega) ?_)
            intro v14 w14 hF14 hz14
            (try simp only [List.set_cons_zero, List.set_cons_succ] at hF14)
            rw [Nat.zero_add, List.nil_append] at hF14
            obtain ⟨A14, c14, rfl, hc14⟩ := hF14.ownParts (i := 1) rfl
            refine hK.out _ _ ((hF14.blk (i := 4) rfl)) (fun _ => ?_)
            clear hK K
            (try simp only [Act.put, List.setIfInBounds_toArray, List.set_cons_zero, List.set_cons_succ])
            refine wpAnyH_ready (rs := [15]) (by kernel_rfl) (by simp) ?_
            refine AllReadyH.cons (by simp only [List.getElem?_toArray, List.getElem?_cons_zero, List.getElem?_cons_succ]; rfl) (fun K hK => ?_) ?_
            · refine stp (by with_unfolding_all rfl) (wp_fbuild Try.underlying51 (z := .agg (List.toArray rp0)) (by kernel_rfl) (pl := rpP) (by kernel_rfl) (cs := rpL (.int .i64 code) (d.map bv) (.int .i64 n) (.int .i64 m) (.slice A13 body.length c13) (.slice A14 words.length c14) (.slice none 0 0)) (by with_unfolding_all rfl) (vs := [(0, .int .i64 code), (1, .agg (d.map bv).toArray), (2, .int .i64 n), (3, .int .i64 m), (4, .slice A13 body.length c13), (5, .slice A14 words.length c14)]) (by with_unfolding_all rfl) (by with_unfolding_all exact rp_fill hdl.out rfl rfl rfl rfl rfl) ?_)
              refine hK.out _ _ ((hF14.blk (i := 4) rfl)) (fun _ => ?_)
              clear hK K
              (try simp only [Act.put, List.setIfInBounds_toArray, List.set_cons_zero, List.set_cons_succ])
              refine wpAnyH_ready (rs := [17]) (by kernel_rfl) (by simp) ?_
              refine AllReadyH.cons (by simp only [List.getElem?_toArray, List.getElem?_cons_zero, List.getElem?_cons_succ]; rfl) (fun K hK => ?_) ?_
              · refine stp (by with_unfolding_all rfl) (wp_fstA hF14 (i := 2) rfl (ds := rpL (.int .i64 code) (d.map bv) (.int .i64 n) (.int .i64 m) (.slice A13 body.length c13) (.slice A14 words.length c14) (.slice none 0 0)) (by with_unfolding_all exact ⟨_, _, rfl, rfl, rfl⟩) (by rw [rpL_length hdl.out]; kernel_rfl) (rpL_one (bv_one _) rfl rfl rfl rfl rfl rfl) (by rw [rpL_length hdl.out, rp0, rpL_length hz0.out]; omega) ?_)
                intro w15 hF15 hz15
                (try simp only [List.set_cons_zero, List.set_cons_succ] at hF15)
                rw [spl_all (by rw [rpL_length hdl.out, rp0, rpL_length hz0.out])] at hF15
                refine hK.out _ _ ((hF15.blk (i := 4) rfl)) (fun _ => ?_)
                clear hK K
                (try simp only [Act.put])
                refine wpAnyH_done (by kernel_rfl) ?_ _
                go_wp2_with fail
                go_meet
                exact ⟨_, A13, c13, A14, c14, rfl, hF15.picks [2, 1, 0, 3, 4] rfl (by decide)⟩
              exact AllReadyH.nil
            exact AllReadyH.nil
          exact AllReadyH.nil
        exact AllReadyH.nil
      exact AllReadyH.nil
    exact AllReadyH.nil
  case rest =>
    obtain ⟨g3, A3, c3, B3, cb3, rfl, hF3⟩ := hcut
    clear hF0 hF1 hF2
    go_wp2_with (first | (with_reducible refine lst (by with_unfolding_all rfl) (wp_fld4 hF3 Try.underlying45 rfl (by with_unfolding_all exact ⟨_, rfl, rfl⟩) hq.out.2.2.2.2 ?_)))
    have hq2 := box (fun C' k d' => rpL_at (a := (Value.int .i64) code) (e := (Value.int .i64) n) (f := (Value.int .i64) m) (g := .slice A3 body.length c3) (h := .slice B3 words.length cb3) (i := .slice C' k d') hdl.out)
    have hFw := hF3.none_ w.heap.size 29 32
    go_loopw [25] (fun i wr => ∃ (k : Nat) (C' : Option Addr) (d' : Nat), k ≤ sums.length ∧ i = .int .i64 k ∧ Fr [] w wr [.own w.heap.size 29 32 (.slice C' k d') k (sumC (sums.take k)), .blk g3 51 (rpL (.int .i64 code) (d.map bv) (.int .i64 n) (.int .i64 m) (.slice A3 body.length c3) (.slice B3 words.length cb3) (.slice C' k d')), .own w.heap.size 9 1 (.slice B3 words.length cb3) words.length (words.map Value.string), Ent.bytes w.heap.size 5 (.slice A3 body.length c3) body, .blk g2 51 rp0, .blk g1 47 (rpL (.int .i64 code) (d.map bv) (.int .i64 n) (.int .i64 m) (.slice A body.length c) (.slice B words.length cb) (.slice C sums.length cc))]) (fun i _ => sums.length - (intOf i).toNat)
    case atStart => exact ⟨0, none, 0, by omega, rfl, hFw⟩
    case round =>
      clear hFw hF3
      obtain ⟨k, C', d', hk, rfl, hF⟩ := hrel
      have hrs' := hF.rdOld hrs
      by_cases hlt : k < sums.length
      · obtain ⟨u, hu⟩ : ∃ u, sums[k]? = some u := ⟨sums[k]'(by omega), by simp⟩
        have hul : Box ((u.map bv).length = 32) := box (by rw [List.length_map]; exact hs32.out u (List.mem_of_getElem? hu))
        have hcut := box (sumC_at hs32.out hu)
        have hT := box (take_snoc hu)
        replace hu := box hu
        go_wp2_with (first | (with_reducible refine lst (by with_unfolding_all rfl) (wp_indexAddr T_sums hrs' (by with_unfolding_all exact ⟨_, _, _, _, rfl, rfl, rfl⟩) (by omega) (by omega) ?_)) | (with_reducible refine lst (by with_unfolding_all rfl) (wp_loadA hrs' Try.underlying22 rfl (by with_unfolding_all exact ⟨_, rfl, rfl⟩) (ds := (u.map bv)) (by rw [hul.out]; kernel_rfl) hcut.out ?_)) | ((with_reducible refine lst (by with_unfolding_all rfl) (wp_falloc hF (cs := (zeros.map bv)) (z := .agg (List.toArray ((zeros.map bv)))) rfl (by kernel_rfl) (by with_unfolding_all rfl) ?_)); intro w2 g2 hF2 hz2) | ((with_reducible refine lst (by with_unfolding_all rfl) (wp_fstA0 hF2 (by with_unfolding_all exact ⟨_, _, rfl, rfl, rfl⟩) (by rw [hul.out]; kernel_rfl) (bv_one _) (by rw [hul.out, hz0.out]; omega) (spl_all (by rw [hul.out, hz0.out])) ?_)); intro w3 hF3 hz3) | (with_reducible refine lst (by with_unfolding_all rfl) (wp_fld2 hF3 Try.underlying49 rfl (by with_unfolding_all exact ⟨_, rfl, rfl⟩) (hq2.out _ _ _).2.2.2.2 ?_)) | (with_reducible refine lst (by with_unfolding_all rfl) (wp_fldA0 hF3 Try.underlying22 rfl (by with_unfolding_all exact ⟨_, rfl, rfl⟩) (ds := (u.map bv)) (by rw [hul.out]; kernel_rfl) (take_all _) ?_)) | ((with_reducible refine lst (by with_unfolding_all rfl) (wp_fbs1 T_digs hF3 (by with_unfolding_all rfl) (ds := (u.map bv)) (by with_unfolding_all rfl) hul.out (by decide) ?_)); intro w4 g4 hF4 hz4) | ((with_reducible refine lst (by with_unfolding_all rfl) (wp_fappG T_digs hF4 (i := 2) rfl (Nat.le_refl _) hF4.rdOwn0 (bv_one _) (by with_unfolding_all exact ⟨_, _, rfl, rfl, rfl⟩) (by unfold maxLen; omega) (by omega) ?_)); intro v5 w5 hF5 hz5; simp only [List.set_cons_zero, List.set_cons_succ] at hF5; obtain ⟨A5, c5, rfl, hc5⟩ := hF5.ownParts (i := 2) rfl) | ((with_reducible refine lst (by with_unfolding_all rfl) (wp_fst3 hF5 (by with_unfolding_all exact ⟨_, _, rfl, rfl, rfl⟩) (by kernel_rfl) rfl rfl (by rw [rpL_length hdl.out]; omega) (rpL_37 (v := .slice A5 (k + 1) c5) hdl.out) ?_)); intro w6 hF6 hz6))
        go_roundw
        case rel => exact ⟨k + 1, A5, c5, by omega, by go_num, by have h := hF6.tail.tail; rw [hT.out, sumC_snoc]; exact h⟩
        case measure => simp [intOf]; omega
      · obtain rfl : k = sums.length := by omega
        rw [List.take_of_length_le (Nat.le_refl _)] at hF
        go_wp2_with (first | (with_reducible refine lst (by with_unfolding_all rfl) (wp_fldA1 hF Try.underlying51 rfl (by with_unfolding_all exact ⟨_, rfl, rfl⟩) (ds := (rpL (.int .i64 code) (d.map bv) (.int .i64 n) (.int .i64 m) (.slice A3 body.length c3) (.slice B3 words.length cb3) (.slice C' sums.length d'))) (by rw [rpL_length hdl.out]; kernel_rfl) (take_all _) ?_)) | ((with_reducible refine lst (by with_unfolding_all rfl) (wp_fstA4 hF (by with_unfolding_all exact ⟨_, _, rfl, rfl, rfl⟩) (by rw [rpL_length hdl.out]; kernel_rfl) (rpL_one (bv_one _) rfl rfl rfl rfl rfl rfl) (by rw [rpL_length hdl.out, rp0, rpL_length hz0.out]; omega) (spl_all (by rw [rpL_length hdl.out, rp0, rpL_length hz0.out])) ?_)); intro w7 hF7 hz7))
        refine bodyPost_ret (results_cellF_4 hF7 rfl _ rfl Try.underlying51 rfl (by rw [rpL_length hdl.out]; kernel_rfl)) rfl ?_
        exact ⟨A3, B3, C', c3, cb3, d', rfl, hF7.pick3 (i := 3) (j := 2) (k := 0) rfl rfl rfl (by decide) (by decide) (by decide)⟩
end Go.Proofs.Ytcnjnkkdidpjiaa
