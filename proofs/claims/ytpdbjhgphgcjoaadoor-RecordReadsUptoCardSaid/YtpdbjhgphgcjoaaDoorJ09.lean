/-
  Layer 14: the walks of Right, both texts; of the turns between the texts.
-/
import Derived.Test.YtpdbjhgphgcjoaaDoorJ06
import Derived.Test.YtpdbjhgphgcjoaaDoorJ07
import Derived.Test.YtpdbjhgphgcjoaaDoorJ08
namespace Go.Proofs.YtpdbjhgphgcjoaaDoor
open Go.RowKit

theorem Fr.maxW {w w' : World} {es : List Ent} (hF : Fr [] w w' es) (h : MaxW w) : MaxW w' := h.on hF.below

set_option maxRecDepth 20000 in
set_option maxHeartbeats 6400000 in
theorem right_any (r : Rec) (w : World) (hM : MaxW w) (hd : r.d.length = 32) (hs : r.repo.size ≤ 4000000000) (ht : r.tag.size ≤ 4000000000) :
    Calls Tryd.prog 11 #[.agg r.cells.toArray] w fun e w' => e = .returned (.bool (recOk r)) ∧ Below w.heap.size w w' := by
  obtain ⟨kind, repo, tag, d, t⟩ := r
  simp only [Rec.cells] at hd hs ht ⊢
  have hF0 := Fr.nil w
  have hdm : (d.map bv).length = 32 := by rw [List.length_map]; exact hd
  have h35 := box (rcL_at (k := (Value.int .i64) kind) (a := .string repo) (b := .string tag) (t := (Value.int .i64) t) hdm)
  replace hdm := box hdm
  replace hd := box hd
  have hz32 := box zeros_32
  have hrepo := box (fun w (hM : MaxW w) => repo_any repo w hM (by omega))
  have htag := box (fun w => tag_any tag w (by omega))
  have hR : Box (recOk ⟨kind, repo, tag, d, t⟩ = ((kind == 1 || (kind == 2 && d == zeros)) && (repoB repo.data.toList && (tagB tag.data.toList && (decide (0 ≤ t) && decide (t ≤ 1099511627776)))))) := box rfl
  generalize recOk ⟨kind, repo, tag, d, t⟩ = R at *
  generalize repoB repo.data.toList = okr at *
  generalize tagB tag.data.toList = okt at *
  by_cases k1 : kind = 1
  · subst k1
    cases okr with
    | false =>
      have hno : Box (R = false) := box (by rw [hR.out]; simp)
      clear hR
      go_enter Tryd.func11, Tryd.ntmps11
      go_wp2_with (first | ((with_reducible refine lst (by with_unfolding_all rfl) (wp_fbox hF0 (cs := (rcL (.int .i64 1) (.string repo) (.string tag) (d.map bv) (.int .i64 t))) rfl (by with_unfolding_all rfl) (by with_unfolding_all rfl) ?_)); intro w1 g1 hF1 hz1) | (with_reducible refine lst (by with_unfolding_all rfl) (wp_fld0 hF1 Tryd.underlying3 rfl (by with_unfolding_all exact ⟨_, rfl, rfl⟩) (by first | with_unfolding_all rfl | exact h35.out) ?_)) | (with_reducible refine lst (by with_unfolding_all rfl) (wp_fld0 hF1 Tryd.underlying9 rfl (by with_unfolding_all exact ⟨_, rfl, rfl⟩) (by first | with_unfolding_all rfl | assumption) ?_)) | (with_reducible refine lst (by with_unfolding_all rfl) (wp_fldA0 hF1 Tryd.underlying29 rfl (by with_unfolding_all exact ⟨_, rfl, rfl⟩) (ds := (d.map bv)) (by rw [hdm.out]; kernel_rfl) (rcL_dig rfl) ?_)) | (with_reducible refine lst (by with_unfolding_all rfl) (wp_eqB Tryd.underlying29 Tryd.underlying5 (by kernel_rfl) (by kernel_rfl) hd.out hz32.out (by with_unfolding_all rfl) (by with_unfolding_all rfl) (by with_unfolding_all rfl) ?_)))
      refine (hrepo.out _ (hF1.maxW hM)).mono ?_
      rintro e w2 ⟨rfl, hb2⟩
      have hF2 := hF1.call hb2
      go_wp2_with (first | ((with_reducible refine lst (by with_unfolding_all rfl) (wp_fbox hF0 (cs := (rcL (.int .i64 1) (.string repo) (.string tag) (d.map bv) (.int .i64 t))) rfl (by with_unfolding_all rfl) (by with_unfolding_all rfl) ?_)); intro w1 g1 hF1 hz1) | (with_reducible refine lst (by with_unfolding_all rfl) (wp_fld0 hF2 Tryd.underlying3 rfl (by with_unfolding_all exact ⟨_, rfl, rfl⟩) (by first | with_unfolding_all rfl | exact h35.out) ?_)) | (with_reducible refine lst (by with_unfolding_all rfl) (wp_fld0 hF2 Tryd.underlying9 rfl (by with_unfolding_all exact ⟨_, rfl, rfl⟩) (by first | with_unfolding_all rfl | assumption) ?_)) | (with_reducible refine lst (by with_unfolding_all rfl) (wp_fldA0 hF2 Tryd.underlying29 rfl (by with_unfolding_all exact ⟨_, rfl, rfl⟩) (ds := (d.map bv)) (by rw [hdm.out]; kernel_rfl) (rcL_dig rfl) ?_)) | (with_reducible refine lst (by with_unfolding_all rfl) (wp_eqB Tryd.underlying29 Tryd.underlying5 (by kernel_rfl) (by kernel_rfl) hd.out hz32.out (by with_unfolding_all rfl) (by with_unfolding_all rfl) (by with_unfolding_all rfl) ?_)))
      go_ret
      exact ⟨ret1 (by rw [hno.out]; first | rfl | (simp; done) | (simp; omega)), hF2.below⟩
    | true =>
      cases okt with
      | false =>
        have hno : Box (R = false) := box (by rw [hR.out]; simp)
        clear hR
        go_enter Tryd.func11, Tryd.ntmps11
        go_wp2_with (first | ((with_reducible refine lst (by with_unfolding_all rfl) (wp_fbox hF0 (cs := (rcL (.int .i64 1) (.string repo) (.string tag) (d.map bv) (.int .i64 t))) rfl (by with_unfolding_all rfl) (by with_unfolding_all rfl) ?_)); intro w1 g1 hF1 hz1) | (with_reducible refine lst (by with_unfolding_all rfl) (wp_fld0 hF1 Tryd.underlying3 rfl (by with_unfolding_all exact ⟨_, rfl, rfl⟩) (by first | with_unfolding_all rfl | exact h35.out) ?_)) | (with_reducible refine lst (by with_unfolding_all rfl) (wp_fld0 hF1 Tryd.underlying9 rfl (by with_unfolding_all exact ⟨_, rfl, rfl⟩) (by first | with_unfolding_all rfl | assumption) ?_)) | (with_reducible refine lst (by with_unfolding_all rfl) (wp_fldA0 hF1 Tryd.underlying29 rfl (by with_unfolding_all exact ⟨_, rfl, rfl⟩) (ds := (d.map bv)) (by rw [hdm.out]; kernel_rfl) (rcL_dig rfl) ?_)) | (with_reducible refine lst (by with_unfolding_all rfl) (wp_eqB Tryd.underlying29 Tryd.underlying5 (by kernel_rfl) (by kernel_rfl) hd.out hz32.out (by with_unfolding_all rfl) (by with_unfolding_all rfl) (by with_unfolding_all rfl) ?_)))
        refine (hrepo.out _ (hF1.maxW hM)).mono ?_
        rintro e w2 ⟨rfl, hb2⟩
        have hF2 := hF1.call hb2
        go_wp2_with (first | ((with_reducible refine lst (by with_unfolding_all rfl) (wp_fbox hF0 (cs := (rcL (.int .i64 1) (.string repo) (.string tag) (d.map bv) (.int .i64 t))) rfl (by with_unfolding_all rfl) (by with_unfolding_all rfl) ?_)); intro w1 g1 hF1 hz1) | (with_reducible refine lst (by with_unfolding_all rfl) (wp_fld0 hF2 Tryd.underlying3 rfl (by with_unfolding_all exact ⟨_, rfl, rfl⟩) (by first | with_unfolding_all rfl | exact h35.out) ?_)) | (with_reducible refine lst (by with_unfolding_all rfl) (wp_fld0 hF2 Tryd.underlying9 rfl (by with_unfolding_all exact ⟨_, rfl, rfl⟩) (by first | with_unfolding_all rfl | assumption) ?_)) | (with_reducible refine lst (by with_unfolding_all rfl) (wp_fldA0 hF2 Tryd.underlying29 rfl (by with_unfolding_all exact ⟨_, rfl, rfl⟩) (ds := (d.map bv)) (by rw [hdm.out]; kernel_rfl) (rcL_dig rfl) ?_)) | (with_reducible refine lst (by with_unfolding_all rfl) (wp_eqB Tryd.underlying29 Tryd.underlying5 (by kernel_rfl) (by kernel_rfl) hd.out hz32.out (by with_unfolding_all rfl) (by with_unfolding_all rfl) (by with_unfolding_all rfl) ?_)))
        refine (htag.out _).mono ?_
        rintro e w' ⟨rfl, rfl⟩
        go_wp2_with (first | ((with_reducible refine lst (by with_unfolding_all rfl) (wp_fbox hF0 (cs := (rcL (.int .i64 1) (.string repo) (.string tag) (d.map bv) (.int .i64 t))) rfl (by with_unfolding_all rfl) (by with_unfolding_all rfl) ?_)); intro w1 g1 hF1 hz1) | (with_reducible refine lst (by with_unfolding_all rfl) (wp_fld0 hF2 Tryd.underlying3 rfl (by with_unfolding_all exact ⟨_, rfl, rfl⟩) (by first | with_unfolding_all rfl | exact h35.out) ?_)) | (with_reducible refine lst (by with_unfolding_all rfl) (wp_fld0 hF2 Tryd.underlying9 rfl (by with_unfolding_all exact ⟨_, rfl, rfl⟩) (by first | with_unfolding_all rfl | assumption) ?_)) | (with_reducible refine lst (by with_unfolding_all rfl) (wp_fldA0 hF2 Tryd.underlying29 rfl (by with_unfolding_all exact ⟨_, rfl, rfl⟩) (ds := (d.map bv)) (by rw [hdm.out]; kernel_rfl) (rcL_dig rfl) ?_)) | (with_reducible refine lst (by with_unfolding_all rfl) (wp_eqB Tryd.underlying29 Tryd.underlying5 (by kernel_rfl) (by kernel_rfl) hd.out hz32.out (by with_unfolding_all rfl) (by with_unfolding_all rfl) (by with_unfolding_all rfl) ?_)))
        go_ret
        exact ⟨ret1 (by rw [hno.out]; first | rfl | (simp; done) | (simp; omega)), hF2.below⟩
      | true =>
        by_cases h0 : 0 ≤ t
        · have hd0 : decide (0 ≤ t) = true := decide_eq_true h0
          have hyes : Box (R = decide (t ≤ 1099511627776)) := box (by rw [hR.out]; simp [h0])
          clear hR
          go_enter Tryd.func11, Tryd.ntmps11
          go_wp2_with (first | ((with_reducible refine lst (by with_unfolding_all rfl) (wp_fbox hF0 (cs := (rcL (.int .i64 1) (.string repo) (.string tag) (d.map bv) (.int .i64 t))) rfl (by with_unfolding_all rfl) (by with_unfolding_all rfl) ?_)); intro w1 g1 hF1 hz1) | (with_reducible refine lst (by with_unfolding_all rfl) (wp_fld0 hF1 Tryd.underlying3 rfl (by with_unfolding_all exact ⟨_, rfl, rfl⟩) (by first | with_unfolding_all rfl | exact h35.out) ?_)) | (with_reducible refine lst (by with_unfolding_all rfl) (wp_fld0 hF1 Tryd.underlying9 rfl (by with_unfolding_all exact ⟨_, rfl, rfl⟩) (by first | with_unfolding_all rfl | assumption) ?_)) | (with_reducible refine lst (by with_unfolding_all rfl) (wp_fldA0 hF1 Tryd.underlying29 rfl (by with_unfolding_all exact ⟨_, rfl, rfl⟩) (ds := (d.map bv)) (by rw [hdm.out]; kernel_rfl) (rcL_dig rfl) ?_)) | (with_reducible refine lst (by with_unfolding_all rfl) (wp_eqB Tryd.underlying29 Tryd.underlying5 (by kernel_rfl) (by kernel_rfl) hd.out hz32.out (by with_unfolding_all rfl) (by with_unfolding_all rfl) (by with_unfolding_all rfl) ?_)))
          refine (hrepo.out _ (hF1.maxW hM)).mono ?_
          rintro e w2 ⟨rfl, hb2⟩
          have hF2 := hF1.call hb2
          go_wp2_with (first | ((with_reducible refine lst (by with_unfolding_all rfl) (wp_fbox hF0 (cs := (rcL (.int .i64 1) (.string repo) (.string tag) (d.map bv) (.int .i64 t))) rfl (by with_unfolding_all rfl) (by with_unfolding_all rfl) ?_)); intro w1 g1 hF1 hz1) | (with_reducible refine lst (by with_unfolding_all rfl) (wp_fld0 hF2 Tryd.underlying3 rfl (by with_unfolding_all exact ⟨_, rfl, rfl⟩) (by first | with_unfolding_all rfl | exact h35.out) ?_)) | (with_reducible refine lst (by with_unfolding_all rfl) (wp_fld0 hF2 Tryd.underlying9 rfl (by with_unfolding_all exact ⟨_, rfl, rfl⟩) (by first | with_unfolding_all rfl | assumption) ?_)) | (with_reducible refine lst (by with_unfolding_all rfl) (wp_fldA0 hF2 Tryd.underlying29 rfl (by with_unfolding_all exact ⟨_, rfl, rfl⟩) (ds := (d.map bv)) (by rw [hdm.out]; kernel_rfl) (rcL_dig rfl) ?_)) | (with_reducible refine lst (by with_unfolding_all rfl) (wp_eqB Tryd.underlying29 Tryd.underlying5 (by kernel_rfl) (by kernel_rfl) hd.out hz32.out (by with_unfolding_all rfl) (by with_unfolding_all rfl) (by with_unfolding_all rfl) ?_)))
          refine (htag.out _).mono ?_
          rintro e w' ⟨rfl, rfl⟩
          go_wp2_with (first | ((with_reducible refine lst (by with_unfolding_all rfl) (wp_fbox hF0 (cs := (rcL (.int .i64 1) (.string repo) (.string tag) (d.map bv) (.int .i64 t))) rfl (by with_unfolding_all rfl) (by with_unfolding_all rfl) ?_)); intro w1 g1 hF1 hz1) | (with_reducible refine lst (by with_unfolding_all rfl) (wp_fld0 hF2 Tryd.underlying3 rfl (by with_unfolding_all exact ⟨_, rfl, rfl⟩) (by first | with_unfolding_all rfl | exact h35.out) ?_)) | (with_reducible refine lst (by with_unfolding_all rfl) (wp_fld0 hF2 Tryd.underlying9 rfl (by with_unfolding_all exact ⟨_, rfl, rfl⟩) (by first | with_unfolding_all rfl | assumption) ?_)) | (with_reducible refine lst (by with_unfolding_all rfl) (wp_fldA0 hF2 Tryd.underlying29 rfl (by with_unfolding_all exact ⟨_, rfl, rfl⟩) (ds := (d.map bv)) (by rw [hdm.out]; kernel_rfl) (rcL_dig rfl) ?_)) | (with_reducible refine lst (by with_unfolding_all rfl) (wp_eqB Tryd.underlying29 Tryd.underlying5 (by kernel_rfl) (by kernel_rfl) hd.out hz32.out (by with_unfolding_all rfl) (by with_unfolding_all rfl) (by with_unfolding_all rfl) ?_)))
          go_ret
          exact ⟨ret1 (by rw [hyes.out]; first | rfl | (simp; done) | (simp; omega)), hF2.below⟩
        · have hd0 : decide (0 ≤ t) = false := decide_eq_false h0
          have hno : Box (R = false) := box (by rw [hR.out]; simp [h0])
          clear hR
          go_enter Tryd.func11, Tryd.ntmps11
          go_wp2_with (first | ((with_reducible refine lst (by with_unfolding_all rfl) (wp_fbox hF0 (cs := (rcL (.int .i64 1) (.string repo) (.string tag) (d.map bv) (.int .i64 t))) rfl (by with_unfolding_all rfl) (by with_unfolding_all rfl) ?_)); intro w1 g1 hF1 hz1) | (with_reducible refine lst (by with_unfolding_all rfl) (wp_fld0 hF1 Tryd.underlying3 rfl (by with_unfolding_all exact ⟨_, rfl, rfl⟩) (by first | with_unfolding_all rfl | exact h35.out) ?_)) | (with_reducible refine lst (by with_unfolding_all rfl) (wp_fld0 hF1 Tryd.underlying9 rfl (by with_unfolding_all exact ⟨_, rfl, rfl⟩) (by first | with_unfolding_all rfl | assumption) ?_)) | (with_reducible refine lst (by with_unfolding_all rfl) (wp_fldA0 hF1 Tryd.underlying29 rfl (by with_unfolding_all exact ⟨_, rfl, rfl⟩) (ds := (d.map bv)) (by rw [hdm.out]; kernel_rfl) (rcL_dig rfl) ?_)) | (with_reducible refine lst (by with_unfolding_all rfl) (wp_eqB Tryd.underlying29 Tryd.underlying5 (by kernel_rfl) (by kernel_rfl) hd.out hz32.out (by with_unfolding_all rfl) (by with_unfolding_all rfl) (by with_unfolding_all rfl) ?_)))
          refine (hrepo.out _ (hF1.maxW hM)).mono ?_
          rintro e w2 ⟨rfl, hb2⟩
          have hF2 := hF1.call hb2
          go_wp2_with (first | ((with_reducible refine lst (by with_unfolding_all rfl) (wp_fbox hF0 (cs := (rcL (.int .i64 1) (.string repo) (.string tag) (d.map bv) (.int .i64 t))) rfl (by with_unfolding_all rfl) (by with_unfolding_all rfl) ?_)); intro w1 g1 hF1 hz1) | (with_reducible refine lst (by with_unfolding_all rfl) (wp_fld0 hF2 Tryd.underlying3 rfl (by with_unfolding_all exact ⟨_, rfl, rfl⟩) (by first | with_unfolding_all rfl | exact h35.out) ?_)) | (with_reducible refine lst (by with_unfolding_all rfl) (wp_fld0 hF2 Tryd.underlying9 rfl (by with_unfolding_all exact ⟨_, rfl, rfl⟩) (by first | with_unfolding_all rfl | assumption) ?_)) | (with_reducible refine lst (by with_unfolding_all rfl) (wp_fldA0 hF2 Tryd.underlying29 rfl (by with_unfolding_all exact ⟨_, rfl, rfl⟩) (ds := (d.map bv)) (by rw [hdm.out]; kernel_rfl) (rcL_dig rfl) ?_)) | (with_reducible refine lst (by with_unfolding_all rfl) (wp_eqB Tryd.underlying29 Tryd.underlying5 (by kernel_rfl) (by kernel_rfl) hd.out hz32.out (by with_unfolding_all rfl) (by with_unfolding_all rfl) (by with_unfolding_all rfl) ?_)))
          refine (htag.out _).mono ?_
          rintro e w' ⟨rfl, rfl⟩
          go_wp2_with (first | ((with_reducible refine lst (by with_unfolding_all rfl) (wp_fbox hF0 (cs := (rcL (.int .i64 1) (.string repo) (.string tag) (d.map bv) (.int .i64 t))) rfl (by with_unfolding_all rfl) (by with_unfolding_all rfl) ?_)); intro w1 g1 hF1 hz1) | (with_reducible refine lst (by with_unfolding_all rfl) (wp_fld0 hF2 Tryd.underlying3 rfl (by with_unfolding_all exact ⟨_, rfl, rfl⟩) (by first | with_unfolding_all rfl | exact h35.out) ?_)) | (with_reducible refine lst (by with_unfolding_all rfl) (wp_fld0 hF2 Tryd.underlying9 rfl (by with_unfolding_all exact ⟨_, rfl, rfl⟩) (by first | with_unfolding_all rfl | assumption) ?_)) | (with_reducible refine lst (by with_unfolding_all rfl) (wp_fldA0 hF2 Tryd.underlying29 rfl (by with_unfolding_all exact ⟨_, rfl, rfl⟩) (ds := (d.map bv)) (by rw [hdm.out]; kernel_rfl) (rcL_dig rfl) ?_)) | (with_reducible refine lst (by with_unfolding_all rfl) (wp_eqB Tryd.underlying29 Tryd.underlying5 (by kernel_rfl) (by kernel_rfl) hd.out hz32.out (by with_unfolding_all rfl) (by with_unfolding_all rfl) (by with_unfolding_all rfl) ?_)))
          go_ret
          exact ⟨ret1 (by rw [hno.out]; first | rfl | (simp; done) | (simp; omega)), hF2.below⟩
  · by_cases k2 : kind = 2
    · subst k2
      cases hz : (d == zeros) with
      | false =>
        have hno : Box (R = false) := box (by rw [hR.out, hz]; rfl)
        clear hR k1
        go_enter Tryd.func11, Tryd.ntmps11
        go_wp2_with (first | ((with_reducible refine lst (by with_unfolding_all rfl) (wp_fbox hF0 (cs := (rcL (.int .i64 2) (.string repo) (.string tag) (d.map bv) (.int .i64 t))) rfl (by with_unfolding_all rfl) (by with_unfolding_all rfl) ?_)); intro w1 g1 hF1 hz1) | (with_reducible refine lst (by with_unfolding_all rfl) (wp_fld0 hF1 Tryd.underlying3 rfl (by with_unfolding_all exact ⟨_, rfl, rfl⟩) (by first | with_unfolding_all rfl | exact h35.out) ?_)) | (with_reducible refine lst (by with_unfolding_all rfl) (wp_fld0 hF1 Tryd.underlying9 rfl (by with_unfolding_all exact ⟨_, rfl, rfl⟩) (by first | with_unfolding_all rfl | assumption) ?_)) | (with_reducible refine lst (by with_unfolding_all rfl) (wp_fldA0 hF1 Tryd.underlying29 rfl (by with_unfolding_all exact ⟨_, rfl, rfl⟩) (ds := (d.map bv)) (by rw [hdm.out]; kernel_rfl) (rcL_dig rfl) ?_)) | (with_reducible refine lst (by with_unfolding_all rfl) (wp_eqB Tryd.underlying29 Tryd.underlying5 (by kernel_rfl) (by kernel_rfl) hd.out hz32.out (by with_unfolding_all rfl) (by with_unfolding_all rfl) (by with_unfolding_all rfl) ?_)))
        go_ret
        exact ⟨ret1 (by rw [hno.out]; first | rfl | (simp; done) | (simp; omega)), hF1.below⟩
      | true =>
        clear k1
        cases okr with
        | false =>
          have hno : Box (R = false) := box (by rw [hR.out, hz]; simp)
          clear hR
          go_enter Tryd.func11, Tryd.ntmps11
          go_wp2_with (first | ((with_reducible refine lst (by with_unfolding_all rfl) (wp_fbox hF0 (cs := (rcL (.int .i64 2) (.string repo) (.string tag) (d.map bv) (.int .i64 t))) rfl (by with_unfolding_all rfl) (by with_unfolding_all rfl) ?_)); intro w1 g1 hF1 hz1) | (with_reducible refine lst (by with_unfolding_all rfl) (wp_fld0 hF1 Tryd.underlying3 rfl (by with_unfolding_all exact ⟨_, rfl, rfl⟩) (by first | with_unfolding_all rfl | exact h35.out) ?_)) | (with_reducible refine lst (by with_unfolding_all rfl) (wp_fld0 hF1 Tryd.underlying9 rfl (by with_unfolding_all exact ⟨_, rfl, rfl⟩) (by first | with_unfolding_all rfl | assumption) ?_)) | (with_reducible refine lst (by with_unfolding_all rfl) (wp_fldA0 hF1 Tryd.underlying29 rfl (by with_unfolding_all exact ⟨_, rfl, rfl⟩) (ds := (d.map bv)) (by rw [hdm.out]; kernel_rfl) (rcL_dig rfl) ?_)) | (with_reducible refine lst (by with_unfolding_all rfl) (wp_eqB Tryd.underlying29 Tryd.underlying5 (by kernel_rfl) (by kernel_rfl) hd.out hz32.out (by with_unfolding_all rfl) (by with_unfolding_all rfl) (by with_unfolding_all rfl) ?_)))
          refine (hrepo.out _ (hF1.maxW hM)).mono ?_
          rintro e w2 ⟨rfl, hb2⟩
          have hF2 := hF1.call hb2
          go_wp2_with (first | ((with_reducible refine lst (by with_unfolding_all rfl) (wp_fbox hF0 (cs := (rcL (.int .i64 2) (.string repo) (.string tag) (d.map bv) (.int .i64 t))) rfl (by with_unfolding_all rfl) (by with_unfolding_all rfl) ?_)); intro w1 g1 hF1 hz1) | (with_reducible refine lst (by with_unfolding_all rfl) (wp_fld0 hF2 Tryd.underlying3 rfl (by with_unfolding_all exact ⟨_, rfl, rfl⟩) (by first | with_unfolding_all rfl | exact h35.out) ?_)) | (with_reducible refine lst (by with_unfolding_all rfl) (wp_fld0 hF2 Tryd.underlying9 rfl (by with_unfolding_all exact ⟨_, rfl, rfl⟩) (by first | with_unfolding_all rfl | assumption) ?_)) | (with_reducible refine lst (by with_unfolding_all rfl) (wp_fldA0 hF2 Tryd.underlying29 rfl (by with_unfolding_all exact ⟨_, rfl, rfl⟩) (ds := (d.map bv)) (by rw [hdm.out]; kernel_rfl) (rcL_dig rfl) ?_)) | (with_reducible refine lst (by with_unfolding_all rfl) (wp_eqB Tryd.underlying29 Tryd.underlying5 (by kernel_rfl) (by kernel_rfl) hd.out hz32.out (by with_unfolding_all rfl) (by with_unfolding_all rfl) (by with_unfolding_all rfl) ?_)))
          go_ret
          exact ⟨ret1 (by rw [hno.out]; first | rfl | (simp; done) | (simp; omega)), hF2.below⟩
        | true =>
          cases okt with
          | false =>
            have hno : Box (R = false) := box (by rw [hR.out, hz]; simp)
            clear hR
            go_enter Tryd.func11, Tryd.ntmps11
            go_wp2_with (first | ((with_reducible refine lst (by with_unfolding_all rfl) (wp_fbox hF0 (cs := (rcL (.int .i64 2) (.string repo) (.string tag) (d.map bv) (.int .i64 t))) rfl (by with_unfolding_all rfl) (by with_unfolding_all rfl) ?_)); intro w1 g1 hF1 hz1) | (with_reducible refine lst (by with_unfolding_all rfl) (wp_fld0 hF1 Tryd.underlying3 rfl (by with_unfolding_all exact ⟨_, rfl, rfl⟩) (by first | with_unfolding_all rfl | exact h35.out) ?_)) | (with_reducible refine lst (by with_unfolding_all rfl) (wp_fld0 hF1 Tryd.underlying9 rfl (by with_unfolding_all exact ⟨_, rfl, rfl⟩) (by first | with_unfolding_all rfl | assumption) ?_)) | (with_reducible refine lst (by with_unfolding_all rfl) (wp_fldA0 hF1 Tryd.underlying29 rfl (by with_unfolding_all exact ⟨_, rfl, rfl⟩) (ds := (d.map bv)) (by rw [hdm.out]; kernel_rfl) (rcL_dig rfl) ?_)) | (with_reducible refine lst (by with_unfolding_all rfl) (wp_eqB Tryd.underlying29 Tryd.underlying5 (by kernel_rfl) (by kernel_rfl) hd.out hz32.out (by with_unfolding_all rfl) (by with_unfolding_all rfl) (by with_unfolding_all rfl) ?_)))
            refine (hrepo.out _ (hF1.maxW hM)).mono ?_
            rintro e w2 ⟨rfl, hb2⟩
            have hF2 := hF1.call hb2
            go_wp2_with (first | ((with_reducible refine lst (by with_unfolding_all rfl) (wp_fbox hF0 (cs := (rcL (.int .i64 2) (.string repo) (.string tag) (d.map bv) (.int .i64 t))) rfl (by with_unfolding_all rfl) (by with_unfolding_all rfl) ?_)); intro w1 g1 hF1 hz1) | (with_reducible refine lst (by with_unfolding_all rfl) (wp_fld0 hF2 Tryd.underlying3 rfl (by with_unfolding_all exact ⟨_, rfl, rfl⟩) (by first | with_unfolding_all rfl | exact h35.out) ?_)) | (with_reducible refine lst (by with_unfolding_all rfl) (wp_fld0 hF2 Tryd.underlying9 rfl (by with_unfolding_all exact ⟨_, rfl, rfl⟩) (by first | with_unfolding_all rfl | assumption) ?_)) | (with_reducible refine lst (by with_unfolding_all rfl) (wp_fldA0 hF2 Tryd.underlying29 rfl (by with_unfolding_all exact ⟨_, rfl, rfl⟩) (ds := (d.map bv)) (by rw [hdm.out]; kernel_rfl) (rcL_dig rfl) ?_)) | (with_reducible refine lst (by with_unfolding_all rfl) (wp_eqB Tryd.underlying29 Tryd.underlying5 (by kernel_rfl) (by kernel_rfl) hd.out hz32.out (by with_unfolding_all rfl) (by with_unfolding_all rfl) (by with_unfolding_all rfl) ?_)))
            refine (htag.out _).mono ?_
            rintro e w' ⟨rfl, rfl⟩
            go_wp2_with (first | ((with_reducible refine lst (by with_unfolding_all rfl) (wp_fbox hF0 (cs := (rcL (.int .i64 2) (.string repo) (.string tag) (d.map bv) (.int .i64 t))) rfl (by with_unfolding_all rfl) (by with_unfolding_all rfl) ?_)); intro w1 g1 hF1 hz1) | (with_reducible refine lst (by with_unfolding_all rfl) (wp_fld0 hF2 Tryd.underlying3 rfl (by with_unfolding_all exact ⟨_, rfl, rfl⟩) (by first | with_unfolding_all rfl | exact h35.out) ?_)) | (with_reducible refine lst (by with_unfolding_all rfl) (wp_fld0 hF2 Tryd.underlying9 rfl (by with_unfolding_all exact ⟨_, rfl, rfl⟩) (by first | with_unfolding_all rfl | assumption) ?_)) | (with_reducible refine lst (by with_unfolding_all rfl) (wp_fldA0 hF2 Tryd.underlying29 rfl (by with_unfolding_all exact ⟨_, rfl, rfl⟩) (ds := (d.map bv)) (by rw [hdm.out]; kernel_rfl) (rcL_dig rfl) ?_)) | (with_reducible refine lst (by with_unfolding_all rfl) (wp_eqB Tryd.underlying29 Tryd.underlying5 (by kernel_rfl) (by kernel_rfl) hd.out hz32.out (by with_unfolding_all rfl) (by with_unfolding_all rfl) (by with_unfolding_all rfl) ?_)))
            go_ret
            exact ⟨ret1 (by rw [hno.out]; first | rfl | (simp; done) | (simp; omega)), hF2.below⟩
          | true =>
            by_cases h0 : 0 ≤ t
            · have hd0 : decide (0 ≤ t) = true := decide_eq_true h0
              have hyes : Box (R = decide (t ≤ 1099511627776)) := box (by rw [hR.out, hz]; simp [h0])
              clear hR
              go_enter Tryd.func11, Tryd.ntmps11
              go_wp2_with (first | ((with_reducible refine lst (by with_unfolding_all rfl) (wp_fbox hF0 (cs := (rcL (.int .i64 2) (.string repo) (.string tag) (d.map bv) (.int .i64 t))) rfl (by with_unfolding_all rfl) (by with_unfolding_all rfl) ?_)); intro w1 g1 hF1 hz1) | (with_reducible refine lst (by with_unfolding_all rfl) (wp_fld0 hF1 Tryd.underlying3 rfl (by with_unfolding_all exact ⟨_, rfl, rfl⟩) (by first | with_unfolding_all rfl | exact h35.out) ?_)) | (with_reducible refine lst (by with_unfolding_all rfl) (wp_fld0 hF1 Tryd.underlying9 rfl (by with_unfolding_all exact ⟨_, rfl, rfl⟩) (by first | with_unfolding_all rfl | assumption) ?_)) | (with_reducible refine lst (by with_unfolding_all rfl) (wp_fldA0 hF1 Tryd.underlying29 rfl (by with_unfolding_all exact ⟨_, rfl, rfl⟩) (ds := (d.map bv)) (by rw [hdm.out]; kernel_rfl) (rcL_dig rfl) ?_)) | (with_reducible refine lst (by with_unfolding_all rfl) (wp_eqB Tryd.underlying29 Tryd.underlying5 (by kernel_rfl) (by kernel_rfl) hd.out hz32.out (by with_unfolding_all rfl) (by with_unfolding_all rfl) (by with_unfolding_all rfl) ?_)))
              refine (hrepo.out _ (hF1.maxW hM)).mono ?_
              rintro e w2 ⟨rfl, hb2⟩
              have hF2 := hF1.call hb2
              go_wp2_with (first | ((with_reducible refine lst (by with_unfolding_all rfl) (wp_fbox hF0 (cs := (rcL (.int .i64 2) (.string repo) (.string tag) (d.map bv) (.int .i64 t))) rfl (by with_unfolding_all rfl) (by with_unfolding_all rfl) ?_)); intro w1 g1 hF1 hz1) | (with_reducible refine lst (by with_unfolding_all rfl) (wp_fld0 hF2 Tryd.underlying3 rfl (by with_unfolding_all exact ⟨_, rfl, rfl⟩) (by first | with_unfolding_all rfl | exact h35.out) ?_)) | (with_reducible refine lst (by with_unfolding_all rfl) (wp_fld0 hF2 Tryd.underlying9 rfl (by with_unfolding_all exact ⟨_, rfl, rfl⟩) (by first | with_unfolding_all rfl | assumption) ?_)) | (with_reducible refine lst (by with_unfolding_all rfl) (wp_fldA0 hF2 Tryd.underlying29 rfl (by with_unfolding_all exact ⟨_, rfl, rfl⟩) (ds := (d.map bv)) (by rw [hdm.out]; kernel_rfl) (rcL_dig rfl) ?_)) | (with_reducible refine lst (by with_unfolding_all rfl) (wp_eqB Tryd.underlying29 Tryd.underlying5 (by kernel_rfl) (by kernel_rfl) hd.out hz32.out (by with_unfolding_all rfl) (by with_unfolding_all rfl) (by with_unfolding_all rfl) ?_)))
              refine (htag.out _).mono ?_
              rintro e w' ⟨rfl, rfl⟩
              go_wp2_with (first | ((with_reducible refine lst (by with_unfolding_all rfl) (wp_fbox hF0 (cs := (rcL (.int .i64 2) (.string repo) (.string tag) (d.map bv) (.int .i64 t))) rfl (by with_unfolding_all rfl) (by with_unfolding_all rfl) ?_)); intro w1 g1 hF1 hz1) | (with_reducible refine lst (by with_unfolding_all rfl) (wp_fld0 hF2 Tryd.underlying3 rfl (by with_unfolding_all exact ⟨_, rfl, rfl⟩) (by first | with_unfolding_all rfl | exact h35.out) ?_)) | (with_reducible refine lst (by with_unfolding_all rfl) (wp_fld0 hF2 Tryd.underlying9 rfl (by with_unfolding_all exact ⟨_, rfl, rfl⟩) (by first | with_unfolding_all rfl | assumption) ?_)) | (with_reducible refine lst (by with_unfolding_all rfl) (wp_fldA0 hF2 Tryd.underlying29 rfl (by with_unfolding_all exact ⟨_, rfl, rfl⟩) (ds := (d.map bv)) (by rw [hdm.out]; kernel_rfl) (rcL_dig rfl) ?_)) | (with_reducible refine lst (by with_unfolding_all rfl) (wp_eqB Tryd.underlying29 Tryd.underlying5 (by kernel_rfl) (by kernel_rfl) hd.out hz32.out (by with_unfolding_all rfl) (by with_unfolding_all rfl) (by with_unfolding_all rfl) ?_)))
              go_ret
              exact ⟨ret1 (by rw [hyes.out]; first | rfl | (simp; done) | (simp; omega)), hF2.below⟩
            · have hd0 : decide (0 ≤ t) = false := decide_eq_false h0
              have hno : Box (R = false) := box (by rw [hR.out, hz]; simp [h0])
              clear hR
              go_enter Tryd.func11, Tryd.ntmps11
              go_wp2_with (first | ((with_reducible refine lst (by with_unfolding_all rfl) (wp_fbox hF0 (cs := (rcL (.int .i64 2) (.string repo) (.string tag) (d.map bv) (.int .i64 t))) rfl (by with_unfolding_all rfl) (by with_unfolding_all rfl) ?_)); intro w1 g1 hF1 hz1) | (with_reducible refine lst (by with_unfolding_all rfl) (wp_fld0 hF1 Tryd.underlying3 rfl (by with_unfolding_all exact ⟨_, rfl, rfl⟩) (by first | with_unfolding_all rfl | exact h35.out) ?_)) | (with_reducible refine lst (by with_unfolding_all rfl) (wp_fld0 hF1 Tryd.underlying9 rfl (by with_unfolding_all exact ⟨_, rfl, rfl⟩) (by first | with_unfolding_all rfl | assumption) ?_)) | (with_reducible refine lst (by with_unfolding_all rfl) (wp_fldA0 hF1 Tryd.underlying29 rfl (by with_unfolding_all exact ⟨_, rfl, rfl⟩) (ds := (d.map bv)) (by rw [hdm.out]; kernel_rfl) (rcL_dig rfl) ?_)) | (with_reducible refine lst (by with_unfolding_all rfl) (wp_eqB Tryd.underlying29 Tryd.underlying5 (by kernel_rfl) (by kernel_rfl) hd.out hz32.out (by with_unfolding_all rfl) (by with_unfolding_all rfl) (by with_unfolding_all rfl) ?_)))
              refine (hrepo.out _ (hF1.maxW hM)).mono ?_
              rintro e w2 ⟨rfl, hb2⟩
              have hF2 := hF1.call hb2
              go_wp2_with (first | ((with_reducible refine lst (by with_unfolding_all rfl) (wp_fbox hF0 (cs := (rcL (.int .i64 2) (.string repo) (.string tag) (d.map bv) (.int .i64 t))) rfl (by with_unfolding_all rfl) (by with_unfolding_all rfl) ?_)); intro w1 g1 hF1 hz1) | (with_reducible refine lst (by with_unfolding_all rfl) (wp_fld0 hF2 Tryd.underlying3 rfl (by with_unfolding_all exact ⟨_, rfl, rfl⟩) (by first | with_unfolding_all rfl | exact h35.out) ?_)) | (with_reducible refine lst (by with_unfolding_all rfl) (wp_fld0 hF2 Tryd.underlying9 rfl (by with_unfolding_all exact ⟨_, rfl, rfl⟩) (by first | with_unfolding_all rfl | assumption) ?_)) | (with_reducible refine lst (by with_unfolding_all rfl) (wp_fldA0 hF2 Tryd.underlying29 rfl (by with_unfolding_all exact ⟨_, rfl, rfl⟩) (ds := (d.map bv)) (by rw [hdm.out]; kernel_rfl) (rcL_dig rfl) ?_)) | (with_reducible refine lst (by with_unfolding_all rfl) (wp_eqB Tryd.underlying29 Tryd.underlying5 (by kernel_rfl) (by kernel_rfl) hd.out hz32.out (by with_unfolding_all rfl) (by with_unfolding_all rfl) (by with_unfolding_all rfl) ?_)))
              refine (htag.out _).mono ?_
              rintro e w' ⟨rfl, rfl⟩
              go_wp2_with (first | ((with_reducible refine lst (by with_unfolding_all rfl) (wp_fbox hF0 (cs := (rcL (.int .i64 2) (.string repo) (.string tag) (d.map bv) (.int .i64 t))) rfl (by with_unfolding_all rfl) (by with_unfolding_all rfl) ?_)); intro w1 g1 hF1 hz1) | (with_reducible refine lst (by with_unfolding_all rfl) (wp_fld0 hF2 Tryd.underlying3 rfl (by with_unfolding_all exact ⟨_, rfl, rfl⟩) (by first | with_unfolding_all rfl | exact h35.out) ?_)) | (with_reducible refine lst (by with_unfolding_all rfl) (wp_fld0 hF2 Tryd.underlying9 rfl (by with_unfolding_all exact ⟨_, rfl, rfl⟩) (by first | with_unfolding_all rfl | assumption) ?_)) | (with_reducible refine lst (by with_unfolding_all rfl) (wp_fldA0 hF2 Tryd.underlying29 rfl (by with_unfolding_all exact ⟨_, rfl, rfl⟩) (ds := (d.map bv)) (by rw [hdm.out]; kernel_rfl) (rcL_dig rfl) ?_)) | (with_reducible refine lst (by with_unfolding_all rfl) (wp_eqB Tryd.underlying29 Tryd.underlying5 (by kernel_rfl) (by kernel_rfl) hd.out hz32.out (by with_unfolding_all rfl) (by with_unfolding_all rfl) (by with_unfolding_all rfl) ?_)))
              go_ret
              exact ⟨ret1 (by rw [hno.out]; first | rfl | (simp; done) | (simp; omega)), hF2.below⟩
    · have e1 : (kind == 1) = false := beq_eq_false_iff_ne.2 k1
      have e2 : (kind == 2) = false := beq_eq_false_iff_ne.2 k2
      have e3 : (kind != 1) = true := bne_iff_ne.2 k1
      have e4 : (kind != 2) = true := bne_iff_ne.2 k2
      have hno : Box (R = false) := box (by rw [hR.out, e1, e2]; rfl)
      clear hR k1 k2
      go_enter Tryd.func11, Tryd.ntmps11
      go_wp2_with (first | ((with_reducible refine lst (by with_unfolding_all rfl) (wp_fbox hF0 (cs := (rcL (.int .i64 kind) (.string repo) (.string tag) (d.map bv) (.int .i64 t))) rfl (by with_unfolding_all rfl) (by with_unfolding_all rfl) ?_)); intro w1 g1 hF1 hz1) | (with_reducible refine lst (by with_unfolding_all rfl) (wp_fld0 hF1 Tryd.underlying3 rfl (by with_unfolding_all exact ⟨_, rfl, rfl⟩) (by first | with_unfolding_all rfl | exact h35.out) ?_)) | (with_reducible refine lst (by with_unfolding_all rfl) (wp_fld0 hF1 Tryd.underlying9 rfl (by with_unfolding_all exact ⟨_, rfl, rfl⟩) (by first | with_unfolding_all rfl | assumption) ?_)) | (with_reducible refine lst (by with_unfolding_all rfl) (wp_fldA0 hF1 Tryd.underlying29 rfl (by with_unfolding_all exact ⟨_, rfl, rfl⟩) (ds := (d.map bv)) (by rw [hdm.out]; kernel_rfl) (rcL_dig rfl) ?_)) | (with_reducible refine lst (by with_unfolding_all rfl) (wp_eqB Tryd.underlying29 Tryd.underlying5 (by kernel_rfl) (by kernel_rfl) hd.out hz32.out (by with_unfolding_all rfl) (by with_unfolding_all rfl) (by with_unfolding_all rfl) ?_)))
      go_ret
      exact ⟨ret1 (by rw [hno.out]; first | rfl | (simp; done) | (simp; omega)), hF1.below⟩

set_option maxRecDepth 20000 in
set_option maxHeartbeats 6400000 in
theorem rightF_any (r : Rec) (w : World) (hd : r.d.length = 32) (hs : r.repo.size ≤ 4000000000) (ht : r.tag.size ≤ 4000000000) :
    Calls Tryd.prog 12 #[.agg r.cells.toArray] w fun e w' => e = .returned (.bool (recOk r)) ∧ Below w.heap.size w w' := by
  obtain ⟨kind, repo, tag, d, t⟩ := r
  simp only [Rec.cells] at hd hs ht ⊢
  have hF0 := Fr.nil w
  have hdm : (d.map bv).length = 32 := by rw [List.length_map]; exact hd
  have h35 := box (rcL_at (k := (Value.int .i64) kind) (a := .string repo) (b := .string tag) (t := (Value.int .i64) t) hdm)
  replace hdm := box hdm
  replace hd := box hd
  have hz32 := box zeros_32
  have hrepo := box (fun w => repoF_any repo w (by omega))
  have htag := box (fun w => tagF_any tag w (by omega))
  have hR : Box (recOk ⟨kind, repo, tag, d, t⟩ = ((kind == 1 || (kind == 2 && d == zeros)) && (repoB repo.data.toList && (tagB tag.data.toList && (decide (0 ≤ t) && decide (t ≤ 1099511627776)))))) := box rfl
  generalize recOk ⟨kind, repo, tag, d, t⟩ = R at *
  generalize repoB repo.data.toList = okr at *
  generalize tagB tag.data.toList = okt at *
  by_cases k1 : kind = 1
  · subst k1
    cases okr with
    | false =>
      have hno : Box (R = false) := box (by rw [hR.out]; simp)
      clear hR
      go_enter Tryd.func12, Tryd.ntmps12
      go_wp2_with (first | ((with_reducible refine lst (by with_unfolding_all rfl) (wp_fbox hF0 (cs := (rcL (.int .i64 1) (.string repo) (.string tag) (d.map bv) (.int .i64 t))) rfl (by with_unfolding_all rfl) (by with_unfolding_all rfl) ?_)); intro w1 g1 hF1 hz1) | (with_reducible refine lst (by with_unfolding_all rfl) (wp_fld0 hF1 Tryd.underlying3 rfl (by with_unfolding_all exact ⟨_, rfl, rfl⟩) (by first | with_unfolding_all rfl | exact h35.out) ?_)) | (with_reducible refine lst (by with_unfolding_all rfl) (wp_fld0 hF1 Tryd.underlying9 rfl (by with_unfolding_all exact ⟨_, rfl, rfl⟩) (by first | with_unfolding_all rfl | assumption) ?_)) | (with_reducible refine lst (by with_unfolding_all rfl) (wp_fldA0 hF1 Tryd.underlying22 rfl (by with_unfolding_all exact ⟨_, rfl, rfl⟩) (ds := (d.map bv)) (by rw [hdm.out]; kernel_rfl) (rcL_dig rfl) ?_)) | (with_reducible refine lst (by with_unfolding_all rfl) (wp_neB Tryd.underlying22 Tryd.underlying5 (by kernel_rfl) (by kernel_rfl) hd.out hz32.out (by with_unfolding_all rfl) (by with_unfolding_all rfl) (by with_unfolding_all rfl) ?_)))
      refine (hrepo.out _).mono ?_
      rintro e w' ⟨rfl, rfl⟩
      have hF2 := hF1
      go_wp2_with (first | ((with_reducible refine lst (by with_unfolding_all rfl) (wp_fbox hF0 (cs := (rcL (.int .i64 1) (.string repo) (.string tag) (d.map bv) (.int .i64 t))) rfl (by with_unfolding_all rfl) (by with_unfolding_all rfl) ?_)); intro w1 g1 hF1 hz1) | (with_reducible refine lst (by with_unfolding_all rfl) (wp_fld0 hF2 Tryd.underlying3 rfl (by with_unfolding_all exact ⟨_, rfl, rfl⟩) (by first | with_unfolding_all rfl | exact h35.out) ?_)) | (with_reducible refine lst (by with_unfolding_all rfl) (wp_fld0 hF2 Tryd.underlying9 rfl (by with_unfolding_all exact ⟨_, rfl, rfl⟩) (by first | with_unfolding_all rfl | assumption) ?_)) | (with_reducible refine lst (by with_unfolding_all rfl) (wp_fldA0 hF2 Tryd.underlying22 rfl (by with_unfolding_all exact ⟨_, rfl, rfl⟩) (ds := (d.map bv)) (by rw [hdm.out]; kernel_rfl) (rcL_dig rfl) ?_)) | (with_reducible refine lst (by with_unfolding_all rfl) (wp_neB Tryd.underlying22 Tryd.underlying5 (by kernel_rfl) (by kernel_rfl) hd.out hz32.out (by with_unfolding_all rfl) (by with_unfolding_all rfl) (by with_unfolding_all rfl) ?_)))
      go_ret
      exact ⟨ret1 (by rw [hno.out]; first | rfl | (simp; done) | (simp; omega)), hF2.below⟩
    | true =>
      cases okt with
      | false =>
        have hno : Box (R = false) := box (by rw [hR.out]; simp)
        clear hR
        go_enter Tryd.func12, Tryd.ntmps12
        go_wp2_with (first | ((with_reducible refine lst (by with_unfolding_all rfl) (wp_fbox hF0 (cs := (rcL (.int .i64 1) (.string repo) (.string tag) (d.map bv) (.int .i64 t))) rfl (by with_unfolding_all rfl) (by with_unfolding_all rfl) ?_)); intro w1 g1 hF1 hz1) | (with_reducible refine lst (by with_unfolding_all rfl) (wp_fld0 hF1 Tryd.underlying3 rfl (by with_unfolding_all exact ⟨_, rfl, rfl⟩) (by first | with_unfolding_all rfl | exact h35.out) ?_)) | (with_reducible refine lst (by with_unfolding_all rfl) (wp_fld0 hF1 Tryd.underlying9 rfl (by with_unfolding_all exact ⟨_, rfl, rfl⟩) (by first | with_unfolding_all rfl | assumption) ?_)) | (with_reducible refine lst (by with_unfolding_all rfl) (wp_fldA0 hF1 Tryd.underlying22 rfl (by with_unfolding_all exact ⟨_, rfl, rfl⟩) (ds := (d.map bv)) (by rw [hdm.out]; kernel_rfl) (rcL_dig rfl) ?_)) | (with_reducible refine lst (by with_unfolding_all rfl) (wp_neB Tryd.underlying22 Tryd.underlying5 (by kernel_rfl) (by kernel_rfl) hd.out hz32.out (by with_unfolding_all rfl) (by with_unfolding_all rfl) (by with_unfolding_all rfl) ?_)))
        refine (hrepo.out _).mono ?_
        rintro e w' ⟨rfl, rfl⟩
        have hF2 := hF1
        go_wp2_with (first | ((with_reducible refine lst (by with_unfolding_all rfl) (wp_fbox hF0 (cs := (rcL (.int .i64 1) (.string repo) (.string tag) (d.map bv) (.int .i64 t))) rfl (by with_unfolding_all rfl) (by with_unfolding_all rfl) ?_)); intro w1 g1 hF1 hz1) | (with_reducible refine lst (by with_unfolding_all rfl) (wp_fld0 hF2 Tryd.underlying3 rfl (by with_unfolding_all exact ⟨_, rfl, rfl⟩) (by first | with_unfolding_all rfl | exact h35.out) ?_)) | (with_reducible refine lst (by with_unfolding_all rfl) (wp_fld0 hF2 Tryd.underlying9 rfl (by with_unfolding_all exact ⟨_, rfl, rfl⟩) (by first | with_unfolding_all rfl | assumption) ?_)) | (with_reducible refine lst (by with_unfolding_all rfl) (wp_fldA0 hF2 Tryd.underlying22 rfl (by with_unfolding_all exact ⟨_, rfl, rfl⟩) (ds := (d.map bv)) (by rw [hdm.out]; kernel_rfl) (rcL_dig rfl) ?_)) | (with_reducible refine lst (by with_unfolding_all rfl) (wp_neB Tryd.underlying22 Tryd.underlying5 (by kernel_rfl) (by kernel_rfl) hd.out hz32.out (by with_unfolding_all rfl) (by with_unfolding_all rfl) (by with_unfolding_all rfl) ?_)))
        refine (htag.out _).mono ?_
        rintro e w' ⟨rfl, rfl⟩
        go_wp2_with (first | ((with_reducible refine lst (by with_unfolding_all rfl) (wp_fbox hF0 (cs := (rcL (.int .i64 1) (.string repo) (.string tag) (d.map bv) (.int .i64 t))) rfl (by with_unfolding_all rfl) (by with_unfolding_all rfl) ?_)); intro w1 g1 hF1 hz1) | (with_reducible refine lst (by with_unfolding_all rfl) (wp_fld0 hF2 Tryd.underlying3 rfl (by with_unfolding_all exact ⟨_, rfl, rfl⟩) (by first | with_unfolding_all rfl | exact h35.out) ?_)) | (with_reducible refine lst (by with_unfolding_all rfl) (wp_fld0 hF2 Tryd.underlying9 rfl (by with_unfolding_all exact ⟨_, rfl, rfl⟩) (by first | with_unfolding_all rfl | assumption) ?_)) | (with_reducible refine lst (by with_unfolding_all rfl) (wp_fldA0 hF2 Tryd.underlying22 rfl (by with_unfolding_all exact ⟨_, rfl, rfl⟩) (ds := (d.map bv)) (by rw [hdm.out]; kernel_rfl) (rcL_dig rfl) ?_)) | (with_reducible refine lst (by with_unfolding_all rfl) (wp_neB Tryd.underlying22 Tryd.underlying5 (by kernel_rfl) (by kernel_rfl) hd.out hz32.out (by with_unfolding_all rfl) (by with_unfolding_all rfl) (by with_unfolding_all rfl) ?_)))
        go_ret
        exact ⟨ret1 (by rw [hno.out]; first | rfl | (simp; done) | (simp; omega)), hF2.below⟩
      | true =>
        by_cases h0 : 0 ≤ t
        · have hd0 : decide (0 ≤ t) = true := decide_eq_true h0
          have hyes : Box (R = decide (t ≤ 1099511627776)) := box (by rw [hR.out]; simp [h0])
          clear hR
          go_enter Tryd.func12, Tryd.ntmps12
          go_wp2_with (first | ((with_reducible refine lst (by with_unfolding_all rfl) (wp_fbox hF0 (cs := (rcL (.int .i64 1) (.string repo) (.string tag) (d.map bv) (.int .i64 t))) rfl (by with_unfolding_all rfl) (by with_unfolding_all rfl) ?_)); intro w1 g1 hF1 hz1) | (with_reducible refine lst (by with_unfolding_all rfl) (wp_fld0 hF1 Tryd.underlying3 rfl (by with_unfolding_all exact ⟨_, rfl, rfl⟩) (by first | with_unfolding_all rfl | exact h35.out) ?_)) | (with_reducible refine lst (by with_unfolding_all rfl) (wp_fld0 hF1 Tryd.underlying9 rfl (by with_unfolding_all exact ⟨_, rfl, rfl⟩) (by first | with_unfolding_all rfl | assumption) ?_)) | (with_reducible refine lst (by with_unfolding_all rfl) (wp_fldA0 hF1 Tryd.underlying22 rfl (by with_unfolding_all exact ⟨_, rfl, rfl⟩) (ds := (d.map bv)) (by rw [hdm.out]; kernel_rfl) (rcL_dig rfl) ?_)) | (with_reducible refine lst (by with_unfolding_all rfl) (wp_neB Tryd.underlying22 Tryd.underlying5 (by kernel_rfl) (by kernel_rfl) hd.out hz32.out (by with_unfolding_all rfl) (by with_unfolding_all rfl) (by with_unfolding_all rfl) ?_)))
          refine (hrepo.out _).mono ?_
          rintro e w' ⟨rfl, rfl⟩
          have hF2 := hF1
          go_wp2_with (first | ((with_reducible refine lst (by with_unfolding_all rfl) (wp_fbox hF0 (cs := (rcL (.int .i64 1) (.string repo) (.string tag) (d.map bv) (.int .i64 t))) rfl (by with_unfolding_all rfl) (by with_unfolding_all rfl) ?_)); intro w1 g1 hF1 hz1) | (with_reducible refine lst (by with_unfolding_all rfl) (wp_fld0 hF2 Tryd.underlying3 rfl (by with_unfolding_all exact ⟨_, rfl, rfl⟩) (by first | with_unfolding_all rfl | exact h35.out) ?_)) | (with_reducible refine lst (by with_unfolding_all rfl) (wp_fld0 hF2 Tryd.underlying9 rfl (by with_unfolding_all exact ⟨_, rfl, rfl⟩) (by first | with_unfolding_all rfl | assumption) ?_)) | (with_reducible refine lst (by with_unfolding_all rfl) (wp_fldA0 hF2 Tryd.underlying22 rfl (by with_unfolding_all exact ⟨_, rfl, rfl⟩) (ds := (d.map bv)) (by rw [hdm.out]; kernel_rfl) (rcL_dig rfl) ?_)) | (with_reducible refine lst (by with_unfolding_all rfl) (wp_neB Tryd.underlying22 Tryd.underlying5 (by kernel_rfl) (by kernel_rfl) hd.out hz32.out (by with_unfolding_all rfl) (by with_unfolding_all rfl) (by with_unfolding_all rfl) ?_)))
          refine (htag.out _).mono ?_
          rintro e w' ⟨rfl, rfl⟩
          go_wp2_with (first | ((with_reducible refine lst (by with_unfolding_all rfl) (wp_fbox hF0 (cs := (rcL (.int .i64 1) (.string repo) (.string tag) (d.map bv) (.int .i64 t))) rfl (by with_unfolding_all rfl) (by with_unfolding_all rfl) ?_)); intro w1 g1 hF1 hz1) | (with_reducible refine lst (by with_unfolding_all rfl) (wp_fld0 hF2 Tryd.underlying3 rfl (by with_unfolding_all exact ⟨_, rfl, rfl⟩) (by first | with_unfolding_all rfl | exact h35.out) ?_)) | (with_reducible refine lst (by with_unfolding_all rfl) (wp_fld0 hF2 Tryd.underlying9 rfl (by with_unfolding_all exact ⟨_, rfl, rfl⟩) (by first | with_unfolding_all rfl | assumption) ?_)) | (with_reducible refine lst (by with_unfolding_all rfl) (wp_fldA0 hF2 Tryd.underlying22 rfl (by with_unfolding_all exact ⟨_, rfl, rfl⟩) (ds := (d.map bv)) (by rw [hdm.out]; kernel_rfl) (rcL_dig rfl) ?_)) | (with_reducible refine lst (by with_unfolding_all rfl) (wp_neB Tryd.underlying22 Tryd.underlying5 (by kernel_rfl) (by kernel_rfl) hd.out hz32.out (by with_unfolding_all rfl) (by with_unfolding_all rfl) (by with_unfolding_all rfl) ?_)))
          go_ret
          exact ⟨ret1 (by rw [hyes.out]; first | rfl | (simp; done) | (simp; omega)), hF2.below⟩
        · have hd0 : decide (0 ≤ t) = false := decide_eq_false h0
          have hno : Box (R = false) := box (by rw [hR.out]; simp [h0])
          clear hR
          go_enter Tryd.func12, Tryd.ntmps12
          go_wp2_with (first | ((with_reducible refine lst (by with_unfolding_all rfl) (wp_fbox hF0 (cs := (rcL (.int .i64 1) (.string repo) (.string tag) (d.map bv) (.int .i64 t))) rfl (by with_unfolding_all rfl) (by with_unfolding_all rfl) ?_)); intro w1 g1 hF1 hz1) | (with_reducible refine lst (by with_unfolding_all rfl) (wp_fld0 hF1 Tryd.underlying3 rfl (by with_unfolding_all exact ⟨_, rfl, rfl⟩) (by first | with_unfolding_all rfl | exact h35.out) ?_)) | (with_reducible refine lst (by with_unfolding_all rfl) (wp_fld0 hF1 Tryd.underlying9 rfl (by with_unfolding_all exact ⟨_, rfl, rfl⟩) (by first | with_unfolding_all rfl | assumption) ?_)) | (with_reducible refine lst (by with_unfolding_all rfl) (wp_fldA0 hF1 Tryd.underlying22 rfl (by with_unfolding_all exact ⟨_, rfl, rfl⟩) (ds := (d.map bv)) (by rw [hdm.out]; kernel_rfl) (rcL_dig rfl) ?_)) | (with_reducible refine lst (by with_unfolding_all rfl) (wp_neB Tryd.underlying22 Tryd.underlying5 (by kernel_rfl) (by kernel_rfl) hd.out hz32.out (by with_unfolding_all rfl) (by with_unfolding_all rfl) (by with_unfolding_all rfl) ?_)))
          refine (hrepo.out _).mono ?_
          rintro e w' ⟨rfl, rfl⟩
          have hF2 := hF1
          go_wp2_with (first | ((with_reducible refine lst (by with_unfolding_all rfl) (wp_fbox hF0 (cs := (rcL (.int .i64 1) (.string repo) (.string tag) (d.map bv) (.int .i64 t))) rfl (by with_unfolding_all rfl) (by with_unfolding_all rfl) ?_)); intro w1 g1 hF1 hz1) | (with_reducible refine lst (by with_unfolding_all rfl) (wp_fld0 hF2 Tryd.underlying3 rfl (by with_unfolding_all exact ⟨_, rfl, rfl⟩) (by first | with_unfolding_all rfl | exact h35.out) ?_)) | (with_reducible refine lst (by with_unfolding_all rfl) (wp_fld0 hF2 Tryd.underlying9 rfl (by with_unfolding_all exact ⟨_, rfl, rfl⟩) (by first | with_unfolding_all rfl | assumption) ?_)) | (with_reducible refine lst (by with_unfolding_all rfl) (wp_fldA0 hF2 Tryd.underlying22 rfl (by with_unfolding_all exact ⟨_, rfl, rfl⟩) (ds := (d.map bv)) (by rw [hdm.out]; kernel_rfl) (rcL_dig rfl) ?_)) | (with_reducible refine lst (by with_unfolding_all rfl) (wp_neB Tryd.underlying22 Tryd.underlying5 (by kernel_rfl) (by kernel_rfl) hd.out hz32.out (by with_unfolding_all rfl) (by with_unfolding_all rfl) (by with_unfolding_all rfl) ?_)))
          refine (htag.out _).mono ?_
          rintro e w' ⟨rfl, rfl⟩
          go_wp2_with (first | ((with_reducible refine lst (by with_unfolding_all rfl) (wp_fbox hF0 (cs := (rcL (.int .i64 1) (.string repo) (.string tag) (d.map bv) (.int .i64 t))) rfl (by with_unfolding_all rfl) (by with_unfolding_all rfl) ?_)); intro w1 g1 hF1 hz1) | (with_reducible refine lst (by with_unfolding_all rfl) (wp_fld0 hF2 Tryd.underlying3 rfl (by with_unfolding_all exact ⟨_, rfl, rfl⟩) (by first | with_unfolding_all rfl | exact h35.out) ?_)) | (with_reducible refine lst (by with_unfolding_all rfl) (wp_fld0 hF2 Tryd.underlying9 rfl (by with_unfolding_all exact ⟨_, rfl, rfl⟩) (by first | with_unfolding_all rfl | assumption) ?_)) | (with_reducible refine lst (by with_unfolding_all rfl) (wp_fldA0 hF2 Tryd.underlying22 rfl (by with_unfolding_all exact ⟨_, rfl, rfl⟩) (ds := (d.map bv)) (by rw [hdm.out]; kernel_rfl) (rcL_dig rfl) ?_)) | (with_reducible refine lst (by with_unfolding_all rfl) (wp_neB Tryd.underlying22 Tryd.underlying5 (by kernel_rfl) (by kernel_rfl) hd.out hz32.out (by with_unfolding_all rfl) (by with_unfolding_all rfl) (by with_unfolding_all rfl) ?_)))
          go_ret
          exact ⟨ret1 (by rw [hno.out]; first | rfl | (simp; done) | (simp; omega)), hF2.below⟩
  · by_cases k2 : kind = 2
    · subst k2
      cases hz : (d == zeros) with
      | false =>
        have hno : Box (R = false) := box (by rw [hR.out, hz]; rfl)
        clear hR k1
        go_enter Tryd.func12, Tryd.ntmps12
        go_wp2_with (first | ((with_reducible refine lst (by with_unfolding_all rfl) (wp_fbox hF0 (cs := (rcL (.int .i64 2) (.string repo) (.string tag) (d.map bv) (.int .i64 t))) rfl (by with_unfolding_all rfl) (by with_unfolding_all rfl) ?_)); intro w1 g1 hF1 hz1) | (with_reducible refine lst (by with_unfolding_all rfl) (wp_fld0 hF1 Tryd.underlying3 rfl (by with_unfolding_all exact ⟨_, rfl, rfl⟩) (by first | with_unfolding_all rfl | exact h35.out) ?_)) | (with_reducible refine lst (by with_unfolding_all rfl) (wp_fld0 hF1 Tryd.underlying9 rfl (by with_unfolding_all exact ⟨_, rfl, rfl⟩) (by first | with_unfolding_all rfl | assumption) ?_)) | (with_reducible refine lst (by with_unfolding_all rfl) (wp_fldA0 hF1 Tryd.underlying22 rfl (by with_unfolding_all exact ⟨_, rfl, rfl⟩) (ds := (d.map bv)) (by rw [hdm.out]; kernel_rfl) (rcL_dig rfl) ?_)) | (with_reducible refine lst (by with_unfolding_all rfl) (wp_neB Tryd.underlying22 Tryd.underlying5 (by kernel_rfl) (by kernel_rfl) hd.out hz32.out (by with_unfolding_all rfl) (by with_unfolding_all rfl) (by with_unfolding_all rfl) ?_)))
        go_ret
        exact ⟨ret1 (by rw [hno.out]; first | rfl | (simp; done) | (simp; omega)), hF1.below⟩
      | true =>
        clear k1
        cases okr with
        | false =>
          have hno : Box (R = false) := box (by rw [hR.out, hz]; simp)
          clear hR
          go_enter Tryd.func12, Tryd.ntmps12
          go_wp2_with (first | ((with_reducible refine lst (by with_unfolding_all rfl) (wp_fbox hF0 (cs := (rcL (.int .i64 2) (.string repo) (.string tag) (d.map bv) (.int .i64 t))) rfl (by with_unfolding_all rfl) (by with_unfolding_all rfl) ?_)); intro w1 g1 hF1 hz1) | (with_reducible refine lst (by with_unfolding_all rfl) (wp_fld0 hF1 Tryd.underlying3 rfl (by with_unfolding_all exact ⟨_, rfl, rfl⟩) (by first | with_unfolding_all rfl | exact h35.out) ?_)) | (with_reducible refine lst (by with_unfolding_all rfl) (wp_fld0 hF1 Tryd.underlying9 rfl (by with_unfolding_all exact ⟨_, rfl, rfl⟩) (by first | with_unfolding_all rfl | assumption) ?_)) | (with_reducible refine lst (by with_unfolding_all rfl) (wp_fldA0 hF1 Tryd.underlying22 rfl (by with_unfolding_all exact ⟨_, rfl, rfl⟩) (ds := (d.map bv)) (by rw [hdm.out]; kernel_rfl) (rcL_dig rfl) ?_)) | (with_reducible refine lst (by with_unfolding_all rfl) (wp_neB Tryd.underlying22 Tryd.underlying5 (by kernel_rfl) (by kernel_rfl) hd.out hz32.out (by with_unfolding_all rfl) (by with_unfolding_all rfl) (by with_unfolding_all rfl) ?_)))
          refine (hrepo.out _).mono ?_
          rintro e w' ⟨rfl, rfl⟩
          have hF2 := hF1
          go_wp2_with (first | ((with_reducible refine lst (by with_unfolding_all rfl) (wp_fbox hF0 (cs := (rcL (.int .i64 2) (.string repo) (.string tag) (d.map bv) (.int .i64 t))) rfl (by with_unfolding_all rfl) (by with_unfolding_all rfl) ?_)); intro w1 g1 hF1 hz1) | (with_reducible refine lst (by with_unfolding_all rfl) (wp_fld0 hF2 Tryd.underlying3 rfl (by with_unfolding_all exact ⟨_, rfl, rfl⟩) (by first | with_unfolding_all rfl | exact h35.out) ?_)) | (with_reducible refine lst (by with_unfolding_all rfl) (wp_fld0 hF2 Tryd.underlying9 rfl (by with_unfolding_all exact ⟨_, rfl, rfl⟩) (by first | with_unfolding_all rfl | assumption) ?_)) | (with_reducible refine lst (by with_unfolding_all rfl) (wp_fldA0 hF2 Tryd.underlying22 rfl (by with_unfolding_all exact ⟨_, rfl, rfl⟩) (ds := (d.map bv)) (by rw [hdm.out]; kernel_rfl) (rcL_dig rfl) ?_)) | (with_reducible refine lst (by with_unfolding_all rfl) (wp_neB Tryd.underlying22 Tryd.underlying5 (by kernel_rfl) (by kernel_rfl) hd.out hz32.out (by with_unfolding_all rfl) (by with_unfolding_all rfl) (by with_unfolding_all rfl) ?_)))
          go_ret
          exact ⟨ret1 (by rw [hno.out]; first | rfl | (simp; done) | (simp; omega)), hF2.below⟩
        | true =>
          cases okt with
          | false =>
            have hno : Box (R = false) := box (by rw [hR.out, hz]; simp)
            clear hR
            go_enter Tryd.func12, Tryd.ntmps12
            go_wp2_with (first | ((with_reducible refine lst (by with_unfolding_all rfl) (wp_fbox hF0 (cs := (rcL (.int .i64 2) (.string repo) (.string tag) (d.map bv) (.int .i64 t))) rfl (by with_unfolding_all rfl) (by with_unfolding_all rfl) ?_)); intro w1 g1 hF1 hz1) | (with_reducible refine lst (by with_unfolding_all rfl) (wp_fld0 hF1 Tryd.underlying3 rfl (by with_unfolding_all exact ⟨_, rfl, rfl⟩) (by first | with_unfolding_all rfl | exact h35.out) ?_)) | (with_reducible refine lst (by with_unfolding_all rfl) (wp_fld0 hF1 Tryd.underlying9 rfl (by with_unfolding_all exact ⟨_, rfl, rfl⟩) (by first | with_unfolding_all rfl | assumption) ?_)) | (with_reducible refine lst (by with_unfolding_all rfl) (wp_fldA0 hF1 Tryd.underlying22 rfl (by with_unfolding_all exact ⟨_, rfl, rfl⟩) (ds := (d.map bv)) (by rw [hdm.out]; kernel_rfl) (rcL_dig rfl) ?_)) | (with_reducible refine lst (by with_unfolding_all rfl) (wp_neB Tryd.underlying22 Tryd.underlying5 (by kernel_rfl) (by kernel_rfl) hd.out hz32.out (by with_unfolding_all rfl) (by with_unfolding_all rfl) (by with_unfolding_all rfl) ?_)))
            refine (hrepo.out _).mono ?_
            rintro e w' ⟨rfl, rfl⟩
            have hF2 := hF1
            go_wp2_with (first | ((with_reducible refine lst (by with_unfolding_all rfl) (wp_fbox hF0 (cs := (rcL (.int .i64 2) (.string repo) (.string tag) (d.map bv) (.int .i64 t))) rfl (by with_unfolding_all rfl) (by with_unfolding_all rfl) ?_)); intro w1 g1 hF1 hz1) | (with_reducible refine lst (by with_unfolding_all rfl) (wp_fld0 hF2 Tryd.underlying3 rfl (by with_unfolding_all exact ⟨_, rfl, rfl⟩) (by first | with_unfolding_all rfl | exact h35.out) ?_)) | (with_reducible refine lst (by with_unfolding_all rfl) (wp_fld0 hF2 Tryd.underlying9 rfl (by with_unfolding_all exact ⟨_, rfl, rfl⟩) (by first | with_unfolding_all rfl | assumption) ?_)) | (with_reducible refine lst (by with_unfolding_all rfl) (wp_fldA0 hF2 Tryd.underlying22 rfl (by with_unfolding_all exact ⟨_, rfl, rfl⟩) (ds := (d.map bv)) (by rw [hdm.out]; kernel_rfl) (rcL_dig rfl) ?_)) | (with_reducible refine lst (by with_unfolding_all rfl) (wp_neB Tryd.underlying22 Tryd.underlying5 (by kernel_rfl) (by kernel_rfl) hd.out hz32.out (by with_unfolding_all rfl) (by with_unfolding_all rfl) (by with_unfolding_all rfl) ?_)))
            refine (htag.out _).mono ?_
            rintro e w' ⟨rfl, rfl⟩
            go_wp2_with (first | ((with_reducible refine lst (by with_unfolding_all rfl) (wp_fbox hF0 (cs := (rcL (.int .i64 2) (.string repo) (.string tag) (d.map bv) (.int .i64 t))) rfl (by with_unfolding_all rfl) (by with_unfolding_all rfl) ?_)); intro w1 g1 hF1 hz1) | (with_reducible refine lst (by with_unfolding_all rfl) (wp_fld0 hF2 Tryd.underlying3 rfl (by with_unfolding_all exact ⟨_, rfl, rfl⟩) (by first | with_unfolding_all rfl | exact h35.out) ?_)) | (with_reducible refine lst (by with_unfolding_all rfl) (wp_fld0 hF2 Tryd.underlying9 rfl (by with_unfolding_all exact ⟨_, rfl, rfl⟩) (by first | with_unfolding_all rfl | assumption) ?_)) | (with_reducible refine lst (by with_unfolding_all rfl) (wp_fldA0 hF2 Tryd.underlying22 rfl (by with_unfolding_all exact ⟨_, rfl, rfl⟩) (ds := (d.map bv)) (by rw [hdm.out]; kernel_rfl) (rcL_dig rfl) ?_)) | (with_reducible refine lst (by with_unfolding_all rfl) (wp_neB Tryd.underlying22 Tryd.underlying5 (by kernel_rfl) (by kernel_rfl) hd.out hz32.out (by with_unfolding_all rfl) (by with_unfolding_all rfl) (by with_unfolding_all rfl) ?_)))
            go_ret
            exact ⟨ret1 (by rw [hno.out]; first | rfl | (simp; done) | (simp; omega)), hF2.below⟩
          | true =>
            by_cases h0 : 0 ≤ t
            · have hd0 : decide (0 ≤ t) = true := decide_eq_true h0
              have hyes : Box (R = decide (t ≤ 1099511627776)) := box (by rw [hR.out, hz]; simp [h0])
              clear hR
              go_enter Tryd.func12, Tryd.ntmps12
              go_wp2_with (first | ((with_reducible refine lst (by with_unfolding_all rfl) (wp_fbox hF0 (cs := (rcL (.int .i64 2) (.string repo) (.string tag) (d.map bv) (.int .i64 t))) rfl (by with_unfolding_all rfl) (by with_unfolding_all rfl) ?_)); intro w1 g1 hF1 hz1) | (with_reducible refine lst (by with_unfolding_all rfl) (wp_fld0 hF1 Tryd.underlying3 rfl (by with_unfolding_all exact ⟨_, rfl, rfl⟩) (by first | with_unfolding_all rfl | exact h35.out) ?_)) | (with_reducible refine lst (by with_unfolding_all rfl) (wp_fld0 hF1 Tryd.underlying9 rfl (by with_unfolding_all exact ⟨_, rfl, rfl⟩) (by first | with_unfolding_all rfl | assumption) ?_)) | (with_reducible refine lst (by with_unfolding_all rfl) (wp_fldA0 hF1 Tryd.underlying22 rfl (by with_unfolding_all exact ⟨_, rfl, rfl⟩) (ds := (d.map bv)) (by rw [hdm.out]; kernel_rfl) (rcL_dig rfl) ?_)) | (with_reducible refine lst (by with_unfolding_all rfl) (wp_neB Tryd.underlying22 Tryd.underlying5 (by kernel_rfl) (by kernel_rfl) hd.out hz32.out (by with_unfolding_all rfl) (by with_unfolding_all rfl) (by with_unfolding_all rfl) ?_)))
              refine (hrepo.out _).mono ?_
              rintro e w' ⟨rfl, rfl⟩
              have hF2 := hF1
              go_wp2_with (first | ((with_reducible refine lst (by with_unfolding_all rfl) (wp_fbox hF0 (cs := (rcL (.int .i64 2) (.string repo) (.string tag) (d.map bv) (.int .i64 t))) rfl (by with_unfolding_all rfl) (by with_unfolding_all rfl) ?_)); intro w1 g1 hF1 hz1) | (with_reducible refine lst (by with_unfolding_all rfl) (wp_fld0 hF2 Tryd.underlying3 rfl (by with_unfolding_all exact ⟨_, rfl, rfl⟩) (by first | with_unfolding_all rfl | exact h35.out) ?_)) | (with_reducible refine lst (by with_unfolding_all rfl) (wp_fld0 hF2 Tryd.underlying9 rfl (by with_unfolding_all exact ⟨_, rfl, rfl⟩) (by first | with_unfolding_all rfl | assumption) ?_)) | (with_reducible refine lst (by with_unfolding_all rfl) (wp_fldA0 hF2 Tryd.underlying22 rfl (by with_unfolding_all exact ⟨_, rfl, rfl⟩) (ds := (d.map bv)) (by rw [hdm.out]; kernel_rfl) (rcL_dig rfl) ?_)) | (with_reducible refine lst (by with_unfolding_all rfl) (wp_neB Tryd.underlying22 Tryd.underlying5 (by kernel_rfl) (by kernel_rfl) hd.out hz32.out (by with_unfolding_all rfl) (by with_unfolding_all rfl) (by with_unfolding_all rfl) ?_)))
              refine (htag.out _).mono ?_
              rintro e w' ⟨rfl, rfl⟩
              go_wp2_with (first | ((with_reducible refine lst (by with_unfolding_all rfl) (wp_fbox hF0 (cs := (rcL (.int .i64 2) (.string repo) (.string tag) (d.map bv) (.int .i64 t))) rfl (by with_unfolding_all rfl) (by with_unfolding_all rfl) ?_)); intro w1 g1 hF1 hz1) | (with_reducible refine lst (by with_unfolding_all rfl) (wp_fld0 hF2 Tryd.underlying3 rfl (by with_unfolding_all exact ⟨_, rfl, rfl⟩) (by first | with_unfolding_all rfl | exact h35.out) ?_)) | (with_reducible refine lst (by with_unfolding_all rfl) (wp_fld0 hF2 Tryd.underlying9 rfl (by with_unfolding_all exact ⟨_, rfl, rfl⟩) (by first | with_unfolding_all rfl | assumption) ?_)) | (with_reducible refine lst (by with_unfolding_all rfl) (wp_fldA0 hF2 Tryd.underlying22 rfl (by with_unfolding_all exact ⟨_, rfl, rfl⟩) (ds := (d.map bv)) (by rw [hdm.out]; kernel_rfl) (rcL_dig rfl) ?_)) | (with_reducible refine lst (by with_unfolding_all rfl) (wp_neB Tryd.underlying22 Tryd.underlying5 (by kernel_rfl) (by kernel_rfl) hd.out hz32.out (by with_unfolding_all rfl) (by with_unfolding_all rfl) (by with_unfolding_all rfl) ?_)))
              go_ret
              exact ⟨ret1 (by rw [hyes.out]; first | rfl | (simp; done) | (simp; omega)), hF2.below⟩
            · have hd0 : decide (0 ≤ t) = false := decide_eq_false h0
              have hno : Box (R = false) := box (by rw [hR.out, hz]; simp [h0])
              clear hR
              go_enter Tryd.func12, Tryd.ntmps12
              go_wp2_with (first | ((with_reducible refine lst (by with_unfolding_all rfl) (wp_fbox hF0 (cs := (rcL (.int .i64 2) (.string repo) (.string tag) (d.map bv) (.int .i64 t))) rfl (by with_unfolding_all rfl) (by with_unfolding_all rfl) ?_)); intro w1 g1 hF1 hz1) | (with_reducible refine lst (by with_unfolding_all rfl) (wp_fld0 hF1 Tryd.underlying3 rfl (by with_unfolding_all exact ⟨_, rfl, rfl⟩) (by first | with_unfolding_all rfl | exact h35.out) ?_)) | (with_reducible refine lst (by with_unfolding_all rfl) (wp_fld0 hF1 Tryd.underlying9 rfl (by with_unfolding_all exact ⟨_, rfl, rfl⟩) (by first | with_unfolding_all rfl | assumption) ?_)) | (with_reducible refine lst (by with_unfolding_all rfl) (wp_fldA0 hF1 Tryd.underlying22 rfl (by with_unfolding_all exact ⟨_, rfl, rfl⟩) (ds := (d.map bv)) (by rw [hdm.out]; kernel_rfl) (rcL_dig rfl) ?_)) | (with_reducible refine lst (by with_unfolding_all rfl) (wp_neB Tryd.underlying22 Tryd.underlying5 (by kernel_rfl) (by kernel_rfl) hd.out hz32.out (by with_unfolding_all rfl) (by with_unfolding_all rfl) (by with_unfolding_all rfl) ?_)))
              refine (hrepo.out _).mono ?_
              rintro e w' ⟨rfl, rfl⟩
              have hF2 := hF1
              go_wp2_with (first | ((with_reducible refine lst (by with_unfolding_all rfl) (wp_fbox hF0 (cs := (rcL (.int .i64 2) (.string repo) (.string tag) (d.map bv) (.int .i64 t))) rfl (by with_unfolding_all rfl) (by with_unfolding_all rfl) ?_)); intro w1 g1 hF1 hz1) | (with_reducible refine lst (by with_unfolding_all rfl) (wp_fld0 hF2 Tryd.underlying3 rfl (by with_unfolding_all exact ⟨_, rfl, rfl⟩) (by first | with_unfolding_all rfl | exact h35.out) ?_)) | (with_reducible refine lst (by with_unfolding_all rfl) (wp_fld0 hF2 Tryd.underlying9 rfl (by with_unfolding_all exact ⟨_, rfl, rfl⟩) (by first | with_unfolding_all rfl | assumption) ?_)) | (with_reducible refine lst (by with_unfolding_all rfl) (wp_fldA0 hF2 Tryd.underlying22 rfl (by with_unfolding_all exact ⟨_, rfl, rfl⟩) (ds := (d.map bv)) (by rw [hdm.out]; kernel_rfl) (rcL_dig rfl) ?_)) | (with_reducible refine lst (by with_unfolding_all rfl) (wp_neB Tryd.underlying22 Tryd.underlying5 (by kernel_rfl) (by kernel_rfl) hd.out hz32.out (by with_unfolding_all rfl) (by with_unfolding_all rfl) (by with_unfolding_all rfl) ?_)))
              refine (htag.out _).mono ?_
              rintro e w' ⟨rfl, rfl⟩
              go_wp2_with (first | ((with_reducible refine lst (by with_unfolding_all rfl) (wp_fbox hF0 (cs := (rcL (.int .i64 2) (.string repo) (.string tag) (d.map bv) (.int .i64 t))) rfl (by with_unfolding_all rfl) (by with_unfolding_all rfl) ?_)); intro w1 g1 hF1 hz1) | (with_reducible refine lst (by with_unfolding_all rfl) (wp_fld0 hF2 Tryd.underlying3 rfl (by with_unfolding_all exact ⟨_, rfl, rfl⟩) (by first | with_unfolding_all rfl | exact h35.out) ?_)) | (with_reducible refine lst (by with_unfolding_all rfl) (wp_fld0 hF2 Tryd.underlying9 rfl (by with_unfolding_all exact ⟨_, rfl, rfl⟩) (by first | with_unfolding_all rfl | assumption) ?_)) | (with_reducible refine lst (by with_unfolding_all rfl) (wp_fldA0 hF2 Tryd.underlying22 rfl (by with_unfolding_all exact ⟨_, rfl, rfl⟩) (ds := (d.map bv)) (by rw [hdm.out]; kernel_rfl) (rcL_dig rfl) ?_)) | (with_reducible refine lst (by with_unfolding_all rfl) (wp_neB Tryd.underlying22 Tryd.underlying5 (by kernel_rfl) (by kernel_rfl) hd.out hz32.out (by with_unfolding_all rfl) (by with_unfolding_all rfl) (by with_unfolding_all rfl) ?_)))
              go_ret
              exact ⟨ret1 (by rw [hno.out]; first | rfl | (simp; done) | (simp; omega)), hF2.below⟩
    · have e1 : (kind == 1) = false := beq_eq_false_iff_ne.2 k1
      have e2 : (kind == 2) = false := beq_eq_false_iff_ne.2 k2
      have e3 : (kind != 1) = true := bne_iff_ne.2 k1
      have e4 : (kind != 2) = true := bne_iff_ne.2 k2
      have hno : Box (R = false) := box (by rw [hR.out, e1, e2]; rfl)
      clear hR k1 k2
      go_enter Tryd.func12, Tryd.ntmps12
      go_wp2_with (first | ((with_reducible refine lst (by with_unfolding_all rfl) (wp_fbox hF0 (cs := (rcL (.int .i64 kind) (.string repo) (.string tag) (d.map bv) (.int .i64 t))) rfl (by with_unfolding_all rfl) (by with_unfolding_all rfl) ?_)); intro w1 g1 hF1 hz1) | (with_reducible refine lst (by with_unfolding_all rfl) (wp_fld0 hF1 Tryd.underlying3 rfl (by with_unfolding_all exact ⟨_, rfl, rfl⟩) (by first | with_unfolding_all rfl | exact h35.out) ?_)) | (with_reducible refine lst (by with_unfolding_all rfl) (wp_fld0 hF1 Tryd.underlying9 rfl (by with_unfolding_all exact ⟨_, rfl, rfl⟩) (by first | with_unfolding_all rfl | assumption) ?_)) | (with_reducible refine lst (by with_unfolding_all rfl) (wp_fldA0 hF1 Tryd.underlying22 rfl (by with_unfolding_all exact ⟨_, rfl, rfl⟩) (ds := (d.map bv)) (by rw [hdm.out]; kernel_rfl) (rcL_dig rfl) ?_)) | (with_reducible refine lst (by with_unfolding_all rfl) (wp_neB Tryd.underlying22 Tryd.underlying5 (by kernel_rfl) (by kernel_rfl) hd.out hz32.out (by with_unfolding_all rfl) (by with_unfolding_all rfl) (by with_unfolding_all rfl) ?_)))
      go_ret
      exact ⟨ret1 (by rw [hno.out]; first | rfl | (simp; done) | (simp; omega)), hF1.below⟩

set_option maxRecDepth 20000 in
set_option maxHeartbeats 1600000 in
theorem to_any (r : Rec) (w : World) (hd : r.d.length = 32) :
    Calls Tryd.prog 8 #[.agg r.cells.toArray] w fun e w' => e = .returned (.agg r.cells.toArray) ∧ Below w.heap.size w w' := by
  obtain ⟨kind, repo, tag, d, t⟩ := r
  simp only [Rec.cells] at hd ⊢
  have hF0 := Fr.nil w
  have hdm : (d.map bv).length = 32 := by rw [List.length_map]; exact hd
  have h35 := box (rcL_at (k := (Value.int .i64) kind) (a := .string repo) (b := .string tag) (t := (Value.int .i64) t) hdm)
  replace hdm := box hdm
  replace hd := box hd
  go_enter Tryd.func8, Tryd.ntmps8
  go_wp2_with (first | ((with_reducible refine lst (by with_unfolding_all rfl) (wp_fbox hF0 (cs := (rcL (.int .i64 kind) (.string repo) (.string tag) (d.map bv) (.int .i64 t))) rfl (by with_unfolding_all rfl) (by with_unfolding_all rfl) ?_)); intro w1 g1 hF1 hz1) | ((with_reducible refine lst (by with_unfolding_all rfl) (wp_falloc hF1 (cs := rc0) (z := .agg (List.toArray (rc0))) rfl (by kernel_rfl) (by with_unfolding_all rfl) ?_)); intro w2 g2 hF2 hz2) | (with_reducible refine lst (by with_unfolding_all rfl) (wp_fld1 hF2 Tryd.underlying3 rfl (by with_unfolding_all exact ⟨_, rfl, rfl⟩) (by first | with_unfolding_all rfl | exact h35.out) ?_)) | (with_reducible refine lst (by with_unfolding_all rfl) (wp_fld1 hF2 Tryd.underlying9 rfl (by with_unfolding_all exact ⟨_, rfl, rfl⟩) (by first | with_unfolding_all rfl | assumption) ?_)) | (with_reducible refine lst (by with_unfolding_all rfl) (wp_fldA1 hF2 Tryd.underlying22 rfl (by with_unfolding_all exact ⟨_, rfl, rfl⟩) (ds := (d.map bv)) (by rw [hdm.out]; kernel_rfl) (rcL_dig rfl) ?_)) | (with_reducible refine lst (by with_unfolding_all rfl) (wp_fbuild Tryd.underlying31 (z := .agg (List.toArray rc0)) (by kernel_rfl) (pl := rcP) (by kernel_rfl) (cs := (rcL (.int .i64 kind) (.string repo) (.string tag) (d.map bv) (.int .i64 t))) rfl (vs := [(0, .int .i64 kind), (1, .string repo), (2, .string tag), (3, .agg (d.map bv).toArray), (4, .int .i64 t)]) (by with_unfolding_all rfl) (by with_unfolding_all exact rc_fill hdm.out rfl rfl rfl rfl) ?_)) | ((with_reducible refine lst (by with_unfolding_all rfl) (wp_fstA0 hF2 (by with_unfolding_all exact ⟨_, _, rfl, rfl, rfl⟩) (by rw [rc_len hdm.out]; kernel_rfl) (rcL_one (bv_one _) rfl rfl rfl rfl) (by rw [rc_len hdm.out, rc0_len]; omega) (spl_all (by rw [rc_len hdm.out, rc0_len])) ?_)); intro w3 hF3 hz3))
  refine bodyPost_ret (results_cellF_0 hF3 rfl _ rfl Tryd.underlying31 rfl (by rw [rc_len hdm.out]; kernel_rfl)) rfl ⟨rfl, hF3.below⟩

set_option maxRecDepth 20000 in
set_option maxHeartbeats 1600000 in
theorem from_any (r : Rec) (w : World) (hd : r.d.length = 32) :
    Calls Tryd.prog 16 #[.agg r.cells.toArray] w fun e w' => e = .returned (.agg r.cells.toArray) ∧ Below w.heap.size w w' := by
  obtain ⟨kind, repo, tag, d, t⟩ := r
  simp only [Rec.cells] at hd ⊢
  have hF0 := Fr.nil w
  have hdm : (d.map bv).length = 32 := by rw [List.length_map]; exact hd
  have h35 := box (rcL_at (k := (Value.int .i64) kind) (a := .string repo) (b := .string tag) (t := (Value.int .i64) t) hdm)
  replace hdm := box hdm
  replace hd := box hd
  go_enter Tryd.func16, Tryd.ntmps16
  go_wp2_with (first | ((with_reducible refine lst (by with_unfolding_all rfl) (wp_fbox hF0 (cs := (rcL (.int .i64 kind) (.string repo) (.string tag) (d.map bv) (.int .i64 t))) rfl (by with_unfolding_all rfl) (by with_unfolding_all rfl) ?_)); intro w1 g1 hF1 hz1) | ((with_reducible refine lst (by with_unfolding_all rfl) (wp_falloc hF1 (cs := rc0) (z := .agg (List.toArray (rc0))) rfl (by kernel_rfl) (by with_unfolding_all rfl) ?_)); intro w2 g2 hF2 hz2) | (with_reducible refine lst (by with_unfolding_all rfl) (wp_fld1 hF2 Tryd.underlying3 rfl (by with_unfolding_all exact ⟨_, rfl, rfl⟩) (by first | with_unfolding_all rfl | exact h35.out) ?_)) | (with_reducible refine lst (by with_unfolding_all rfl) (wp_fld1 hF2 Tryd.underlying9 rfl (by with_unfolding_all exact ⟨_, rfl, rfl⟩) (by first | with_unfolding_all rfl | assumption) ?_)) | (with_reducible refine lst (by with_unfolding_all rfl) (wp_fldA1 hF2 Tryd.underlying29 rfl (by with_unfolding_all exact ⟨_, rfl, rfl⟩) (ds := (d.map bv)) (by rw [hdm.out]; kernel_rfl) (rcL_dig rfl) ?_)) | (with_reducible refine lst (by with_unfolding_all rfl) (wp_fbuild Tryd.underlying24 (z := .agg (List.toArray rc0)) (by kernel_rfl) (pl := rcP) (by kernel_rfl) (cs := (rcL (.int .i64 kind) (.string repo) (.string tag) (d.map bv) (.int .i64 t))) rfl (vs := [(0, .int .i64 kind), (1, .string repo), (2, .string tag), (3, .agg (d.map bv).toArray), (4, .int .i64 t)]) (by with_unfolding_all rfl) (by with_unfolding_all exact rc_fill hdm.out rfl rfl rfl rfl) ?_)) | ((with_reducible refine lst (by with_unfolding_all rfl) (wp_fstA0 hF2 (by with_unfolding_all exact ⟨_, _, rfl, rfl, rfl⟩) (by rw [rc_len hdm.out]; kernel_rfl) (rcL_one (bv_one _) rfl rfl rfl rfl) (by rw [rc_len hdm.out, rc0_len]; omega) (spl_all (by rw [rc_len hdm.out, rc0_len])) ?_)); intro w3 hF3 hz3))
  refine bodyPost_ret (results_cellF_0 hF3 rfl _ rfl Tryd.underlying24 rfl (by rw [rc_len hdm.out]; kernel_rfl)) rfl ⟨rfl, hF3.below⟩

end Go.Proofs.YtpdbjhgphgcjoaaDoor
