/-
  Layer 7: the walks of Show, both texts.
-/
import Derived.Test.YtgcoebndhnijgaaDoorN2
import Derived.Test.YtgcoebndhnijgaaDoorN5
import Derived.Test.YtgcoebndhnijgaaDoorN9
import Derived.Test.YtgcoebndhnijgaaDoorN10
import Derived.Test.YtgcoebndhnijgaaDoorNShow
namespace Go.Proofs.YtgcoebndhnijgaaDoor
open Go.RowKit

theorem strV {a b : ByteArray} (h : a.data.toList = b.data.toList) : Value.string a = .string b := by rw [str_ext' h]
set_option maxRecDepth 20000 in
set_option maxHeartbeats 3200000 in
theorem show_any (r : NRef) (w : World) (hM : MaxW w) (hd : r.d.length = 32) (hs : r.repo.size ≤ 4000000000) (ht : r.tag.size ≤ 4000000000) :
    Calls Tryd.prog 19 #[.agg r.cells.toArray] w fun e w' => e = .returned (.tuple #[.string (bs (showR r).2), .int .i64 (showR r).1]) ∧ Below w.heap.size w w' := by
  obtain ⟨repo, tag, pin, d⟩ := r
  have hx1 := @show_no1 ⟨repo, tag, pin, d⟩
  have hx2 := @show_no2 ⟨repo, tag, pin, d⟩
  have hx3 := @show_yes ⟨repo, tag, pin, d⟩
  simp only [NRef.cells] at hx1 hx2 hx3 hd hs ht ⊢
  have hF0 := Fr.nil w
  have hdm : Box ((d.map bv).length = 32) := box (by rw [List.length_map]; exact hd)
  have hlen : (dgT d).length ≤ 71 := by rw [dgT_len hd]; exact Nat.le_refl _
  replace hd := box hd
  have hrepo := box (fun w (hM : MaxW w) => repo_any repo w hM (by omega))
  have htag := box (fun w => tag_any tag w (by omega))
  have hrs := box (@repo_size repo)
  have hts := box (@tag_size tag)
  generalize showR ⟨repo, tag, pin, d⟩ = SR at *
  cases hr : repoB repo.data.toList with
  | false =>
    rw [hx1 hr]
    rw [hr] at hrepo
    clear hx1 hx2 hx3 hr
    go_enter Tryd.func19, Tryd.ntmps19
    go_wp2_with (first | ((with_reducible refine lst (by with_unfolding_all rfl) (wp_fbox hF0 (cs := (rfL (.string repo) (.string tag) (.bool pin) (d.map bv))) rfl (by with_unfolding_all rfl) (by with_unfolding_all rfl) ?_)); intro w1 g1 hF1 hz1) | (with_reducible refine lst (by with_unfolding_all rfl) (wp_fld0 hF1 Tryd.underlying9 rfl (by with_unfolding_all exact ⟨_, rfl, rfl⟩) (by first | with_unfolding_all rfl | assumption) ?_)))
    refine (hrepo.out _ (hF1.maxW hM)).mono ?_
    rintro e w2 ⟨rfl, hb2⟩
    have hF2 := hF1.call hb2
    go_wp2_with fail
    go_ret2
    exact ⟨rfl, hF2.below⟩
  | true =>
    have hrz := hrs.out hr
    rw [hr] at hrepo
    cases he : tag.data.toList.isEmpty with
    | true =>
      rw [hx3 hr (by rw [he]; rfl), if_pos he]
      have htg := str_nil he
      subst htg
      clear hx1 hx2 hx3 hr he htag hts hrs
      cases pin with
      | false =>
        go_enter Tryd.func19, Tryd.ntmps19
        go_wp2_with (first | ((with_reducible refine lst (by with_unfolding_all rfl) (wp_fbox hF0 (cs := (rfL (.string repo) (.string ⟨#[]⟩) (.bool false) (d.map bv))) rfl (by with_unfolding_all rfl) (by with_unfolding_all rfl) ?_)); intro w1 g1 hF1 hz1) | (with_reducible refine lst (by with_unfolding_all rfl) (wp_fld0 hF1 Tryd.underlying9 rfl (by with_unfolding_all exact ⟨_, rfl, rfl⟩) (by first | with_unfolding_all rfl | assumption) ?_)))
        refine (hrepo.out _ (hF1.maxW hM)).mono ?_
        rintro e w2 ⟨rfl, hb2⟩
        have hF2 := hF1.call hb2
        go_wp2_with (first | (with_reducible refine lst (by with_unfolding_all rfl) (wp_fld0 hF2 Tryd.underlying9 rfl (by with_unfolding_all exact ⟨_, rfl, rfl⟩) (by first | with_unfolding_all rfl | assumption) ?_)) | (with_reducible refine lst (by with_unfolding_all rfl) (wp_fld0 hF2 Tryd.underlying4 rfl (by with_unfolding_all exact ⟨_, rfl, rfl⟩) (by first | with_unfolding_all rfl | assumption) ?_)))
        go_ret2
        exact ⟨ret2 (strV (by simp [bs])) rfl, hF2.below⟩
      | true =>
        go_enter Tryd.func19, Tryd.ntmps19
        go_wp2_with (first | ((with_reducible refine lst (by with_unfolding_all rfl) (wp_fbox hF0 (cs := (rfL (.string repo) (.string ⟨#[]⟩) (.bool true) (d.map bv))) rfl (by with_unfolding_all rfl) (by with_unfolding_all rfl) ?_)); intro w1 g1 hF1 hz1) | (with_reducible refine lst (by with_unfolding_all rfl) (wp_fld0 hF1 Tryd.underlying9 rfl (by with_unfolding_all exact ⟨_, rfl, rfl⟩) (by first | with_unfolding_all rfl | assumption) ?_)))
        refine (hrepo.out _ (hF1.maxW hM)).mono ?_
        rintro e w2 ⟨rfl, hb2⟩
        have hF2 := hF1.call hb2
        go_wp2_with (first | (with_reducible refine lst (by with_unfolding_all rfl) (wp_fld0 hF2 Tryd.underlying9 rfl (by with_unfolding_all exact ⟨_, rfl, rfl⟩) (by first | with_unfolding_all rfl | assumption) ?_)) | (with_reducible refine lst (by with_unfolding_all rfl) (wp_fld0 hF2 Tryd.underlying4 rfl (by with_unfolding_all exact ⟨_, rfl, rfl⟩) (by first | with_unfolding_all rfl | assumption) ?_)) | (with_reducible refine lst (by with_unfolding_all rfl) (wp_fldA0 hF2 Tryd.underlying26 rfl (by with_unfolding_all exact ⟨_, rfl, rfl⟩) (ds := (d.map bv)) (by rw [hdm.out]; kernel_rfl) (rfL_dig rfl) ?_)))
        refine (dgText_any d _ hd.out).mono ?_
        rintro e w5 ⟨rfl, hb5⟩
        have hF5 := hF2.call hb5
        go_wp2_with fail
        go_ret2
        exact ⟨ret2 (strV (by simp [bs])) rfl, hF5.below⟩
    | false =>
      have he2 : tag.toList.isEmpty = false := by rw [ByteArray.toList_eq]; exact he
      cases ht2 : tagB tag.data.toList with
      | false =>
        rw [hx2 hr he ht2]
        rw [ht2] at htag
        clear hx1 hx2 hx3 hr he ht2 hts hrs
        go_enter Tryd.func19, Tryd.ntmps19
        go_wp2_with (first | ((with_reducible refine lst (by with_unfolding_all rfl) (wp_fbox hF0 (cs := (rfL (.string repo) (.string tag) (.bool pin) (d.map bv))) rfl (by with_unfolding_all rfl) (by with_unfolding_all rfl) ?_)); intro w1 g1 hF1 hz1) | (with_reducible refine lst (by with_unfolding_all rfl) (wp_fld0 hF1 Tryd.underlying9 rfl (by with_unfolding_all exact ⟨_, rfl, rfl⟩) (by first | with_unfolding_all rfl | assumption) ?_)))
        refine (hrepo.out _ (hF1.maxW hM)).mono ?_
        rintro e w2 ⟨rfl, hb2⟩
        have hF2 := hF1.call hb2
        go_wp2_with (first | (go_at_call 13; refine (htag.out _).mono ?_; rintro e w' ⟨rfl, rfl⟩) | (with_reducible refine lst (by with_unfolding_all rfl) (wp_fld0 hF2 Tryd.underlying9 rfl (by with_unfolding_all exact ⟨_, rfl, rfl⟩) (by first | with_unfolding_all rfl | assumption) ?_)) | (with_reducible refine lst (by with_unfolding_all rfl) (wp_fld0 hF2 Tryd.underlying4 rfl (by with_unfolding_all exact ⟨_, rfl, rfl⟩) (by first | with_unfolding_all rfl | assumption) ?_)))
        go_ret2
        exact ⟨rfl, hF2.below⟩
      | true =>
        rw [hx3 hr (by rw [he, ht2]; rfl), if_neg (by simp [he])]
        have htz := hts.out ht2
        rw [ht2] at htag
        clear hx1 hx2 hx3 hr he ht2 hts hrs
        cases pin with
        | false =>
          go_enter Tryd.func19, Tryd.ntmps19
          go_wp2_with (first | ((with_reducible refine lst (by with_unfolding_all rfl) (wp_fbox hF0 (cs := (rfL (.string repo) (.string tag) (.bool false) (d.map bv))) rfl (by with_unfolding_all rfl) (by with_unfolding_all rfl) ?_)); intro w1 g1 hF1 hz1) | (with_reducible refine lst (by with_unfolding_all rfl) (wp_fld0 hF1 Tryd.underlying9 rfl (by with_unfolding_all exact ⟨_, rfl, rfl⟩) (by first | with_unfolding_all rfl | assumption) ?_)))
          refine (hrepo.out _ (hF1.maxW hM)).mono ?_
          rintro e w2 ⟨rfl, hb2⟩
          have hF2 := hF1.call hb2
          go_wp2_with (first | (go_at_call 13; refine (htag.out _).mono ?_; rintro e w' ⟨rfl, rfl⟩) | (with_reducible refine lst (by with_unfolding_all rfl) (wp_fld0 hF2 Tryd.underlying9 rfl (by with_unfolding_all exact ⟨_, rfl, rfl⟩) (by first | with_unfolding_all rfl | assumption) ?_)) | (with_reducible refine lst (by with_unfolding_all rfl) (wp_fld0 hF2 Tryd.underlying4 rfl (by with_unfolding_all exact ⟨_, rfl, rfl⟩) (by first | with_unfolding_all rfl | assumption) ?_)))
          go_ret2
          exact ⟨ret2 (strV (by simp [bs])) rfl, hF2.below⟩
        | true =>
          go_enter Tryd.func19, Tryd.ntmps19
          go_wp2_with (first | ((with_reducible refine lst (by with_unfolding_all rfl) (wp_fbox hF0 (cs := (rfL (.string repo) (.string tag) (.bool true) (d.map bv))) rfl (by with_unfolding_all rfl) (by with_unfolding_all rfl) ?_)); intro w1 g1 hF1 hz1) | (with_reducible refine lst (by with_unfolding_all rfl) (wp_fld0 hF1 Tryd.underlying9 rfl (by with_unfolding_all exact ⟨_, rfl, rfl⟩) (by first | with_unfolding_all rfl | assumption) ?_)))
          refine (hrepo.out _ (hF1.maxW hM)).mono ?_
          rintro e w2 ⟨rfl, hb2⟩
          have hF2 := hF1.call hb2
          go_wp2_with (first | (go_at_call 13; refine (htag.out _).mono ?_; rintro e w' ⟨rfl, rfl⟩) | (with_reducible refine lst (by with_unfolding_all rfl) (wp_fld0 hF2 Tryd.underlying9 rfl (by with_unfolding_all exact ⟨_, rfl, rfl⟩) (by first | with_unfolding_all rfl | assumption) ?_)) | (with_reducible refine lst (by with_unfolding_all rfl) (wp_fld0 hF2 Tryd.underlying4 rfl (by with_unfolding_all exact ⟨_, rfl, rfl⟩) (by first | with_unfolding_all rfl | assumption) ?_)) | (with_reducible refine lst (by with_unfolding_all rfl) (wp_fldA0 hF2 Tryd.underlying26 rfl (by with_unfolding_all exact ⟨_, rfl, rfl⟩) (ds := (d.map bv)) (by rw [hdm.out]; kernel_rfl) (rfL_dig rfl) ?_)))
          refine (dgText_any d _ hd.out).mono ?_
          rintro e w5 ⟨rfl, hb5⟩
          have hF5 := hF2.call hb5
          go_wp2_with fail
          go_ret2
          exact ⟨ret2 (strV (by simp [bs])) rfl, hF5.below⟩

set_option maxRecDepth 20000 in
set_option maxHeartbeats 3200000 in
theorem showF_any (r : NRef) (w : World) (hd : r.d.length = 32) (hs : r.repo.size ≤ 4000000000) (ht : r.tag.size ≤ 4000000000) :
    Calls Tryd.prog 20 #[.agg r.cells.toArray] w fun e w' => e = .returned (.tuple #[.string (bs (showR r).2), .int .i64 (showR r).1]) ∧ Below w.heap.size w w' := by
  obtain ⟨repo, tag, pin, d⟩ := r
  have hx1 := @show_no1 ⟨repo, tag, pin, d⟩
  have hx2 := @show_no2 ⟨repo, tag, pin, d⟩
  have hx3 := @show_yes ⟨repo, tag, pin, d⟩
  simp only [NRef.cells] at hx1 hx2 hx3 hd hs ht ⊢
  have hF0 := Fr.nil w
  have hdm : Box ((d.map bv).length = 32) := box (by rw [List.length_map]; exact hd)
  have hlen : (dgT d).length ≤ 71 := by rw [dgT_len hd]; exact Nat.le_refl _
  replace hd := box hd
  have hrepo := box (fun w => repoF_any repo w (by omega))
  have htag := box (fun w => tagF_any tag w (by omega))
  have hrs := box (@repo_size repo)
  have hts := box (@tag_size tag)
  generalize showR ⟨repo, tag, pin, d⟩ = SR at *
  cases hr : repoB repo.data.toList with
  | false =>
    rw [hx1 hr]
    rw [hr] at hrepo
    clear hx1 hx2 hx3 hr
    go_enter Tryd.func20, Tryd.ntmps20
    go_wp2_with (first | ((with_reducible refine lst (by with_unfolding_all rfl) (wp_fbox hF0 (cs := (rfL (.string repo) (.string tag) (.bool pin) (d.map bv))) rfl (by with_unfolding_all rfl) (by with_unfolding_all rfl) ?_)); intro w1 g1 hF1 hz1) | (with_reducible refine lst (by with_unfolding_all rfl) (wp_fld0 hF1 Tryd.underlying9 rfl (by with_unfolding_all exact ⟨_, rfl, rfl⟩) (by first | with_unfolding_all rfl | assumption) ?_)))
    refine (hrepo.out _).mono ?_
    rintro e w' ⟨rfl, rfl⟩
    have hF2 := hF1
    go_wp2_with fail
    go_ret2
    exact ⟨rfl, hF2.below⟩
  | true =>
    have hrz := hrs.out hr
    rw [hr] at hrepo
    cases he : tag.data.toList.isEmpty with
    | true =>
      rw [hx3 hr (by rw [he]; rfl), if_pos he]
      have htg := str_nil he
      subst htg
      clear hx1 hx2 hx3 hr he htag hts hrs
      cases pin with
      | false =>
        go_enter Tryd.func20, Tryd.ntmps20
        go_wp2_with (first | ((with_reducible refine lst (by with_unfolding_all rfl) (wp_fbox hF0 (cs := (rfL (.string repo) (.string ⟨#[]⟩) (.bool false) (d.map bv))) rfl (by with_unfolding_all rfl) (by with_unfolding_all rfl) ?_)); intro w1 g1 hF1 hz1) | (with_reducible refine lst (by with_unfolding_all rfl) (wp_fld0 hF1 Tryd.underlying9 rfl (by with_unfolding_all exact ⟨_, rfl, rfl⟩) (by first | with_unfolding_all rfl | assumption) ?_)))
        refine (hrepo.out _).mono ?_
        rintro e w' ⟨rfl, rfl⟩
        have hF2 := hF1
        go_wp2_with (first | (with_reducible refine lst (by with_unfolding_all rfl) (wp_fld0 hF2 Tryd.underlying9 rfl (by with_unfolding_all exact ⟨_, rfl, rfl⟩) (by first | with_unfolding_all rfl | assumption) ?_)) | (with_reducible refine lst (by with_unfolding_all rfl) (wp_fld0 hF2 Tryd.underlying4 rfl (by with_unfolding_all exact ⟨_, rfl, rfl⟩) (by first | with_unfolding_all rfl | assumption) ?_)))
        go_ret2
        exact ⟨ret2 (strV (by simp [bs])) rfl, hF2.below⟩
      | true =>
        go_enter Tryd.func20, Tryd.ntmps20
        go_wp2_with (first | ((with_reducible refine lst (by with_unfolding_all rfl) (wp_fbox hF0 (cs := (rfL (.string repo) (.string ⟨#[]⟩) (.bool true) (d.map bv))) rfl (by with_unfolding_all rfl) (by with_unfolding_all rfl) ?_)); intro w1 g1 hF1 hz1) | (with_reducible refine lst (by with_unfolding_all rfl) (wp_fld0 hF1 Tryd.underlying9 rfl (by with_unfolding_all exact ⟨_, rfl, rfl⟩) (by first | with_unfolding_all rfl | assumption) ?_)))
        refine (hrepo.out _).mono ?_
        rintro e w' ⟨rfl, rfl⟩
        have hF2 := hF1
        go_wp2_with (first | (with_reducible refine lst (by with_unfolding_all rfl) (wp_fld0 hF2 Tryd.underlying9 rfl (by with_unfolding_all exact ⟨_, rfl, rfl⟩) (by first | with_unfolding_all rfl | assumption) ?_)) | (with_reducible refine lst (by with_unfolding_all rfl) (wp_fld0 hF2 Tryd.underlying4 rfl (by with_unfolding_all exact ⟨_, rfl, rfl⟩) (by first | with_unfolding_all rfl | assumption) ?_)) | (with_reducible refine lst (by with_unfolding_all rfl) (wp_fldA0 hF2 Tryd.underlying25 rfl (by with_unfolding_all exact ⟨_, rfl, rfl⟩) (ds := (d.map bv)) (by rw [hdm.out]; kernel_rfl) (rfL_dig rfl) ?_)))
        refine (dgTextF_any d _ hd.out).mono ?_
        rintro e w5 ⟨rfl, hb5⟩
        have hF5 := hF2.call hb5
        go_wp2_with fail
        go_ret2
        exact ⟨ret2 (strV (by simp [bs])) rfl, hF5.below⟩
    | false =>
      have he2 : tag.toList.isEmpty = false := by rw [ByteArray.toList_eq]; exact he
      cases ht2 : tagB tag.data.toList with
      | false =>
        rw [hx2 hr he ht2]
        rw [ht2] at htag
        clear hx1 hx2 hx3 hr he ht2 hts hrs
        go_enter Tryd.func20, Tryd.ntmps20
        go_wp2_with (first | ((with_reducible refine lst (by with_unfolding_all rfl) (wp_fbox hF0 (cs := (rfL (.string repo) (.string tag) (.bool pin) (d.map bv))) rfl (by with_unfolding_all rfl) (by with_unfolding_all rfl) ?_)); intro w1 g1 hF1 hz1) | (with_reducible refine lst (by with_unfolding_all rfl) (wp_fld0 hF1 Tryd.underlying9 rfl (by with_unfolding_all exact ⟨_, rfl, rfl⟩) (by first | with_unfolding_all rfl | assumption) ?_)))
        refine (hrepo.out _).mono ?_
        rintro e w' ⟨rfl, rfl⟩
        have hF2 := hF1
        go_wp2_with (first | (go_at_call 14; refine (htag.out _).mono ?_; rintro e w' ⟨rfl, rfl⟩) | (with_reducible refine lst (by with_unfolding_all rfl) (wp_fld0 hF2 Tryd.underlying9 rfl (by with_unfolding_all exact ⟨_, rfl, rfl⟩) (by first | with_unfolding_all rfl | assumption) ?_)) | (with_reducible refine lst (by with_unfolding_all rfl) (wp_fld0 hF2 Tryd.underlying4 rfl (by with_unfolding_all exact ⟨_, rfl, rfl⟩) (by first | with_unfolding_all rfl | assumption) ?_)))
        go_ret2
        exact ⟨rfl, hF2.below⟩
      | true =>
        rw [hx3 hr (by rw [he, ht2]; rfl), if_neg (by simp [he])]
        have htz := hts.out ht2
        rw [ht2] at htag
        clear hx1 hx2 hx3 hr he ht2 hts hrs
        cases pin with
        | false =>
          go_enter Tryd.func20, Tryd.ntmps20
          go_wp2_with (first | ((with_reducible refine lst (by with_unfolding_all rfl) (wp_fbox hF0 (cs := (rfL (.string repo) (.string tag) (.bool false) (d.map bv))) rfl (by with_unfolding_all rfl) (by with_unfolding_all rfl) ?_)); intro w1 g1 hF1 hz1) | (with_reducible refine lst (by with_unfolding_all rfl) (wp_fld0 hF1 Tryd.underlying9 rfl (by with_unfolding_all exact ⟨_, rfl, rfl⟩) (by first | with_unfolding_all rfl | assumption) ?_)))
          refine (hrepo.out _).mono ?_
          rintro e w' ⟨rfl, rfl⟩
          have hF2 := hF1
          go_wp2_with (first | (go_at_call 14; refine (htag.out _).mono ?_; rintro e w' ⟨rfl, rfl⟩) | (with_reducible refine lst (by with_unfolding_all rfl) (wp_fld0 hF2 Tryd.underlying9 rfl (by with_unfolding_all exact ⟨_, rfl, rfl⟩) (by first | with_unfolding_all rfl | assumption) ?_)) | (with_reducible refine lst (by with_unfolding_all rfl) (wp_fld0 hF2 Tryd.underlying4 rfl (by with_unfolding_all exact ⟨_, rfl, rfl⟩) (by first | with_unfolding_all rfl | assumption) ?_)))
          go_ret2
          exact ⟨ret2 (strV (by simp [bs])) rfl, hF2.below⟩
        | true =>
          go_enter Tryd.func20, Tryd.ntmps20
          go_wp2_with (first | ((with_reducible refine lst (by with_unfolding_all rfl) (wp_fbox hF0 (cs := (rfL (.string repo) (.string tag) (.bool true) (d.map bv))) rfl (by with_unfolding_all rfl) (by with_unfolding_all rfl) ?_)); intro w1 g1 hF1 hz1) | (with_reducible refine lst (by with_unfolding_all rfl) (wp_fld0 hF1 Tryd.underlying9 rfl (by with_unfolding_all exact ⟨_, rfl, rfl⟩) (by first | with_unfolding_all rfl | assumption) ?_)))
          refine (hrepo.out _).mono ?_
          rintro e w' ⟨rfl, rfl⟩
          have hF2 := hF1
          go_wp2_with (first | (go_at_call 14; refine (htag.out _).mono ?_; rintro e w' ⟨rfl, rfl⟩) | (with_reducible refine lst (by with_unfolding_all rfl) (wp_fld0 hF2 Tryd.underlying9 rfl (by with_unfolding_all exact ⟨_, rfl, rfl⟩) (by first | with_unfolding_all rfl | assumption) ?_)) | (with_reducible refine lst (by with_unfolding_all rfl) (wp_fld0 hF2 Tryd.underlying4 rfl (by with_unfolding_all exact ⟨_, rfl, rfl⟩) (by first | with_unfolding_all rfl | assumption) ?_)) | (with_reducible refine lst (by with_unfolding_all rfl) (wp_fldA0 hF2 Tryd.underlying25 rfl (by with_unfolding_all exact ⟨_, rfl, rfl⟩) (ds := (d.map bv)) (by rw [hdm.out]; kernel_rfl) (rfL_dig rfl) ?_)))
          refine (dgTextF_any d _ hd.out).mono ?_
          rintro e w5 ⟨rfl, hb5⟩
          have hF5 := hF2.call hb5
          go_wp2_with fail
          go_ret2
          exact ⟨ret2 (strV (by simp [bs])) rfl, hF5.below⟩

end Go.Proofs.YtgcoebndhnijgaaDoor
