/-
  Layer 7: the walk of the law on references that come back.
-/
import Derived.Test.YtgcoebndhnijgaaDoorN12
import Derived.Test.YtgcoebndhnijgaaDoorN15
import Derived.Test.YtgcoebndhnijgaaDoorNBack
namespace Go.Proofs.YtgcoebndhnijgaaDoor
open Go.RowKit

theorem sameRf_self (r : NRef) : sameRf r r = true := by simp [sameRf]
theorem show_len {r : NRef} (hd : r.d.length = 32) (h : (showR r).1 = 0) : (showR r).2.length ≤ 1000 := by
  have hok : repoB r.repo.data.toList = true := by
    cases hq : repoB r.repo.data.toList with
    | true => rfl
    | false => rw [show_no1 hq] at h; cases h
  have htok : (!r.tag.data.toList.isEmpty && !tagB r.tag.data.toList) = false := by
    cases hq : (!r.tag.data.toList.isEmpty && !tagB r.tag.data.toList) with
    | false => rfl
    | true => obtain ⟨h1, h2⟩ := and_not hq; rw [show_no2 hok (by simpa using h1) h2] at h; cases h
  rw [show_yes hok htok]
  have h1 := repo_size hok
  have h2 : (if r.tag.data.toList.isEmpty = true then [] else 58 :: r.tag.data.toList : List UInt8).length ≤ 200 := by
    cases he : r.tag.data.toList.isEmpty with
    | true => simp
    | false =>
      rw [he] at htok
      have := tag_size (not_of htok)
      rw [if_neg (by simp), List.length_cons, str_len]; omega
  have h3 : (if r.pin = true then 64 :: dgT r.d else [] : List UInt8).length ≤ 100 := by
    cases r.pin with
    | true => rw [if_pos rfl, List.length_cons, dgT_len hd]; omega
    | false => simp
  simp only [List.length_append, str_len]
  omega
theorem show_refs (l : List UInt8) : (parseR l).2.repo.size ≤ l.length ∧ (parseR l).2.tag.size ≤ l.length := by
  have hr : (bs (pRepo l)).size ≤ l.length := by
    have h1 := cutA_len 58 (cutA 64 l); have h2 := cutA_len 64 l
    unfold bs pRepo; rw [str_mk_size]; omega
  have ht : (bs (pTag l)).size ≤ l.length := by
    have h1 := cutZ_len 58 (cutA 64 l); have h2 := cutA_len 64 l
    unfold bs pTag; rw [str_mk_size]; omega
  have hz : NRef.zero.repo.size = 0 ∧ NRef.zero.tag.size = 0 := ⟨rfl, rfl⟩
  unfold parseR
  split
  · simp only []; rw [hz.1, hz.2]; omega
  · split
    · simp only []; rw [hz.1, hz.2]; omega
    · split
      · cases dgP (pSum l) with
        | none => simp only []; rw [hz.1, hz.2]; omega
        | some d => exact ⟨hr, ht⟩
      · exact ⟨hr, ht⟩

set_option maxRecDepth 20000 in
set_option maxHeartbeats 6400000 in
theorem nameBack_any (r : NRef) (s : ByteArray) (w : World) (hM : MaxW w) (hd : r.d.length = 32) (hs : r.repo.size ≤ 4000000000) (ht : r.tag.size ≤ 4000000000) (hz : s.size ≤ 4000000000) : Calls Tryd.prog 9 #[.agg r.cells.toArray, .string s] w fun e w' => e = .returned (.bool true) ∧ Below w.heap.size w w' := by
  have hF0 := Fr.nil w
  have h1 := box (fun w (hM : MaxW w) => show_any r w hM hd hs ht)
  have hback := box (fun h => show_back (r := r) hd h)
  have hslen := box (fun h => show_len (r := r) hd h)
  have hcode := show_code r
  have hL := box (r.len hd)
  have hdm : Box ((r.d.map bv).length = 32) := box (by rw [List.length_map]; exact hd)
  have hz0 := box zeros_len
  have hp1 := box (fun w (hM : MaxW w) => parse_any s w hM hz)
  have hq32 := parse_32 s.data.toList
  obtain ⟨hq1, hq2⟩ := show_refs s.data.toList
  rw [str_len] at hq1 hq2
  have hp2 := box (fun w (hM : MaxW w) => show_any (parseR s.data.toList).2 w hM hq32 (by omega) (by omega))
  have hpc := parse_code s.data.toList
  have hps := box (fun h => parse_show (l := s.data.toList) h)
  have hbs := box (bs_eta s)
  generalize parseR s.data.toList = pq at *
  obtain ⟨F, q⟩ := pq
  simp only [] at hp1 hq32 hp2 hpc hps hq1 hq2
  have hLq := box (q.len hq32)
  generalize showR q = sq at *
  obtain ⟨G, lq⟩ := sq
  simp only [] at hp2 hps
  generalize showR r = pr at *
  obtain ⟨E, l⟩ := pr
  simp only [] at h1 hcode hback hslen
  replace hd := box hd
  replace hq32 := box hq32
  go_enter Tryd.func9, Tryd.ntmps9
  go_wp2_with (first | ((with_reducible refine lst (by with_unfolding_all rfl) (wp_fbox hF0 (cs := r.cells) rfl (by with_unfolding_all rfl) (by with_unfolding_all rfl) ?_)); intro w1 g1 hF1 hz1) | (with_reducible refine lst (by with_unfolding_all rfl) (wp_fld0 hF1 Tryd.underlying9 rfl (by with_unfolding_all exact ⟨_, rfl, rfl⟩) rfl ?_)) | (with_reducible refine lst (by with_unfolding_all rfl) (wp_fld0 hF1 Tryd.underlying4 rfl (by with_unfolding_all exact ⟨_, rfl, rfl⟩) rfl ?_)) | (with_reducible refine lst (by with_unfolding_all rfl) (wp_fldA0 hF1 Tryd.underlying25 rfl (by with_unfolding_all exact ⟨_, rfl, rfl⟩) (ds := (r.d.map bv)) (by rw [hdm.out]; kernel_rfl) (NRef.dig _) ?_)) | (with_reducible refine lst (by with_unfolding_all rfl) (wp_fbuild Tryd.underlying28 (z := .agg (List.toArray rf0)) (by kernel_rfl) (pl := rfP) (by kernel_rfl) (cs := r.cells) rfl (vs := [(0, .string r.repo), (1, .string r.tag), (2, .bool r.pin), (3, .agg (r.d.map bv).toArray)]) (by with_unfolding_all rfl) (by with_unfolding_all exact rf_fill hdm.out rfl rfl rfl) ?_)) | ((with_reducible refine lst (by with_unfolding_all rfl) (wp_falloc hF1 (cs := rf0) (z := .agg (List.toArray (rf0))) rfl (by kernel_rfl) (by with_unfolding_all rfl) ?_)); intro w2 g2 hF2 hz2) | ((with_reducible refine lst (by with_unfolding_all rfl) (wp_fstA0 hF2 (by with_unfolding_all exact ⟨_, _, rfl, rfl, rfl⟩) (by rw [hL.out]; kernel_rfl) (NRef.one _) (by rw [hL.out, rf0_len]; omega) (spl_all (by rw [hL.out, rf0_len])) ?_)); intro w3 hF3 hz3) | (with_reducible refine lst (by with_unfolding_all rfl) (wp_fldA0 hF3 Tryd.underlying28 rfl (by with_unfolding_all exact ⟨_, rfl, rfl⟩) (ds := r.cells) (by rw [hL.out]; kernel_rfl) (take_all _) ?_)))
  refine (h1.out _ (hF3.maxW hM)).mono ?_
  rintro e w4 ⟨rfl, hb4⟩
  have hF4 := hF3.call hb4
  clear hF1 hF2 hF3 hb4
  go_upto_if 29 with (fail)
  go_cut [2] (fun s2 wx => s2 = .pointer (some ⟨g1, 0, none⟩) ∧ Fr [] w wx [])
  case first =>
    rcases hcode with rfl | rfl | rfl
    · have hlen := hslen.out rfl
      have hpb := hback.out rfl
      have hpx := box (fun w (hM : MaxW w) => parse_any (bs l) w hM (by unfold bs; rw [str_mk_size]; omega))
      rw [show (bs l).data.toList = l from str_mk l, hpb] at hpx
      simp only [] at hpx
      clear hback hslen hpb hp1 hp2 hpc hps hlen
      obtain ⟨repo, tag, pin, d⟩ := r
      cases pin with
      | true =>
        simp only [if_true] at hpx
        have hsf := sameRf_self ⟨repo, tag, true, d⟩
        go_wp2_with fail
        refine (hpx.out _ (hF4.maxW hM)).mono ?_
        rintro e w5 ⟨rfl, hb5⟩
        have hF5 := hF4.call hb5
        go_wp2_with (first | ((with_reducible refine lst (by with_unfolding_all rfl) (wp_falloc hF5 (cs := rf0) (z := .agg (List.toArray (rf0))) rfl (by kernel_rfl) (by with_unfolding_all rfl) ?_)); intro w6 g6 hF6 hz6) | ((with_reducible refine lst (by with_unfolding_all rfl) (wp_fstA0 hF6 (by with_unfolding_all exact ⟨_, _, rfl, rfl, rfl⟩) (by rw [hL.out]; kernel_rfl) (NRef.one _) (by rw [hL.out, rf0_len]; omega) (spl_all (by rw [hL.out, rf0_len])) ?_)); intro w7 hF7 hz7) | (with_reducible refine lst (by with_unfolding_all rfl) (wp_fld1 hF7 Tryd.underlying4 rfl (by with_unfolding_all exact ⟨_, rfl, rfl⟩) rfl ?_)) | (with_reducible refine lst (by with_unfolding_all rfl) (wp_fldA0 hF7 Tryd.underlying28 rfl (by with_unfolding_all exact ⟨_, rfl, rfl⟩) (ds := (NRef.cells ⟨repo, tag, true, d⟩)) (by rw [hL.out]; kernel_rfl) (take_all _) ?_)) | (with_reducible refine lst (by with_unfolding_all rfl) (wp_fldA1 hF7 Tryd.underlying28 rfl (by with_unfolding_all exact ⟨_, rfl, rfl⟩) (ds := (NRef.cells ⟨repo, tag, true, d⟩)) (by rw [hL.out]; kernel_rfl) (take_all _) ?_)) | (with_reducible refine lst (by with_unfolding_all rfl) (wp_neR (x := ⟨repo, tag, true, d⟩) (y := ⟨repo, tag, true, d⟩) ⟨Tryd.underlying28, by kernel_rfl, by kernel_rfl, by kernel_rfl, by kernel_rfl, Tryd.underlying5, by kernel_rfl, by kernel_rfl, by kernel_rfl⟩ hd.out hd.out (by with_unfolding_all rfl) (by with_unfolding_all rfl) (by with_unfolding_all rfl) ?_)))
        go_meet
        exact ⟨rfl, hF7.picks [] rfl (by decide)⟩
      | false =>
        simp only [Bool.false_eq_true, if_false] at hpx
        have hsf := sameRf_self ⟨repo, tag, false, zeros⟩
        have hLz := box (NRef.len ⟨repo, tag, false, zeros⟩ (by simp [zeros]))
        have hz3 : Box ((NRef.mk repo tag false zeros).d.length = 32) := box (by simp [zeros])
        go_wp2_with fail
        refine (hpx.out _ (hF4.maxW hM)).mono ?_
        rintro e w5 ⟨rfl, hb5⟩
        have hF5 := hF4.call hb5
        go_wp2_with (first | ((with_reducible refine lst (by with_unfolding_all rfl) (wp_falloc hF5 (cs := rf0) (z := .agg (List.toArray (rf0))) rfl (by kernel_rfl) (by with_unfolding_all rfl) ?_)); intro w6 g6 hF6 hz6) | ((with_reducible refine lst (by with_unfolding_all rfl) (wp_fstA0 hF6 (by with_unfolding_all exact ⟨_, _, rfl, rfl, rfl⟩) (by rw [hLz.out]; kernel_rfl) (NRef.one _) (by rw [hLz.out, rf0_len]; omega) (spl_all (by rw [hLz.out, rf0_len])) ?_)); intro w7 hF7 hz7) | (with_reducible refine lst (by with_unfolding_all rfl) (wp_fld1 hF7 Tryd.underlying4 rfl (by with_unfolding_all exact ⟨_, rfl, rfl⟩) rfl ?_)) | ((with_reducible refine lst (by with_unfolding_all rfl) (wp_fstA1 hF7 (by with_unfolding_all exact ⟨_, _, rfl, rfl, rfl⟩) (by kernel_rfl) (by with_unfolding_all exact bv_one zeros) (by rw [hL.out]; decide) (by with_unfolding_all exact (show spl (NRef.cells ⟨repo, tag, false, d⟩) 3 (zeros.map bv) = NRef.cells ⟨repo, tag, false, zeros⟩ from rfL_3 (by rw [hdm.out, hz0.out]))) ?_)); intro w8 hF8 hz8) | (with_reducible refine lst (by with_unfolding_all rfl) (wp_fldA0 hF8 Tryd.underlying28 rfl (by with_unfolding_all exact ⟨_, rfl, rfl⟩) (ds := (NRef.cells ⟨repo, tag, false, zeros⟩)) (by rw [hLz.out]; kernel_rfl) (take_all _) ?_)) | (with_reducible refine lst (by with_unfolding_all rfl) (wp_fldA1 hF8 Tryd.underlying28 rfl (by with_unfolding_all exact ⟨_, rfl, rfl⟩) (ds := (NRef.cells ⟨repo, tag, false, zeros⟩)) (by rw [hLz.out]; kernel_rfl) (take_all _) ?_)) | (with_reducible refine lst (by with_unfolding_all rfl) (wp_neR (x := ⟨repo, tag, false, zeros⟩) (y := ⟨repo, tag, false, zeros⟩) ⟨Tryd.underlying28, by kernel_rfl, by kernel_rfl, by kernel_rfl, by kernel_rfl, Tryd.underlying5, by kernel_rfl, by kernel_rfl, by kernel_rfl⟩ hz3.out hz3.out (by with_unfolding_all rfl) (by with_unfolding_all rfl) (by with_unfolding_all rfl) ?_)))
        go_meet
        exact ⟨rfl, hF8.picks [] rfl (by decide)⟩
    all_goals
      go_wp2_with fail
      go_meet
      exact ⟨rfl, hF4.picks [] rfl (by decide)⟩
  case rest =>
  obtain ⟨rfl, hF⟩ := hcut
  clear hF0 hF4 h1 hback hslen hcode hL hdm
  go_wp2_with fail
  refine (hp1.out _ (hF.maxW hM)).mono ?_
  rintro e w5 ⟨rfl, hb5⟩
  have hF5 := hF.call hb5
  go_wp2_with (first | ((with_reducible refine lst (by with_unfolding_all rfl) (wp_falloc hF5 (cs := rf0) (z := .agg (List.toArray (rf0))) rfl (by kernel_rfl) (by with_unfolding_all rfl) ?_)); intro w6 g6 hF6 hz6) | ((with_reducible refine lst (by with_unfolding_all rfl) (wp_fstA0 hF6 (by with_unfolding_all exact ⟨_, _, rfl, rfl, rfl⟩) (by rw [hLq.out]; kernel_rfl) (NRef.one _) (by rw [hLq.out, rf0_len]; omega) (spl_all (by rw [hLq.out, rf0_len])) ?_)); intro w7 hF7 hz7) | (with_reducible refine lst (by with_unfolding_all rfl) (wp_fldA0 hF7 Tryd.underlying28 rfl (by with_unfolding_all exact ⟨_, rfl, rfl⟩) (ds := q.cells) (by rw [hLq.out]; kernel_rfl) (take_all _) ?_)))
  refine (hp2.out _ (hF7.maxW hM)).mono ?_
  rintro e w8 ⟨rfl, hb8⟩
  have hF8 := hF7.call hb8
  clear hF hF5 hF6 hF7 hp1 hp2
  go_wp2_with fail
  refine (awake_any _ (hF8.maxW hM)).mono ?_
  rintro e w9 ⟨rfl, hb9⟩
  have hF9 := hF8.call hb9
  rcases hpc with rfl | rfl | rfl | rfl
  · have hpp := hps.out rfl
    injection hpp with hg hl
    subst hg
    subst hl
    rw [hbs.out]
    clear hps
    go_wp2_with fail
    go_ret
    exact ⟨ret1 (by simp), hF9.below⟩
  all_goals
    go_wp2_with fail
    go_ret
    exact ⟨ret1 (by first | rfl | simp), hF9.below⟩
end Go.Proofs.YtgcoebndhnijgaaDoor
