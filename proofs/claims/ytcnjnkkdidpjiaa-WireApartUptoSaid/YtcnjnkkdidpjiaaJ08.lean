/-
  Layer 19: the walk of EncodeReply.
-/
import Derived.Test.YtcnjnkkdidpjiaaJ06
import Derived.Test.YtcnjnkkdidpjiaaJ07
import Derived.Deep.DeepCutAuto
namespace Go.Proofs.Ytcnjnkkdidpjiaa
open Go.RowKit

set_option maxRecDepth 20000 in
set_option maxHeartbeats 1600000 in
theorem encRep_in (r : Rep) (A B C : Option Addr) (c cb cc : Nat) (w : World) (hR : RepRd w r A B C) (h1 : 0 ≤ r.code) (h2 : r.code ≤ 255) (h3 : numB r.n = true) (h4 : numB r.m = true) (h5 : r.body.length ≤ 1048576) (h6 : r.words.length ≤ 100) (h7 : r.sums.length ≤ 4096) :
    Calls Try.prog 16 #[.agg (r.cells A B C c cb cc).toArray] w (Told w 5 (if repOk r = true then repB r else []) (if repOk r = true then 0 else 1)) := by
  obtain ⟨code, d, n, m, body, words, sums⟩ := r
  obtain ⟨hd, hr, hrw, hrs, hs32⟩ := hR
  simp only [Rep.cells] at *
  have hfit : [n, m].all numB = true := by simp [h3, h4]
  have h3' := numB_iff h3
  have h4' := numB_iff h4
  have hdl : (d.map bv).length = 32 := by simpa using hd
  have hq := rpL_at (a := (Value.int .i64) code) (e := (Value.int .i64) n) (f := (Value.int .i64) m) (g := .slice A body.length c) (h := .slice B words.length cb) (i := .slice C sums.length cc) hdl
  obtain ⟨L0, hL0⟩ : ∃ L0, L0 = (if repOk ⟨code, d, n, m, body, words, sums⟩ = true then repB ⟨code, d, n, m, body, words, sums⟩ else []) := ⟨_, rfl⟩
  obtain ⟨E0, hE0⟩ : ∃ E0, E0 = (if repOk ⟨code, d, n, m, body, words, sums⟩ = true then (0 : Int) else 1) := ⟨_, rfl⟩
  rw [← hL0, ← hE0]
  have hyes : words.all wordOk = true → Box (L0 = repB ⟨code, d, n, m, body, words, sums⟩ ∧ E0 = 0) := fun h => by
    have := repOk_of (r := ⟨code, d, n, m, body, words, sums⟩) h1 h2 h3 h4 h5 h6 h7 h
    rw [if_pos this] at hL0 hE0; exact box ⟨hL0, hE0⟩
  have hno : ¬ words.all wordOk = true → Box (L0 = [] ∧ E0 = 1) := fun h => by
    have : ¬ repOk ⟨code, d, n, m, body, words, sums⟩ = true := fun h2 => h (repOk_iff h2).2.2.2.2.2.2.2
    rw [if_neg this] at hL0 hE0; exact box ⟨hL0, hE0⟩
  clear hL0 hE0
  replace hyes := box hyes
  replace hno := box hno
  replace hq := box hq
  replace hfit := box hfit
  replace hdl := box hdl
  replace hs32 := box hs32
  clear h3 h4
  have b1 : decide (code < 0) = false := by simp; omega
  have b2 : decide (255 < code) = false := by simp; omega
  have b3 : decide (1048576 < (body.length : Int)) = false := by simp; omega
  have b4 : decide (100 < (words.length : Int)) = false := by simp; omega
  have b5 : decide (4096 < (sums.length : Int)) = false := by simp; omega
  have hF0 := Fr.nil w
  go_enter Try.func16, Try.ntmps16
  go_wp2_with (first | ((with_reducible refine lst (by with_unfolding_all rfl) (wp_fbox hF0 (cs := (rpL (.int .i64 code) (d.map bv) (.int .i64 n) (.int .i64 m) (.slice A body.length c) (.slice B words.length cb) (.slice C sums.length cc))) rfl (by with_unfolding_all rfl) (by with_unfolding_all rfl) ?_)); intro w1 g1 hF1 hz1) | (with_reducible refine lst (by with_unfolding_all rfl) (wp_fld0 hF1 Try.underlying26 rfl (by with_unfolding_all exact ⟨_, rfl, rfl⟩) rfl ?_)) | (with_reducible refine lst (by with_unfolding_all rfl) (wp_fld0 hF1 Try.underlying3 rfl (by with_unfolding_all exact ⟨_, rfl, rfl⟩) (by first | exact hq.out.1 | exact hq.out.2.1) ?_)) | ((with_reducible refine lst (by with_unfolding_all rfl) (wp_fbsl T_int hF1 (vs := [.int .i64 n, .int .i64 m]) (by with_unfolding_all rfl) (by with_unfolding_all rfl) (by with_unfolding_all rfl) (by decide) (by simp [Value.cells]) ?_)); intro w2 g2 hF2 hz2))
  refine (fits_any _ 2 2 [n, m] w2 (by omega) hF2.rdOwn0).mono ?_
  rintro e w' ⟨rfl, rfl⟩
  rw [hfit.out]
  go_upto_region 3 with (first | (with_reducible refine lst (by with_unfolding_all rfl) (wp_fld1 hF2 Try.underlying23 rfl (by with_unfolding_all exact ⟨_, rfl, rfl⟩) hq.out.2.2.1 ?_)) | (with_reducible refine lst (by with_unfolding_all rfl) (wp_fld1 hF2 Try.underlying44 rfl (by with_unfolding_all exact ⟨_, rfl, rfl⟩) hq.out.2.2.2.1 ?_)) | (with_reducible refine lst (by with_unfolding_all rfl) (wp_fld1 hF2 Try.underlying49 rfl (by with_unfolding_all exact ⟨_, rfl, rfl⟩) hq.out.2.2.2.2 ?_)))
  obtain ⟨x, hx⟩ := byte_of (q := code) (by omega) (by omega)
  subst hx
  have hxw : IntKind.u8.wrap (x.toNat : Int) = (x.toNat : Int) := IntWalk.u8_in _ (by omega)
  go_cut [4] (fun s4 wx => ∃ v, s4 = v ∧ Fr [] w wx [Ent.bytes w.heap.size 5 v ([x] ++ d), .blk g1 51 (rpL (.int .i64 (x.toNat : Int)) (d.map bv) (.int .i64 n) (.int .i64 m) (.slice A body.length c) (.slice B words.length cb) (.slice C sums.length cc))])
  case first =>
    have hF2d := hF2.drew
    refine wp_region_held (S := fun w' => w'.heap[g1]? = some (.cells (List.toArray (rpL (.int .i64 (x.toNat : Int)) (d.map bv) (.int .i64 n) (.int .i64 m) (.slice A body.length c) (.slice B words.length cb) (.slice C sums.length cc))) 51 (0, 0))) (by kernel_rfl) ?_
    change wpAnyH _ _ _ _ _ _ _ _ (World.drew _)
    refine wpAnyH_take (i := 0) (v := ?_) (by simp only [List.getElem?_toArray, List.getElem?_cons_zero]; rfl) (by kernel_rfl) (by kernel_rfl) (by kernel_rfl) (by exact fun _ _ _ h => h) (Or.inl ⟨by with_unfolding_all rfl, ?_⟩) (hF2d.blk (i := 1) rfl) ?_
    rotate_left
    · (intro w hSw; (try dsimp only at hSw); go_simp; try with_reducible rfl)
    (try simp only [Act.put, List.setIfInBounds_toArray, List.set_cons_zero, List.set_cons_succ])
    refine wpAnyH_take (i := 1) (by simp only [List.getElem?_toArray, List.getElem?_cons_zero, List.getElem?_cons_succ]; rfl) (by kernel_rfl) (by kernel_rfl) (by kernel_rfl) (by exact fun _ _ _ h => h) (yi_fld (by with_unfolding_all rfl) (fun _ h => h) Try.underlying26 rfl (by with_unfolding_all exact ⟨_, rfl, rfl⟩) rfl) (hF2d.blk (i := 1) rfl) ?_
    (try simp only [Act.put, List.setIfInBounds_toArray, List.set_cons_zero, List.set_cons_succ])
    refine wpAnyH_take (i := 2) (v := ?_) (by simp only [List.getElem?_toArray, List.getElem?_cons_zero, List.getElem?_cons_succ]; rfl) (by kernel_rfl) (by kernel_rfl) (by kernel_rfl) (by exact fun _ _ _ h => h) (Or.inl ⟨by with_unfolding_all rfl, ?_⟩) (hF2d.blk (i := 1) rfl) ?_
    rotate_left
    · (intro w hSw; (try dsimp only at hSw); go_simp; try with_reducible rfl)
    (try simp only [Act.put, List.setIfInBounds_toArray, List.set_cons_zero, List.set_cons_succ])
    refine wpAnyH_take (i := 4) (v := ?_) (by simp only [List.getElem?_toArray, List.getElem?_cons_zero, List.getElem?_cons_succ]; rfl) (by kernel_rfl) (by kernel_rfl) (by kernel_rfl) (by exact fun _ _ _ h => h) (Or.inl ⟨by with_unfolding_all rfl, ?_⟩) (hF2d.blk (i := 1) rfl) ?_
    rotate_left
    · (intro w hSw; (try dsimp only at hSw); go_simp; try with_reducible rfl)
    (try simp only [Act.put, List.setIfInBounds_toArray, List.set_cons_zero, List.set_cons_succ])
    refine wpAnyH_take (i := 5) (v := ?_) (by simp only [List.getElem?_toArray, List.getElem?_cons_zero, List.getElem?_cons_succ]; rfl) (by kernel_rfl) (by kernel_rfl) (by kernel_rfl) (by exact fun _ _ _ h => h) (Or.inl ⟨by with_unfolding_all rfl, ?_⟩) (hF2d.blk (i := 1) rfl) ?_
    rotate_left
    · (intro w hSw; (try dsimp only at hSw); go_simp; try with_reducible rfl)
    (try simp only [Act.put, List.setIfInBounds_toArray, List.set_cons_zero, List.set_cons_succ])
    refine wpAnyH_ready (rs := [3]) (by kernel_rfl) (by simp) ?_
    refine AllReadyH.cons (by simp only [List.getElem?_toArray, List.getElem?_cons_zero, List.getElem?_cons_succ]; rfl) (fun K hK => ?_) ?_
    · refine stp (by with_unfolding_all rfl) (wp_fbsl T_u8 hF2d (vs := [bv x]) (by with_unfolding_all rfl) (by with_unfolding_all rfl) (by with_unfolding_all rfl) (by decide) (by simp [bv, Value.cells]) ?_)
      intro w11 g11 hF11 hz11
      refine hK.out _ _ ((hF11.blk (i := 2) rfl)) (fun _ => ?_)
      clear hK K
      (try simp only [Act.put, List.setIfInBounds_toArray, List.set_cons_zero, List.set_cons_succ])
      refine wpAnyH_ready (rs := [6]) (by kernel_rfl) (by simp) ?_
      refine AllReadyH.cons (by simp only [List.getElem?_toArray, List.getElem?_cons_zero, List.getElem?_cons_succ]; rfl) (fun K hK => ?_) ?_
      · refine stp (by with_unfolding_all rfl) (wp_fapp T_u8 hF11 (i := 0) (l := [x]) rfl (Nat.le_refl _) (hF11.rdBlk (i := 2) rfl (off := 1) (xs := (d.map bv)) hdl.out (rpL_dig hdl.out)) (by with_unfolding_all exact ⟨_, _, rfl, rfl, rfl⟩) (by simp only [List.length_cons, List.length_nil]; omega) ?_)
        intro v12 w12 hF12 hz12
        refine hK.out _ _ ((hF12.blk (i := 2) rfl)) (fun _ => ?_)
        clear hK K
        (try simp only [Act.put, List.setIfInBounds_toArray, List.set_cons_zero, List.set_cons_succ])
        refine wpAnyH_take (i := 7) (v := ?_) (by simp only [List.getElem?_toArray, List.getElem?_cons_zero, List.getElem?_cons_succ]; rfl) (by kernel_rfl) (by kernel_rfl) (by kernel_rfl) (by exact fun _ _ _ h => h) (Or.inl ⟨by with_unfolding_all rfl, ?_⟩) (hF12.blk (i := 2) rfl) ?_
        rotate_left
        · (intro w hSw; (try dsimp only at hSw); go_simp; try with_reducible rfl)
        (try simp only [Act.put, List.setIfInBounds_toArray, List.set_cons_zero, List.set_cons_succ])
        refine wpAnyH_done (by kernel_rfl) ?_ _
        go_wp2_with fail
        go_meet
        exact ⟨_, rfl, hF12.pick2 (i := 0) (j := 2) rfl rfl (by decide)⟩
      exact AllReadyH.nil
    exact AllReadyH.nil
  case rest =>
    obtain ⟨v4, rfl, hF3⟩ := hcut
    have hC := cntsL_len [n, m] (by intro k hk; simp at hk; rcases hk with rfl | rfl <;> omega)
    have hC2 : Box (∀ k ∈ [n, m], 0 ≤ k ∧ k ≤ 1099511627776) := box (by intro k hk; simp at hk; rcases hk with rfl | rfl <;> omega)
    have hC3 := cntsL_len [(words.length : Int)] (by intro k hk; simp at hk; subst hk; omega)
    have hC4 : Box (∀ k ∈ [(words.length : Int)], 0 ≤ k ∧ k ≤ 1099511627776) := box (by intro k hk; simp at hk; subst hk; omega)
    have hC5 := cntsL_len [(sums.length : Int)] (by intro k hk; simp at hk; subst hk; omega)
    have hC6 : Box (∀ k ∈ [(sums.length : Int)], 0 ≤ k ∧ k ≤ 1099511627776) := box (by intro k hk; simp at hk; subst hk; omega)
    have hT3 := textL_len body h5
    simp only [List.length_cons, List.length_nil] at hC hC3 hC5
    clear hxw hF0 hF1 hF2
    go_wp2_with (first | (with_reducible refine lst (by with_unfolding_all rfl) (wp_fld1 hF3 Try.underlying3 rfl (by with_unfolding_all exact ⟨_, rfl, rfl⟩) (by first | exact hq.out.1 | exact hq.out.2.1) ?_)) | ((with_reducible refine lst (by with_unfolding_all rfl) (wp_fbsl T_int hF3 (vs := [.int .i64 n, .int .i64 m]) (by with_unfolding_all rfl) (by with_unfolding_all rfl) (by with_unfolding_all rfl) (by decide) (by simp [Value.cells]) ?_)); intro w4 g4 hF4 hz4))
    have room4 : ([x] ++ d).length ≤ 100000000 := by simp only [List.length_append, List.length_cons, List.length_nil]; omega
    refine (counts_any w.heap.size _ _ _ 2 2 [n, m] w4 hF4.bytes1 hF4.size room4 (by omega) (hF4.rdNe (i := 0) (j := 1) rfl rfl (by decide)) hC2).mono ?_
    rintro e w5 ⟨v5, rfl, ho5, hg5, hv5⟩
    have hF5 := (hF4.putB1 hg5 ho5 hv5.out).tail
    have room5 : ([x] ++ d ++ cntsL [n, m]).length + (textL body).length ≤ 140737488355328 := by simp only [List.length_append, List.length_cons, List.length_nil]; omega
    have room6 : ([x] ++ d ++ cntsL [n, m] ++ textL body).length ≤ 100000000 := by simp only [List.length_append, List.length_cons, List.length_nil]; omega
    go_wp2_with (first | (with_reducible refine lst (by with_unfolding_all rfl) (wp_fld1 hF5 Try.underlying23 rfl (by with_unfolding_all exact ⟨_, rfl, rfl⟩) hq.out.2.2.1 ?_)))
    refine (text_any A body.length c body w5 (by omega) (hF5.rdOld hr)).mono ?_
    rintro e w6 ⟨v6, rfl, ho6, hb6⟩
    obtain ⟨A6, c6, rfl, _, hr6⟩ := ho6.arg
    have hF6 := hF5.call hb6
    clear hF3 hF4 hF5 hb6 ho6 ho5 hg5 hv5
    go_wp2_with (first | ((with_reducible refine lst (by with_unfolding_all rfl) (wp_fapp0 T_u8 hF6 (Nat.le_refl _) hr6 (by with_unfolding_all exact ⟨_, _, rfl, rfl, rfl⟩) room5 ?_)); intro v7 w7 hF7 hz7) | (with_reducible refine lst (by with_unfolding_all rfl) (wp_fld1 hF7 Try.underlying44 rfl (by with_unfolding_all exact ⟨_, rfl, rfl⟩) hq.out.2.2.2.1 ?_)) | ((with_reducible refine lst (by with_unfolding_all rfl) (wp_fbsl T_int hF7 (vs := [.int .i64 (words.length : Int)]) (by with_unfolding_all rfl) (by with_unfolding_all rfl) (by with_unfolding_all rfl) (by decide) (by simp [Value.cells]) ?_)); intro w8 g8 hF8 hz8))
    refine (counts_any w.heap.size v7 _ _ 1 1 [(words.length : Int)] w8 hF8.bytes1 hF8.size room6 (by omega) (hF8.rdNe (i := 0) (j := 1) rfl rfl (by decide)) hC4).mono ?_
    rintro e w9 ⟨v9, rfl, ho9, hg9, hv9⟩
    have hF9 := (hF8.putB1 hg9 ho9 hv9.out).tail
    clear hF7 hF8 ho9 hg9 hv9
    obtain ⟨L, hL⟩ : ∃ L, L = [x] ++ d ++ cntsL [n, m] ++ textL body ++ cntsL [(words.length : Int)] := ⟨_, rfl⟩
    rw [← hL] at hF9
    have hLl : L.length ≤ 2000000 := by rw [hL]; simp only [List.length_append, List.length_cons, List.length_nil]; omega
    replace hL := box hL
    go_wp2_with (first | (with_reducible refine lst (by with_unfolding_all rfl) (wp_fld1 hF9 Try.underlying44 rfl (by with_unfolding_all exact ⟨_, rfl, rfl⟩) hq.out.2.2.2.1 ?_)))
    go_loopw [4, 72] (fun q i wr => ∃ (k : Nat) (v' : Value), k ≤ words.length ∧ i = .int .i64 k ∧ q = v' ∧ Box ((words.take k).all wordOk = true) ∧ Fr [] w wr [Ent.bytes w.heap.size 5 v' (L ++ wordsB (words.take k)), .blk g1 51 (rpL (.int .i64 (x.toNat : Int)) (d.map bv) (.int .i64 n) (.int .i64 m) (.slice A body.length c) (.slice B words.length cb) (.slice C sums.length cc))]) (fun _ i _ => words.length - (intOf i).toNat)
    case atStart => exact ⟨0, _, by omega, rfl, rfl, box rfl, by rw [List.take_zero, wordsB, List.append_nil]; exact hF9⟩
    case round =>
      clear hF9
      obtain ⟨k, v', hk, rfl, rfl, HB, hF⟩ := hrel
      have hrw' := hF.rdOld hrw
      by_cases hlt : k < words.length
      · obtain ⟨u, hu⟩ : ∃ u, words[k]? = some u := ⟨words[k]'(by omega), by simp⟩
        have hu2 : (words.map Value.string)[k]? = some (.string u) := by simp [hu]
        have hT := take_snoc hu
        replace hu := box hu
        replace hu2 := box hu2
        replace hT := box hT
        by_cases hok : u.size ≤ 128
        · have hok2 : Box (wordOk u = true) := box (by simp [wordOk, hok])
          have hHl := wordsB_len _ HB.out
          have hT2 := textL_len u.data.toList (by rw [str_len]; omega)
          rw [str_len] at hT2
          have hrm : (L ++ wordsB (words.take k)).length + (textL u.data.toList).length ≤ 140737488355328 := by rw [List.length_append]; have : (words.take k).length ≤ k := List.length_take_le _ _; omega
          clear hHl hT2
          go_wp2_with (first | (with_reducible refine lst (by with_unfolding_all rfl) (wp_indexAddr T_str hrw' (by with_unfolding_all exact ⟨_, _, _, _, rfl, rfl, rfl⟩) (by omega) (by omega) ?_)) | (with_reducible refine lst (by with_unfolding_all rfl) (wp_load1C hrw' hu2 Try.underlying9 rfl (by with_unfolding_all exact ⟨_, rfl, rfl⟩) (by first | (simp; done) | (simp; omega) | omega) ?_)) | ((with_reducible refine lst (by with_unfolding_all rfl) (wp_fs2b T_u8 Try.underlying5 Try.underlying9 hF (by with_unfolding_all exact ⟨_, rfl, rfl⟩) ?_)); intro w2 g2 c2 hF2 hz2 hc2))
          refine (text_any _ _ _ u.data.toList _ (by omega) hF2.rd0).mono ?_
          rintro e w5 ⟨v5, rfl, ho5, hb5⟩
          obtain ⟨A5, c5, rfl, _, hr5⟩ := ho5.arg
          have hF5 := hF2.tail.call hb5
          go_wp2_with (first | ((with_reducible refine lst (by with_unfolding_all rfl) (wp_fapp0 T_u8 hF5 (Nat.le_refl _) hr5 (by with_unfolding_all exact ⟨_, _, rfl, rfl, rfl⟩) hrm ?_)); intro v6 w6 hF6 hz6))
          go_roundw
          case rel => exact ⟨k + 1, _, by omega, by go_num, rfl, box (by rw [hT.out, List.all_append, HB.out]; simp [hok2.out]), by rw [hT.out, wordsB_snoc, ← List.append_assoc]; exact hF6⟩
          case measure => simp [intOf]; omega
        · have hbad := hno.out (fun h => by
            have := List.all_eq_true.1 h u (List.mem_of_getElem? hu.out)
            simp [wordOk] at this; omega)
          have b9 : decide (128 < (u.size : Int)) = true := by simp; omega
          go_wp2_with (first | (with_reducible refine lst (by with_unfolding_all rfl) (wp_indexAddr T_str hrw' (by with_unfolding_all exact ⟨_, _, _, _, rfl, rfl, rfl⟩) (by omega) (by omega) ?_)) | (with_reducible refine lst (by with_unfolding_all rfl) (wp_load1C hrw' hu2 Try.underlying9 rfl (by with_unfolding_all exact ⟨_, rfl, rfl⟩) (by first | (simp; done) | (simp; omega) | omega) ?_)))
          go_ret2
          rw [hbad.out.1, hbad.out.2]
          exact ⟨_, rfl, OwnB.nil _ _ _, hF.below⟩
      · rw [List.take_of_length_le (by omega)] at HB hF
        have hgood := hyes.out HB.out
        have hHl := wordsB_len _ HB.out
        have room7 : (L ++ wordsB words).length ≤ 100000000 := by rw [List.length_append]; omega
        go_wp2_with (first | (with_reducible refine lst (by with_unfolding_all rfl) (wp_fld1 hF Try.underlying49 rfl (by with_unfolding_all exact ⟨_, rfl, rfl⟩) hq.out.2.2.2.2 ?_)) | ((with_reducible refine lst (by with_unfolding_all rfl) (wp_fbsl T_int hF (vs := [.int .i64 (sums.length : Int)]) (by with_unfolding_all rfl) (by with_unfolding_all rfl) (by with_unfolding_all rfl) (by decide) (by simp [Value.cells]) ?_)); intro w2 g2 hF2 hz2))
        refine (counts_any w.heap.size _ _ _ 1 1 [(sums.length : Int)] w2 hF2.bytes1 hF2.size room7 (by omega) (hF2.rdNe (i := 0) (j := 1) rfl rfl (by decide)) hC6).mono ?_
        rintro e w3 ⟨v3, rfl, ho3, hg3, hv3⟩
        have hF3 := (hF2.putB1 hg3 ho3 hv3.out).tail
        clear hF hF2 ho3 hg3 hv3 HB
        obtain ⟨M, hM⟩ : ∃ M, M = L ++ wordsB words ++ cntsL [(sums.length : Int)] := ⟨_, rfl⟩
        rw [← hM] at hF3
        have hMl : M.length ≤ 3000000 := by rw [hM]; simp only [List.length_append]; omega
        replace hM := box hM
        clear room7 hHl
        go_wp2_with (first | (with_reducible refine lst (by with_unfolding_all rfl) (wp_fld1 hF3 Try.underlying49 rfl (by with_unfolding_all exact ⟨_, rfl, rfl⟩) hq.out.2.2.2.2 ?_)))
        go_loopw [4, 94] (fun q i wr => ∃ (k : Nat) (v' : Value), k ≤ sums.length ∧ i = .int .i64 k ∧ q = v' ∧ Fr [] w wr [Ent.bytes w.heap.size 5 v' (M ++ (sums.take k).flatten), .blk g1 51 (rpL (.int .i64 (x.toNat : Int)) (d.map bv) (.int .i64 n) (.int .i64 m) (.slice A body.length c) (.slice B words.length cb) (.slice C sums.length cc))]) (fun _ i _ => sums.length - (intOf i).toNat)
        case atStart => exact ⟨0, _, by omega, rfl, rfl, by rw [List.take_zero, List.flatten_nil, List.append_nil]; exact hF3⟩
        case round =>
          clear hF3
          obtain ⟨k, v', hk, rfl, rfl, hF⟩ := hrel
          have hrs' := hF.rdOld hrs
          by_cases hlt : k < sums.length
          · obtain ⟨u, hu⟩ : ∃ u, sums[k]? = some u := ⟨sums[k]'(by omega), by simp⟩
            have hul : Box ((u.map bv).length = 32) := box (by rw [List.length_map]; exact hs32.out u (List.mem_of_getElem? hu))
            have hcut := box (sumC_at hs32.out hu)
            have hT := take_snoc hu
            have hkl := sums_len (l := sums.take k) (fun s hs => hs32.out s (List.mem_of_mem_take hs))
            have hrm : (M ++ (sums.take k).flatten).length + 32 ≤ 140737488355328 := by rw [List.length_append, hkl]; have : (sums.take k).length ≤ k := List.length_take_le _ _; omega
            clear hkl
            replace hu := box hu
            replace hT := box hT
            have hz := box zeros_len
            go_wp2_with (first | (with_reducible refine lst (by with_unfolding_all rfl) (wp_indexAddr T_digs hrs' (by with_unfolding_all exact ⟨_, _, _, _, rfl, rfl, rfl⟩) (by omega) (by omega) ?_)) | (with_reducible refine lst (by with_unfolding_all rfl) (wp_loadA hrs' Try.underlying29 rfl (by with_unfolding_all exact ⟨_, rfl, rfl⟩) (ds := (u.map bv)) (by rw [hul.out]; kernel_rfl) hcut.out ?_)) | ((with_reducible refine lst (by with_unfolding_all rfl) (wp_falloc hF (cs := (zeros.map bv)) (z := .agg (List.toArray ((zeros.map bv)))) rfl (by kernel_rfl) (by with_unfolding_all rfl) ?_)); intro w2 g2 hF2 hz2) | ((with_reducible refine lst (by with_unfolding_all rfl) (wp_fstA0 hF2 (by with_unfolding_all exact ⟨_, _, rfl, rfl, rfl⟩) (by rw [hul.out]; kernel_rfl) (bv_one _) (by rw [hul.out, hz.out]; omega) (spl_all (by rw [hul.out, hz.out])) ?_)); intro w3 hF3 hz3) | ((with_reducible refine lst (by with_unfolding_all rfl) (wp_fapp1 T_u8 hF3 (Nat.le_refl _) (hF3.rdBlk0 (off := 0) (xs := u.map bv) hul.out (by rw [List.drop_zero]; exact List.take_of_length_le (by rw [hul.out]; omega))) (by with_unfolding_all exact ⟨_, _, rfl, rfl, rfl⟩) hrm ?_)); intro v4 w4 hF4 hz4))
            go_roundw
            case rel => exact ⟨k + 1, _, by omega, by go_num, rfl, by rw [hT.out, sums_snoc, ← List.append_assoc]; exact hF4.tail⟩
            case measure => simp [intOf]; omega
          · rw [List.take_of_length_le (by omega)] at hF
            go_wp2
            go_ret2
            rw [hgood.out.1, hgood.out.2]
            refine ⟨_, rfl, ?_, hF.below⟩
            have hfin : repB ⟨(x.toNat : Int), d, n, m, body, words, sums⟩ = M ++ sums.flatten := by
              rw [hM.out, hL.out]; simp [repB, cntsL]
            rw [hfin]
            exact hF.bytes0
end Go.Proofs.Ytcnjnkkdidpjiaa
