/-
  Layer 19: the walk that turns a reply of the program's into one of the document's.
  The walk of the document's Twin.
-/
import Derived.Test.YtcnjnkkdidpjiaaJ13
import Derived.Test.YtcnjnkkdidpjiaaJ02
namespace Go.Proofs.Ytcnjnkkdidpjiaa
open Go.RowKit

/-- What FromReply hands back. -/
def FromRep (w : World) (td : TypeId) (r : Rep) (A B : Option Addr) (c cb : Nat) (e : Ending) (w' : World) : Prop :=
  ∃ C' d', e = .returned (.agg (r.cells A B C' c cb d').toArray) ∧ Fr [] w w' [.own w.heap.size td 32 (.slice C' r.sums.length d') r.sums.length (sumC r.sums)]

set_option maxRecDepth 20000 in
set_option maxHeartbeats 3200000 in
theorem fromRep_any (r : Rep) (A B C : Option Addr) (c cb cc : Nat) (w : World) (hR : RepRd w r A B C) (hms : r.sums.length ≤ 1000000000) :
    Calls Try.prog 22 #[.agg (r.cells A B C c cb cc).toArray] w (FromRep w 22 r A B c cb) := by
  obtain ⟨code, d, n, m, body, words, sums⟩ := r
  obtain ⟨hd, hr, hrw, hrs, hs32⟩ := hR
  simp only [Rep.cells] at *
  have hdl : (d.map bv).length = 32 := by simpa using hd
  have hq := rpL_at (a := (Value.int .i64) code) (e := (Value.int .i64) n) (f := (Value.int .i64) m) (g := .slice A body.length c) (h := .slice B words.length cb) (i := .slice C sums.length cc) hdl
  have hq2 := fun C' k d' => rpL_at (a := (Value.int .i64) code) (e := (Value.int .i64) n) (f := (Value.int .i64) m) (g := .slice A body.length c) (h := .slice B words.length cb) (i := .slice C' k d') hdl
  replace hq := box hq
  replace hq2 := box hq2
  replace hdl := box hdl
  replace hs32 := box hs32
  have hz0 := box zeros_len
  have hF0 := Fr.nil w
  clear hr hrw
  go_enter Try.func22, Try.ntmps22
  go_wp2_with (first | ((with_reducible refine lst (by with_unfolding_all rfl) (wp_fbox hF0 (cs := (rpL (.int .i64 code) (d.map bv) (.int .i64 n) (.int .i64 m) (.slice A body.length c) (.slice B words.length cb) (.slice C sums.length cc))) rfl (by with_unfolding_all rfl) (by with_unfolding_all rfl) ?_)); intro w1 g1 hF1 hz1) | ((with_reducible refine lst (by with_unfolding_all rfl) (wp_falloc hF1 (cs := rp0) (z := .agg (List.toArray (rp0))) rfl (by kernel_rfl) (by with_unfolding_all rfl) ?_)); intro w2 g2 hF2 hz2) | (with_reducible refine lst (by with_unfolding_all rfl) (wp_fld1 hF2 Try.underlying26 rfl (by with_unfolding_all exact ⟨_, rfl, rfl⟩) rfl ?_)) | (with_reducible refine lst (by with_unfolding_all rfl) (wp_fld1 hF2 Try.underlying3 rfl (by with_unfolding_all exact ⟨_, rfl, rfl⟩) (by first | exact hq.out.1 | exact hq.out.2.1) ?_)) | (with_reducible refine lst (by with_unfolding_all rfl) (wp_fld1 hF2 Try.underlying23 rfl (by with_unfolding_all exact ⟨_, rfl, rfl⟩) hq.out.2.2.1 ?_)) | (with_reducible refine lst (by with_unfolding_all rfl) (wp_fld1 hF2 Try.underlying44 rfl (by with_unfolding_all exact ⟨_, rfl, rfl⟩) hq.out.2.2.2.1 ?_)) | (with_reducible refine lst (by with_unfolding_all rfl) (wp_fldA1 hF2 Try.underlying29 rfl (by with_unfolding_all exact ⟨_, rfl, rfl⟩) (ds := (d.map bv)) (by rw [hdl.out]; kernel_rfl) (rpL_dig rfl) ?_)) | (with_reducible refine lst (by with_unfolding_all rfl) (wp_fbuild Try.underlying47 (z := .agg (List.toArray rp0)) (by kernel_rfl) (pl := rpP) (by kernel_rfl) (cs := (rpL (.int .i64 code) (d.map bv) (.int .i64 n) (.int .i64 m) (.slice A body.length c) (.slice B words.length cb) (.slice none 0 0))) rfl (vs := [(0, .int .i64 code), (1, .agg (d.map bv).toArray), (2, .int .i64 n), (3, .int .i64 m), (4, .slice A body.length c), (5, .slice B words.length cb)]) (by with_unfolding_all rfl) (by with_unfolding_all exact rp_fill hdl.out rfl rfl rfl rfl rfl) ?_)) | ((with_reducible refine lst (by with_unfolding_all rfl) (wp_falloc hF2 (cs := rp0) (z := .agg (List.toArray (rp0))) rfl (by kernel_rfl) (by with_unfolding_all rfl) ?_)); intro w3 g3 hF3 hz3) | ((with_reducible refine lst (by with_unfolding_all rfl) (wp_fstA0 hF3 (by with_unfolding_all exact ⟨_, _, rfl, rfl, rfl⟩) (by rw [rpL_length hdl.out]; kernel_rfl) (rpL_one (bv_one _) rfl rfl rfl rfl rfl rfl) (by rw [rpL_length hdl.out, rp0, rpL_length hz0.out]; omega) (spl_all (by rw [rpL_length hdl.out, rp0, rpL_length hz0.out])) ?_)); intro w4 hF4 hz4) | (with_reducible refine lst (by with_unfolding_all rfl) (wp_fld2 hF4 Try.underlying49 rfl (by with_unfolding_all exact ⟨_, rfl, rfl⟩) hq.out.2.2.2.2 ?_)))
  have hFw := hF4.none_ w.heap.size 22 32
  go_loopw [22] (fun i wr => ∃ (k : Nat) (C' : Option Addr) (d' : Nat), k ≤ sums.length ∧ i = .int .i64 k ∧ Fr [] w wr [.own w.heap.size 22 32 (.slice C' k d') k (sumC (sums.take k)), .blk g3 47 (rpL (.int .i64 code) (d.map bv) (.int .i64 n) (.int .i64 m) (.slice A body.length c) (.slice B words.length cb) (.slice C' k d')), .blk g2 47 rp0, .blk g1 51 (rpL (.int .i64 code) (d.map bv) (.int .i64 n) (.int .i64 m) (.slice A body.length c) (.slice B words.length cb) (.slice C sums.length cc))]) (fun i _ => sums.length - (intOf i).toNat)
  case atStart => exact ⟨0, none, 0, by omega, rfl, hFw⟩
  case round =>
    clear hFw hF4 hF3 hF2 hF1 hF0
    obtain ⟨k, C', d', hk, rfl, hF⟩ := hrel
    have hrs' := hF.rdOld hrs
    by_cases hlt : k < sums.length
    · obtain ⟨u, hu⟩ : ∃ u, sums[k]? = some u := ⟨sums[k]'(by omega), by simp⟩
      have hul : Box ((u.map bv).length = 32) := box (by rw [List.length_map]; exact hs32.out u (List.mem_of_getElem? hu))
      have hcut := box (sumC_at hs32.out hu)
      have hT := box (take_snoc hu)
      replace hu := box hu
      go_wp2_with (first | (with_reducible refine lst (by with_unfolding_all rfl) (wp_indexAddr T_digs hrs' (by with_unfolding_all exact ⟨_, _, _, _, rfl, rfl, rfl⟩) (by omega) (by omega) ?_)) | (with_reducible refine lst (by with_unfolding_all rfl) (wp_loadA hrs' Try.underlying29 rfl (by with_unfolding_all exact ⟨_, rfl, rfl⟩) (ds := (u.map bv)) (by rw [hul.out]; kernel_rfl) hcut.out ?_)) | ((with_reducible refine lst (by with_unfolding_all rfl) (wp_falloc hF (cs := (zeros.map bv)) (z := .agg (List.toArray ((zeros.map bv)))) rfl (by kernel_rfl) (by with_unfolding_all rfl) ?_)); intro w2 g2 hF2 hz2) | ((with_reducible refine lst (by with_unfolding_all rfl) (wp_fstA0 hF2 (by with_unfolding_all exact ⟨_, _, rfl, rfl, rfl⟩) (by rw [hul.out]; kernel_rfl) (bv_one _) (by rw [hul.out, hz0.out]; omega) (spl_all (by rw [hul.out, hz0.out])) ?_)); intro w3 hF3 hz3) | (with_reducible refine lst (by with_unfolding_all rfl) (wp_fld2 hF3 Try.underlying45 rfl (by with_unfolding_all exact ⟨_, rfl, rfl⟩) (hq2.out _ _ _).2.2.2.2 ?_)) | (with_reducible refine lst (by with_unfolding_all rfl) (wp_fldA0 hF3 Try.underlying29 rfl (by with_unfolding_all exact ⟨_, rfl, rfl⟩) (ds := (u.map bv)) (by rw [hul.out]; kernel_rfl) (take_all _) ?_)) | ((with_reducible refine lst (by with_unfolding_all rfl) (wp_fbs1 T_sums hF3 (by with_unfolding_all rfl) (ds := (u.map bv)) (by with_unfolding_all rfl) hul.out (by decide) ?_)); intro w4 g4 hF4 hz4) | ((with_reducible refine lst (by with_unfolding_all rfl) (wp_fappG T_sums hF4 (i := 2) rfl (Nat.le_refl _) hF4.rdOwn0 (bv_one _) (by with_unfolding_all exact ⟨_, _, rfl, rfl, rfl⟩) (by unfold maxLen; omega) (by omega) ?_)); intro v5 w5 hF5 hz5; simp only [List.set_cons_zero, List.set_cons_succ] at hF5; obtain ⟨A5, c5, rfl, hc5⟩ := hF5.ownParts (i := 2) rfl) | ((with_reducible refine lst (by with_unfolding_all rfl) (wp_fst3 hF5 (by with_unfolding_all exact ⟨_, _, rfl, rfl, rfl⟩) (by kernel_rfl) rfl rfl (by rw [rpL_length hdl.out]; omega) (rpL_37 (v := .slice A5 (k + 1) c5) hdl.out) ?_)); intro w6 hF6 hz6))
      go_roundw
      case rel => exact ⟨k + 1, A5, c5, by omega, by go_num, by have h := hF6.tail.tail; rw [hT.out, sumC_snoc]; exact h⟩
      case measure => simp [intOf]; omega
    · obtain rfl : k = sums.length := by omega
      rw [List.take_of_length_le (Nat.le_refl _)] at hF
      go_wp2_with (first | (with_reducible refine lst (by with_unfolding_all rfl) (wp_fldA1 hF Try.underlying47 rfl (by with_unfolding_all exact ⟨_, rfl, rfl⟩) (ds := (rpL (.int .i64 code) (d.map bv) (.int .i64 n) (.int .i64 m) (.slice A body.length c) (.slice B words.length cb) (.slice C' sums.length d'))) (by rw [rpL_length hdl.out]; kernel_rfl) (take_all _) ?_)) | ((with_reducible refine lst (by with_unfolding_all rfl) (wp_fstA2 hF (by with_unfolding_all exact ⟨_, _, rfl, rfl, rfl⟩) (by rw [rpL_length hdl.out]; kernel_rfl) (rpL_one (bv_one _) rfl rfl rfl rfl rfl rfl) (by rw [rpL_length hdl.out, rp0, rpL_length hz0.out]; omega) (spl_all (by rw [rpL_length hdl.out, rp0, rpL_length hz0.out])) ?_)); intro w7 hF7 hz7))
      refine bodyPost_ret (results_cellF_2 hF7 rfl _ rfl Try.underlying47 rfl (by rw [rpL_length hdl.out]; kernel_rfl)) rfl ?_
      exact ⟨C', d', rfl, hF7.pick1 (i := 0) rfl⟩
end Go.Proofs.Ytcnjnkkdidpjiaa

namespace Go.Proofs.Ytcnjnkkdidpjiaa
open Go.RowKit

set_option maxRecDepth 20000 in
set_option maxHeartbeats 400000 in
theorem twin_any (A : Option Addr) (n c : Nat) (l : List UInt8) (w : World) (hm : n ≤ 140737488355327) (hr : Rd w (· < w.heap.size) A 1 n (l.map bv)) :
    Calls Try.prog 26 #[.slice A n c] w fun e w' => ∃ v, e = .returned v ∧ OwnB w' w.heap.size 5 v l ∧ Below w.heap.size w w' := by
  have hl := box hr.bytes_len
  go_enter Try.func26, Try.ntmps26
  go_wp2
  go_loopw [3, 4] (fun v i wr => ∃ k : Nat, k ≤ n ∧ i = .int .i64 k ∧ OwnB wr w.heap.size 5 v (l.take k) ∧ Below w.heap.size w wr ∧ w.heap.size ≤ wr.heap.size) (fun _ i _ => n - (intOf i).toNat)
  case atStart => exact ⟨0, by omega, rfl, OwnB.nil _ _ _, Below.refl _ _, Nat.le_refl _⟩
  case round =>
    obtain ⟨k, hk, rfl, hown, hb, hB⟩ := hrel
    have hr' := hr.below hb
    have hroom : (l.take k).length + 1 ≤ 140737488355328 := by rw [List.length_take]; omega
    by_cases hlt : k < n
    · go_wp2_with (first | (at_builtin; go_must (with_reducible refine lst (by with_unfolding_all rfl) (wp_appB1 T_u8 hown hb (by with_unfolding_all exact ⟨_, _, rfl, rfl, rfl⟩) hroom hB ?_ ?_); exact byte_of (by omega) (by omega); intro v' w1 c hc hown1 hb1 hB1)) | (with_reducible refine lst (by with_unfolding_all rfl) (wp_indexAddr T_u8 hr' (by with_unfolding_all exact ⟨_, _, _, _, rfl, rfl, rfl⟩) (by omega) (by omega) ?_)) | ((with_reducible refine lst (by with_unfolding_all rfl) (wp_loadB hr' Try.underlying5 rfl (by with_unfolding_all exact ⟨_, rfl, rfl⟩) (by omega) ?_)); intro d hd; (try simp only [Int.toNat_natCast, Nat.mul_one] at hd); replace hd := box hd; have dlt : d.toNat < 256 := d.toNat_lt))
      go_roundw
      have hcd := byte_eq hc
      subst hcd
      case rel => exact ⟨k + 1, by omega, by go_num, by rw [take_snoc hd.out]; exact hown1, hb1, hB1⟩
      case measure => simp [intOf]; omega
    · go_wp2
      go_ret
      exact ⟨_, rfl, by rw [List.take_of_length_le (by have := hl.out; omega)] at hown; exact hown, hb⟩
end Go.Proofs.Ytcnjnkkdidpjiaa
