/-
  Layer 19: the walk of EncodeReply, where there are no bytes.
  Layer 19: the walk of the document's sum behind bytes.
  The walk of the document's Count.
  The walk of the document's Text.
-/
import Derived.Test.YtcnjnkkdidpjiaaJ08
import Derived.Test.YtcnjnkkdidpjiaaJ06
import Derived.Test.YtcnjnkkdidpjiaaJ02
namespace Go.Proofs.Ytcnjnkkdidpjiaa
open Go.RowKit

set_option maxRecDepth 20000 in
set_option maxHeartbeats 3200000 in
theorem encRep_any (r : Rep) (A B C : Option Addr) (c cb cc : Nat) (w : World) (hR : RepRd w r A B C) :
    Calls Try.prog 16 #[.agg (r.cells A B C c cb cc).toArray] w (Told w 5 (if repOk r = true then repB r else []) (if repOk r = true then 0 else 1)) := by
  obtain ⟨code, d, n, m, body, words, sums⟩ := r
  have hd := hR.d
  simp only [Rep.cells] at *
  have hdl : (d.map bv).length = 32 := by simpa using hd
  have hq := rpL_at (a := (Value.int .i64) code) (e := (Value.int .i64) n) (f := (Value.int .i64) m) (g := .slice A body.length c) (h := .slice B words.length cb) (i := .slice C sums.length cc) hdl
  replace hq := box hq
  replace hdl := box hdl
  have hF0 := Fr.nil w
  have hnot : Box (repOk ⟨code, d, n, m, body, words, sums⟩ = true → 0 ≤ code ∧ code ≤ 255 ∧ [n, m].all numB = true ∧ body.length ≤ 1048576 ∧ words.length ≤ 100 ∧ sums.length ≤ 4096) := box fun h => by
    have := repOk_iff h
    simp only [] at this
    exact ⟨this.1, this.2.1, by simp [this.2.2.1, this.2.2.2.1], this.2.2.2.2.1, this.2.2.2.2.2.1, this.2.2.2.2.2.2.1⟩
  replace hR := box hR
  by_cases kb1 : code < 0
  · have b1 : decide (code < 0) = true := by simpa using kb1
    have hno : ¬ repOk ⟨code, d, n, m, body, words, sums⟩ = true := fun h => by have h2 := hnot.out h; omega
    rw [if_neg hno, if_neg hno]
    clear hno hnot
    go_enter Try.func16, Try.ntmps16
    go_wp2_with (first | ((with_reducible refine lst (by with_unfolding_all rfl) (wp_fbox hF0 (cs := (rpL (.int .i64 code) (d.map bv) (.int .i64 n) (.int .i64 m) (.slice A body.length c) (.slice B words.length cb) (.slice C sums.length cc))) rfl (by with_unfolding_all rfl) (by with_unfolding_all rfl) ?_)); intro w1 g1 hF1 hz1) | (with_reducible refine lst (by with_unfolding_all rfl) (wp_fld0 hF1 Try.underlying26 rfl (by with_unfolding_all exact ⟨_, rfl, rfl⟩) rfl ?_)) | (with_reducible refine lst (by with_unfolding_all rfl) (wp_fld0 hF1 Try.underlying3 rfl (by with_unfolding_all exact ⟨_, rfl, rfl⟩) (by first | exact hq.out.1 | exact hq.out.2.1) ?_)) | ((with_reducible refine lst (by with_unfolding_all rfl) (wp_fbsl T_int hF1 (vs := [.int .i64 n, .int .i64 m]) (by with_unfolding_all rfl) (by with_unfolding_all rfl) (by with_unfolding_all rfl) (by decide) (by simp [Value.cells]) ?_)); intro w2 g2 hF2 hz2))
    go_ret2
    exact ⟨_, rfl, OwnB.nil _ _ _, hF1.below⟩
  have b1 : decide (code < 0) = false := by simpa using kb1
  by_cases kb2 : 255 < code
  · have b2 : decide (255 < code) = true := by simpa using kb2
    have hno : ¬ repOk ⟨code, d, n, m, body, words, sums⟩ = true := fun h => by have h2 := hnot.out h; omega
    rw [if_neg hno, if_neg hno]
    clear hno hnot
    go_enter Try.func16, Try.ntmps16
    go_wp2_with (first | ((with_reducible refine lst (by with_unfolding_all rfl) (wp_fbox hF0 (cs := (rpL (.int .i64 code) (d.map bv) (.int .i64 n) (.int .i64 m) (.slice A body.length c) (.slice B words.length cb) (.slice C sums.length cc))) rfl (by with_unfolding_all rfl) (by with_unfolding_all rfl) ?_)); intro w1 g1 hF1 hz1) | (with_reducible refine lst (by with_unfolding_all rfl) (wp_fld0 hF1 Try.underlying26 rfl (by with_unfolding_all exact ⟨_, rfl, rfl⟩) rfl ?_)) | (with_reducible refine lst (by with_unfolding_all rfl) (wp_fld0 hF1 Try.underlying3 rfl (by with_unfolding_all exact ⟨_, rfl, rfl⟩) (by first | exact hq.out.1 | exact hq.out.2.1) ?_)) | ((with_reducible refine lst (by with_unfolding_all rfl) (wp_fbsl T_int hF1 (vs := [.int .i64 n, .int .i64 m]) (by with_unfolding_all rfl) (by with_unfolding_all rfl) (by with_unfolding_all rfl) (by decide) (by simp [Value.cells]) ?_)); intro w2 g2 hF2 hz2))
    go_ret2
    exact ⟨_, rfl, OwnB.nil _ _ _, hF1.below⟩
  have b2 : decide (255 < code) = false := by simpa using kb2
  by_cases kfit : [n, m].all numB = true
  rotate_left
  · have hfit : [n, m].all numB = false := by simpa using kfit
    replace hfit := box hfit
    have hno : ¬ repOk ⟨code, d, n, m, body, words, sums⟩ = true := fun h => by have h2 := hnot.out h; exact kfit h2.2.2.1
    rw [if_neg hno, if_neg hno]
    clear hno hnot
    clear kfit
    go_enter Try.func16, Try.ntmps16
    go_wp2_with (first | ((with_reducible refine lst (by with_unfolding_all rfl) (wp_fbox hF0 (cs := (rpL (.int .i64 code) (d.map bv) (.int .i64 n) (.int .i64 m) (.slice A body.length c) (.slice B words.length cb) (.slice C sums.length cc))) rfl (by with_unfolding_all rfl) (by with_unfolding_all rfl) ?_)); intro w1 g1 hF1 hz1) | (with_reducible refine lst (by with_unfolding_all rfl) (wp_fld0 hF1 Try.underlying26 rfl (by with_unfolding_all exact ⟨_, rfl, rfl⟩) rfl ?_)) | (with_reducible refine lst (by with_unfolding_all rfl) (wp_fld0 hF1 Try.underlying3 rfl (by with_unfolding_all exact ⟨_, rfl, rfl⟩) (by first | exact hq.out.1 | exact hq.out.2.1) ?_)) | ((with_reducible refine lst (by with_unfolding_all rfl) (wp_fbsl T_int hF1 (vs := [.int .i64 n, .int .i64 m]) (by with_unfolding_all rfl) (by with_unfolding_all rfl) (by with_unfolding_all rfl) (by decide) (by simp [Value.cells]) ?_)); intro w2 g2 hF2 hz2))
    refine (fits_any _ 2 2 [n, m] w2 (by omega) hF2.rdOwn0).mono ?_
    rintro e w' ⟨rfl, rfl⟩
    rw [hfit.out]
    go_wp2_with (first | (with_reducible refine lst (by with_unfolding_all rfl) (wp_fld1 hF2 Try.underlying23 rfl (by with_unfolding_all exact ⟨_, rfl, rfl⟩) hq.out.2.2.1 ?_)) | (with_reducible refine lst (by with_unfolding_all rfl) (wp_fld1 hF2 Try.underlying44 rfl (by with_unfolding_all exact ⟨_, rfl, rfl⟩) hq.out.2.2.2.1 ?_)) | (with_reducible refine lst (by with_unfolding_all rfl) (wp_fld1 hF2 Try.underlying49 rfl (by with_unfolding_all exact ⟨_, rfl, rfl⟩) hq.out.2.2.2.2 ?_)))
    go_ret2
    exact ⟨_, rfl, OwnB.nil _ _ _, hF2.below⟩
  have hfit := box kfit
  by_cases kb3 : 1048576 < (body.length : Int)
  · have b3 : decide (1048576 < (body.length : Int)) = true := by simpa using kb3
    have hno : ¬ repOk ⟨code, d, n, m, body, words, sums⟩ = true := fun h => by have h2 := hnot.out h; omega
    rw [if_neg hno, if_neg hno]
    clear hno hnot
    clear kfit
    go_enter Try.func16, Try.ntmps16
    go_wp2_with (first | ((with_reducible refine lst (by with_unfolding_all rfl) (wp_fbox hF0 (cs := (rpL (.int .i64 code) (d.map bv) (.int .i64 n) (.int .i64 m) (.slice A body.length c) (.slice B words.length cb) (.slice C sums.length cc))) rfl (by with_unfolding_all rfl) (by with_unfolding_all rfl) ?_)); intro w1 g1 hF1 hz1) | (with_reducible refine lst (by with_unfolding_all rfl) (wp_fld0 hF1 Try.underlying26 rfl (by with_unfolding_all exact ⟨_, rfl, rfl⟩) rfl ?_)) | (with_reducible refine lst (by with_unfolding_all rfl) (wp_fld0 hF1 Try.underlying3 rfl (by with_unfolding_all exact ⟨_, rfl, rfl⟩) (by first | exact hq.out.1 | exact hq.out.2.1) ?_)) | ((with_reducible refine lst (by with_unfolding_all rfl) (wp_fbsl T_int hF1 (vs := [.int .i64 n, .int .i64 m]) (by with_unfolding_all rfl) (by with_unfolding_all rfl) (by with_unfolding_all rfl) (by decide) (by simp [Value.cells]) ?_)); intro w2 g2 hF2 hz2))
    refine (fits_any _ 2 2 [n, m] w2 (by omega) hF2.rdOwn0).mono ?_
    rintro e w' ⟨rfl, rfl⟩
    rw [hfit.out]
    go_wp2_with (first | (with_reducible refine lst (by with_unfolding_all rfl) (wp_fld1 hF2 Try.underlying23 rfl (by with_unfolding_all exact ⟨_, rfl, rfl⟩) hq.out.2.2.1 ?_)) | (with_reducible refine lst (by with_unfolding_all rfl) (wp_fld1 hF2 Try.underlying44 rfl (by with_unfolding_all exact ⟨_, rfl, rfl⟩) hq.out.2.2.2.1 ?_)) | (with_reducible refine lst (by with_unfolding_all rfl) (wp_fld1 hF2 Try.underlying49 rfl (by with_unfolding_all exact ⟨_, rfl, rfl⟩) hq.out.2.2.2.2 ?_)))
    go_ret2
    exact ⟨_, rfl, OwnB.nil _ _ _, hF2.below⟩
  have b3 : decide (1048576 < (body.length : Int)) = false := by simpa using kb3
  by_cases kb4 : 100 < (words.length : Int)
  · have b4 : decide (100 < (words.length : Int)) = true := by simpa using kb4
    have hno : ¬ repOk ⟨code, d, n, m, body, words, sums⟩ = true := fun h => by have h2 := hnot.out h; omega
    rw [if_neg hno, if_neg hno]
    clear hno hnot
    clear kfit
    go_enter Try.func16, Try.ntmps16
    go_wp2_with (first | ((with_reducible refine lst (by with_unfolding_all rfl) (wp_fbox hF0 (cs := (rpL (.int .i64 code) (d.map bv) (.int .i64 n) (.int .i64 m) (.slice A body.length c) (.slice B words.length cb) (.slice C sums.length cc))) rfl (by with_unfolding_all rfl) (by with_unfolding_all rfl) ?_)); intro w1 g1 hF1 hz1) | (with_reducible refine lst (by with_unfolding_all rfl) (wp_fld0 hF1 Try.underlying26 rfl (by with_unfolding_all exact ⟨_, rfl, rfl⟩) rfl ?_)) | (with_reducible refine lst (by with_unfolding_all rfl) (wp_fld0 hF1 Try.underlying3 rfl (by with_unfolding_all exact ⟨_, rfl, rfl⟩) (by first | exact hq.out.1 | exact hq.out.2.1) ?_)) | ((with_reducible refine lst (by with_unfolding_all rfl) (wp_fbsl T_int hF1 (vs := [.int .i64 n, .int .i64 m]) (by with_unfolding_all rfl) (by with_unfolding_all rfl) (by with_unfolding_all rfl) (by decide) (by simp [Value.cells]) ?_)); intro w2 g2 hF2 hz2))
    refine (fits_any _ 2 2 [n, m] w2 (by omega) hF2.rdOwn0).mono ?_
    rintro e w' ⟨rfl, rfl⟩
    rw [hfit.out]
    go_wp2_with (first | (with_reducible refine lst (by with_unfolding_all rfl) (wp_fld1 hF2 Try.underlying23 rfl (by with_unfolding_all exact ⟨_, rfl, rfl⟩) hq.out.2.2.1 ?_)) | (with_reducible refine lst (by with_unfolding_all rfl) (wp_fld1 hF2 Try.underlying44 rfl (by with_unfolding_all exact ⟨_, rfl, rfl⟩) hq.out.2.2.2.1 ?_)) | (with_reducible refine lst (by with_unfolding_all rfl) (wp_fld1 hF2 Try.underlying49 rfl (by with_unfolding_all exact ⟨_, rfl, rfl⟩) hq.out.2.2.2.2 ?_)))
    go_ret2
    exact ⟨_, rfl, OwnB.nil _ _ _, hF2.below⟩
  have b4 : decide (100 < (words.length : Int)) = false := by simpa using kb4
  by_cases kb5 : 4096 < (sums.length : Int)
  · have b5 : decide (4096 < (sums.length : Int)) = true := by simpa using kb5
    have hno : ¬ repOk ⟨code, d, n, m, body, words, sums⟩ = true := fun h => by have h2 := hnot.out h; omega
    rw [if_neg hno, if_neg hno]
    clear hno hnot
    clear kfit
    go_enter Try.func16, Try.ntmps16
    go_wp2_with (first | ((with_reducible refine lst (by with_unfolding_all rfl) (wp_fbox hF0 (cs := (rpL (.int .i64 code) (d.map bv) (.int .i64 n) (.int .i64 m) (.slice A body.length c) (.slice B words.length cb) (.slice C sums.length cc))) rfl (by with_unfolding_all rfl) (by with_unfolding_all rfl) ?_)); intro w1 g1 hF1 hz1) | (with_reducible refine lst (by with_unfolding_all rfl) (wp_fld0 hF1 Try.underlying26 rfl (by with_unfolding_all exact ⟨_, rfl, rfl⟩) rfl ?_)) | (with_reducible refine lst (by with_unfolding_all rfl) (wp_fld0 hF1 Try.underlying3 rfl (by with_unfolding_all exact ⟨_, rfl, rfl⟩) (by first | exact hq.out.1 | exact hq.out.2.1) ?_)) | ((with_reducible refine lst (by with_unfolding_all rfl) (wp_fbsl T_int hF1 (vs := [.int .i64 n, .int .i64 m]) (by with_unfolding_all rfl) (by with_unfolding_all rfl) (by with_unfolding_all rfl) (by decide) (by simp [Value.cells]) ?_)); intro w2 g2 hF2 hz2))
    refine (fits_any _ 2 2 [n, m] w2 (by omega) hF2.rdOwn0).mono ?_
    rintro e w' ⟨rfl, rfl⟩
    rw [hfit.out]
    go_wp2_with (first | (with_reducible refine lst (by with_unfolding_all rfl) (wp_fld1 hF2 Try.underlying23 rfl (by with_unfolding_all exact ⟨_, rfl, rfl⟩) hq.out.2.2.1 ?_)) | (with_reducible refine lst (by with_unfolding_all rfl) (wp_fld1 hF2 Try.underlying44 rfl (by with_unfolding_all exact ⟨_, rfl, rfl⟩) hq.out.2.2.2.1 ?_)) | (with_reducible refine lst (by with_unfolding_all rfl) (wp_fld1 hF2 Try.underlying49 rfl (by with_unfolding_all exact ⟨_, rfl, rfl⟩) hq.out.2.2.2.2 ?_)))
    go_ret2
    exact ⟨_, rfl, OwnB.nil _ _ _, hF2.below⟩
  have b5 : decide (4096 < (sums.length : Int)) = false := by simpa using kb5
  simp only [List.all_cons, List.all_nil, Bool.and_true, Bool.and_eq_true] at kfit
  exact encRep_in ⟨code, d, n, m, body, words, sums⟩ A B C c cb cc w hR.out (by simp only []; omega) (by simp only []; omega) kfit.1 kfit.2 (by simp only []; omega) (by simp only []; omega) (by simp only []; omega)
end Go.Proofs.Ytcnjnkkdidpjiaa

namespace Go.Proofs.Ytcnjnkkdidpjiaa
open Go.RowKit

theorem dig_at {d : List UInt8} {k : Nat} {c : UInt8} (h : d[k]? = some c) : (d.map bv)[k]? = some (.int .u8 (c.toNat : Int)) := by simp [h, bv]

set_option maxRecDepth 20000 in
set_option maxHeartbeats 800000 in
theorem sumF_any (b : Nat) (v : Value) (l : List UInt8) (d : List UInt8) (w : World) (hown : OwnB w b 5 v l) (hb : b ≤ w.heap.size) (hroom : l.length ≤ 100000000) (hd : d.length = 32) :
    Calls Try.prog 29 #[v, .agg (d.map bv).toArray] w fun e w' => ∃ v', e = .returned v' ∧ OwnB w' b 5 v' (l ++ d) ∧ w.grownBy w' v.ownBlock ∧ Box (∀ k, v'.ownBlock = some k → w.heap.size ≤ k ∨ v.ownBlock = some k) := by
  have hF0 := Fr.oneB hown
  clear hown
  replace hd := box hd
  go_enter Try.func29, Try.ntmps29
  go_wp2_with (first | ((with_reducible refine lst (by with_unfolding_all rfl) (wp_fbox hF0 (cs := (d.map bv)) rfl (by with_unfolding_all rfl) (by with_unfolding_all rfl) ?_)); intro w1 g1 hF1 hz1))
  obtain ⟨W, rfl⟩ : ∃ W : World, W = w1 := ⟨_, rfl⟩
  go_loopw [0, 5] (fun q i wr => ∃ (k : Nat) (v' : Value), k ≤ 32 ∧ i = .int .i64 k ∧ q = v' ∧ Fr (Xof v) w wr [.blk g1 22 (d.map bv), Ent.bytes b 5 v' (l ++ d.take k)]) (fun _ i _ => 32 - (intOf i).toNat)
  case atStart => exact ⟨0, v, by omega, rfl, rfl, by rw [List.take_zero, List.append_nil]; exact hF1⟩
  case round =>
    clear hF1
    obtain ⟨k, v', hk, rfl, rfl, hF⟩ := hrel
    by_cases hlt : k < 32
    · obtain ⟨x, hx⟩ : ∃ x, d[k]? = some x := ⟨d[k]'(by have := hd.out; omega), by simp⟩
      have hx2 := dig_at hx
      have hxb := x.toNat_lt
      have hT : d.take (k + 1) = d.take k ++ [x] := take_snoc hx
      have hrm : (l ++ d.take k).length + 1 ≤ 140737488355328 := by rw [List.length_append]; have : (d.take k).length ≤ k := List.length_take_le _ _; omega
      replace hx := box hx
      replace hx2 := box hx2
      replace hT := box hT
      go_wp2_with (first | (with_reducible refine lst (by with_unfolding_all rfl) (wp_fld0 hF Try.underlying5 rfl (by with_unfolding_all exact ⟨_, rfl, rfl⟩) hx2.out ?_)) | ((with_reducible refine lst (by with_unfolding_all rfl) (wp_fbsl T_u8 hF (vs := [bv x]) (by with_unfolding_all rfl) (by with_unfolding_all rfl) (by with_unfolding_all rfl) (by decide) (by simp [bv, Value.cells]) ?_)); intro w1 g1 hF1 hz1; have hr1 : Rd w1 (· < w1.heap.size) (some ⟨g1, 0, none⟩) 1 1 ([x].map bv) := hF1.rdOwn0; replace hF1 : Fr _ _ w1 (Ent.bytes _ 5 (.slice (some ⟨g1, 0, none⟩) 1 1) [x] :: _) := hF1) | ((with_reducible refine lst (by with_unfolding_all rfl) (wp_fapp2 T_u8 hF1 hb hr1 (by with_unfolding_all exact ⟨_, _, rfl, rfl, rfl⟩) hrm ?_)); intro v2 w2 hF2 hz2))
      go_roundw
      case rel => exact ⟨k + 1, v2, by omega, by go_num, rfl, by rw [hT.out, ← List.append_assoc]; exact hF2.tail⟩
      case measure => simp [intOf]; omega
    · go_wp2
      go_ret
      rw [List.take_of_length_le (by have := hd.out; omega)] at hF
      exact ⟨_, rfl, hF.bytes1, hF.grownX, box fun k hk => (hF.fresh 1 _ rfl k hk).imp id (fun h => Xof_mem.1 h)⟩
end Go.Proofs.Ytcnjnkkdidpjiaa

namespace Go.Proofs.Ytcnjnkkdidpjiaa
open Go.RowKit

set_option maxRecDepth 20000 in
set_option maxHeartbeats 400000 in
theorem rcount_any (n : Nat) (w : World) (Hn : Box (n < 18446744073709551616)) :
    Calls Try.prog 30 #[.int .u64 n] w fun e w' => ∃ v, e = .returned v ∧ OwnB w' w.heap.size 5 v (cnt n) ∧ Below w.heap.size w w' := by
  go_enter Try.func30, Try.ntmps30
  go_wp2
  go_loopw [0, 3] (fun x v wr => ∃ m : Nat, ∃ l : List UInt8, Box (CntAt n m l) ∧ x = .int .u64 m ∧ OwnB wr w.heap.size 5 v l ∧ Below w.heap.size w wr ∧ w.heap.size ≤ wr.heap.size) (fun x _ _ => (intOf x).toNat)
  case atStart => exact ⟨n, [], ⟨Hn.out, Nat.le_refl _, rfl⟩, rfl, OwnB.nil _ _ _, Below.refl _ _, Nat.le_refl _⟩
  case round =>
    obtain ⟨m, l, HB, rfl, hown, hb, hB⟩ := hrel
    have hroom : l.length + 1 ≤ 140737488355328 := by have := HB.out.room; omega
    go_wp2_with (at_builtin; go_must (with_reducible refine lst (by with_unfolding_all rfl) (wp_appB1 T_u8 hown hb (by with_unfolding_all exact ⟨_, _, rfl, rfl, rfl⟩) hroom hB ?_ ?_); exact byte_of (by omega) (by omega); intro v' w1 c hc hown1 hb1 hB1))
    · have hu : IntKind.u64.wrap ((m : Int) / 128) = ((m / 128 : Nat) : Int) := by
        have := HB.out.1; have := HB.out.2.1
        rw [IntWalk.u64_in _ (by omega)]; omega
      go_roundw
      case rel => exact ⟨m / 128, _, box (HB.out.next (by omega) (by have := hc.out; omega)), by rw [hu], hown1, hb1, hB1⟩
      case measure => rw [hu]; simp [intOf]; omega
    · go_ret
      exact ⟨v', rfl, by rw [← HB.out.last (c := c) (by omega) (by have := hc.out; omega)]; exact hown1, hb1⟩
end Go.Proofs.Ytcnjnkkdidpjiaa

namespace Go.Proofs.Ytcnjnkkdidpjiaa
open Go.RowKit

set_option maxRecDepth 20000 in
set_option maxHeartbeats 400000 in
theorem rtext_any (A : Option Addr) (n c : Nat) (l : List UInt8) (w : World) (hm : n ≤ 140737488355000) (hr : Rd w (· < w.heap.size) A 1 n (l.map bv)) :
    Calls Try.prog 28 #[.slice A n c] w fun e w' => ∃ v, e = .returned v ∧ OwnB w' w.heap.size 5 v (textL l) ∧ Below w.heap.size w w' := by
  have hl := box hr.bytes_len
  have ht := box (show textL l = cnt n ++ l by rw [textL, hl.out])
  have hc64 : Box (n < 18446744073709551616) := box (by omega)
  have hlen := cnt_len64 hc64.out
  go_enter Try.func28, Try.ntmps28
  go_wp2_with fail
  refine (rcount_any n w hc64).mono ?_
  rintro e w1 ⟨v, rfl, hown, hb⟩
  have hB := hb.size
  go_wp2
  go_loopw [3, 4] (fun v i wr => ∃ k : Nat, k ≤ n ∧ i = .int .i64 k ∧ OwnB wr w.heap.size 5 v (cnt n ++ l.take k) ∧ Below w.heap.size w wr ∧ w.heap.size ≤ wr.heap.size) (fun _ i _ => n - (intOf i).toNat)
  case atStart => exact ⟨0, by omega, rfl, by rw [List.take_zero, List.append_nil]; exact hown, hb, hB⟩
  case round =>
    clear hown hb hB
    obtain ⟨k, hk, rfl, hown, hb, hB⟩ := hrel
    have hr' := hr.below hb
    have hroom : (cnt n ++ l.take k).length + 1 ≤ 140737488355328 := by rw [List.length_append, List.length_take]; omega
    by_cases hlt : k < n
    · go_wp2_with (first | (at_builtin; go_must (with_reducible refine lst (by with_unfolding_all rfl) (wp_appB1 T_u8 hown hb (by with_unfolding_all exact ⟨_, _, rfl, rfl, rfl⟩) hroom hB ?_ ?_); exact byte_of (by omega) (by omega); intro v' w1 c hc hown1 hb1 hB1)) | (with_reducible refine lst (by with_unfolding_all rfl) (wp_indexAddr T_u8 hr' (by with_unfolding_all exact ⟨_, _, _, _, rfl, rfl, rfl⟩) (by omega) (by omega) ?_)) | ((with_reducible refine lst (by with_unfolding_all rfl) (wp_loadB hr' Try.underlying5 rfl (by with_unfolding_all exact ⟨_, rfl, rfl⟩) (by omega) ?_)); intro d hd; (try simp only [Int.toNat_natCast, Nat.mul_one] at hd); replace hd := box hd; have dlt : d.toNat < 256 := d.toNat_lt))
      go_roundw
      have hcd := byte_eq hc
      subst hcd
      case rel => exact ⟨k + 1, by omega, by go_num, by rw [take_snoc hd.out, ← List.append_assoc]; exact hown1, hb1, hB1⟩
      case measure => simp [intOf]; omega
    · go_wp2
      go_ret
      exact ⟨_, rfl, by rw [ht.out, ← List.take_of_length_le (i := k) (l := l) (by have := hl.out; omega)]; exact hown, hb⟩
end Go.Proofs.Ytcnjnkkdidpjiaa
