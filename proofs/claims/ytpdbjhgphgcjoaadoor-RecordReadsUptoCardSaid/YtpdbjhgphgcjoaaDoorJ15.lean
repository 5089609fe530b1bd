/-
  The walk of the document's Count.
  The walk of the document's Text.
  The walk of the document's Put.
  Layer 14: the walk of the document's Encode.
-/
import Derived.Test.YtpdbjhgphgcjoaaDoorJ10
import Derived.Test.YtpdbjhgphgcjoaaDoorJ06
import Derived.Test.YtpdbjhgphgcjoaaDoorJ09
namespace Go.Proofs.YtpdbjhgphgcjoaaDoor
open Go.RowKit

set_option maxRecDepth 20000 in
set_option maxHeartbeats 400000 in
theorem rcount_any (n : Nat) (w : World) (Hn : Box (n < 18446744073709551616)) :
    Calls Tryd.prog 36 #[.int .u64 n] w fun e w' => ∃ v, e = .returned v ∧ OwnB w' w.heap.size 5 v (cnt n) ∧ Below w.heap.size w w' := by
  go_enter Tryd.func36, Tryd.ntmps36
  go_wp2
  go_loopw [0, 3] (fun x v wr => ∃ m : Nat, ∃ l : List UInt8, Box (CntAt n m l) ∧ x = .int .u64 m ∧ OwnB wr w.heap.size 5 v l ∧ Below w.heap.size w wr ∧ w.heap.size ≤ wr.heap.size) (fun x _ _ => (intOf x).toNat)
  case atStart => exact ⟨n, [], ⟨Hn.out, Nat.le_refl _, rfl⟩, rfl, OwnB.nil _ _ _, Below.refl _ _, Nat.le_refl _⟩
  case round =>
    obtain ⟨m, l, HB, rfl, hown, hb, hB⟩ := hrel
    have hroom : l.length + 1 ≤ 140737488355328 := by have := HB.out.room; omega
    go_wp2_with (at_builtin; go_must (with_reducible refine lst (by with_unfolding_all rfl) (wp_appB1 T_u8 hown hb (by with_unfolding_all exact ⟨_, _, rfl, rfl, rfl⟩) hroom hB ?_ ?_); exact byte_of (by omega) (by omega); intro v' w1 c hc hown1 hb1 hB1))
    · have hu : IntKind.u64.wrap ((m : Int) / 128) = ((m / 128 : Nat) : Int) := by
        have := HB.out.1; have := HB.out.2.1
        rw [IntWalk.u64_in _ (by omega)]; omega
      go_roundw
      case rel => exact ⟨m / 128, _, box (HB.out.next (by omega) (by have := hc.out; omega)), by rw [hu], hown1, hb1, hB1⟩
      case measure => rw [hu]; simp [intOf]; omega
    · go_ret
      exact ⟨v', rfl, by rw [← HB.out.last (c := c) (by omega) (by have := hc.out; omega)]; exact hown1, hb1⟩
end Go.Proofs.YtpdbjhgphgcjoaaDoor

namespace Go.Proofs.YtpdbjhgphgcjoaaDoor
open Go.RowKit

set_option maxRecDepth 20000 in
set_option maxHeartbeats 400000 in
theorem rtext_any (A : Option Addr) (n c : Nat) (l : List UInt8) (w : World) (hm : n ≤ 140737488355000) (hr : Rd w (· < w.heap.size) A 1 n (l.map bv)) :
    Calls Tryd.prog 25 #[.slice A n c] w fun e w' => ∃ v, e = .returned v ∧ OwnB w' w.heap.size 5 v (textL l) ∧ Below w.heap.size w w' := by
  have hl := box hr.bytes_len
  have ht := box (show textL l = cnt n ++ l by rw [textL, hl.out])
  have hc64 : Box (n < 18446744073709551616) := box (by omega)
  have hlen := cnt_len64 hc64.out
  go_enter Tryd.func25, Tryd.ntmps25
  go_wp2_with fail
  refine (rcount_any n w hc64).mono ?_
  rintro e w1 ⟨v, rfl, hown, hb⟩
  have hB := hb.size
  go_wp2
  go_loopw [3, 4] (fun v i wr => ∃ k : Nat, k ≤ n ∧ i = .int .i64 k ∧ OwnB wr w.heap.size 5 v (cnt n ++ l.take k) ∧ Below w.heap.size w wr ∧ w.heap.size ≤ wr.heap.size) (fun _ i _ => n - (intOf i).toNat)
  case atStart => exact ⟨0, by omega, rfl, by rw [List.take_zero, List.append_nil]; exact hown, hb, hB⟩
  case round =>
    clear hown hb hB
    obtain ⟨k, hk, rfl, hown, hb, hB⟩ := hrel
    have hr' := hr.below hb
    have hroom : (cnt n ++ l.take k).length + 1 ≤ 140737488355328 := by rw [List.length_append, List.length_take]; omega
    by_cases hlt : k < n
    · go_wp2_with (first | (at_builtin; go_must (with_reducible refine lst (by with_unfolding_all rfl) (wp_appB1 T_u8 hown hb (by with_unfolding_all exact ⟨_, _, rfl, rfl, rfl⟩) hroom hB ?_ ?_); exact byte_of (by omega) (by omega); intro v' w1 c hc hown1 hb1 hB1)) | (with_reducible refine lst (by with_unfolding_all rfl) (wp_indexAddr T_u8 hr' (by with_unfolding_all exact ⟨_, _, _, _, rfl, rfl, rfl⟩) (by omega) (by omega) ?_)) | ((with_reducible refine lst (by with_unfolding_all rfl) (wp_loadB hr' Tryd.underlying5 rfl (by with_unfolding_all exact ⟨_, rfl, rfl⟩) (by omega) ?_)); intro d hd; (try simp only [Int.toNat_natCast, Nat.mul_one] at hd); replace hd := box hd; have dlt : d.toNat < 256 := d.toNat_lt))
      go_roundw
      have hcd := byte_eq hc
      subst hcd
      case rel => exact ⟨k + 1, by omega, by go_num, by rw [take_snoc hd.out, ← List.append_assoc]; exact hown1, hb1, hB1⟩
      case measure => simp [intOf]; omega
    · go_wp2
      go_ret
      exact ⟨_, rfl, by rw [ht.out, ← List.take_of_length_le (i := k) (l := l) (by have := hl.out; omega)]; exact hown, hb⟩
end Go.Proofs.YtpdbjhgphgcjoaaDoor

namespace Go.Proofs.YtpdbjhgphgcjoaaDoor
open Go.RowKit

set_option maxRecDepth 20000 in
set_option maxHeartbeats 400000 in
theorem rput_any (n : Nat) (size : Int) (w : World) :
    Calls Tryd.prog 26 #[.int .u64 n, .int .i64 size] w fun e w' => ∃ v, e = .returned v ∧ OwnB w' w.heap.size 5 v (putS n size) ∧ Below w.heap.size w w' := by
  by_cases hs : 1 ≤ size ∧ size ≤ 8
  · rw [putS, if_pos ⟨by omega, hs.2⟩]
    obtain ⟨s, rfl⟩ := Int.eq_ofNat_of_zero_le (show 0 ≤ size by omega)
    rw [Int.toNat_natCast]
    have hs8 : s ≤ 8 := by omega
    have hs1 : 1 ≤ s := by omega
    clear hs
    go_enter Tryd.func26, Tryd.ntmps26
    go_wp2
    go_loopw [5, 6] (fun v i wr => ∃ k : Nat, ∃ l, k ≤ s ∧ i = .int .i64 ((k : Int) - 1) ∧ Box (l ++ putL n k = putL n s) ∧ OwnB wr w.heap.size 5 v l ∧ Below w.heap.size w wr ∧ w.heap.size ≤ wr.heap.size) (fun _ i _ => (intOf i + 1).toNat)
    case atStart => exact ⟨s, [], by omega, rfl, box rfl, OwnB.nil _ _ _, Below.refl _ _, Nat.le_refl _⟩
    case round =>
      obtain ⟨k, l, hk, rfl, HL, hown, hb, hB⟩ := hrel
      have hroom : l.length + 1 ≤ 140737488355328 := by
        have h1 := congrArg List.length HL.out
        rw [List.length_append, putL_len, putL_len] at h1; omega
      by_cases hlt : 0 < k
      · obtain ⟨m, rfl⟩ : ∃ m, k = m + 1 := ⟨k - 1, by omega⟩
        clear hlt
        go_wp2_with (first | (at_builtin; go_must (with_reducible refine lst (by with_unfolding_all rfl) (wp_appB1 T_u8 hown hb (by with_unfolding_all exact ⟨_, _, rfl, rfl, rfl⟩) hroom hB ?_ ?_); exact byte_of (by omega) (by omega); intro v' w1 c hc hown1 hb1 hB1)))
        go_roundw
        have h3 : ((n : Int) / 2 ^ (8 * m)) = ((n / 2 ^ (8 * m) : Nat) : Int) := by simp
        have h4 : UInt8.ofNat (n / 2 ^ (8 * m) % 256) = c := by
          have := hc.out; rw [h3] at this
          rw [show n / 2 ^ (8 * m) % 256 = c.toNat by omega]; simp
        have h5 : (l ++ [c]) ++ putL n m = putL n s := by rw [← HL.out, putL, h4, List.append_assoc]; rfl
        case rel => exact ⟨m, _, by omega, rfl, box h5, hown1, hb1, hB1⟩
        case measure => (first | (simp [intOf]; done) | (simp [intOf]; omega))
      · obtain rfl : k = 0 := by omega
        have hl := HL.out
        rw [putL, List.append_nil] at hl
        replace hl := box hl
        go_wp2
        go_ret
        exact ⟨_, rfl, by rw [← hl.out]; exact hown, hb⟩
  · have he : putS n size = [] := by
      rw [putS]
      split
      · rw [show size.toNat = 0 by omega]; rfl
      · rfl
    rw [he]
    go_enter Tryd.func26, Tryd.ntmps26
    go_wp2
    all_goals go_ret
    all_goals exact ⟨_, rfl, OwnB.nil _ _ _, Below.refl _ _⟩
end Go.Proofs.YtpdbjhgphgcjoaaDoor

namespace Go.Proofs.YtpdbjhgphgcjoaaDoor
open Go.RowKit

theorem rcL_byte {k a b t : Value} {d : List UInt8} {j : Nat} {x : UInt8} (hx : d[j]? = some x) : (rcL k a b (d.map bv) t)[3 + j]? = some (.int .u8 (x.toNat : Int)) := by
  have hj := (List.getElem?_eq_some_iff.1 hx).1
  unfold rcL
  rw [Nat.add_comm 3 j]
  simp only [List.getElem?_cons_succ]
  rw [List.getElem?_append_left (by rw [List.length_map]; exact hj), List.getElem?_map, hx]
  rfl

set_option maxRecDepth 20000 in
set_option maxHeartbeats 1600000 in
theorem encF_good1 (repo tag : ByteArray) (d : List UInt8) (i : Nat) (w : World) (hd : d.length = 32) (hok : recOk ⟨1, repo, tag, d, (i : Int)⟩ = true) :
    Calls Tryd.prog 9 #[.agg (rcL (.int .i64 1) (.string repo) (.string tag) (d.map bv) (.int .i64 (i : Int))).toArray] w (Told w 5 (recB ⟨1, repo, tag, d, (i : Int)⟩) 0) := by
  obtain ⟨_, hr, ht, _, h5⟩ := recOk_iff hok
  have hrs := repo_size hr
  have hts := tag_size ht
  simp only [] at hrs hts h5
  have hri := box (fun w => rightF_any ⟨1, repo, tag, d, (i : Int)⟩ w hd (by show repo.size ≤ _; omega) (by show tag.size ≤ _; omega))
  rw [hok] at hri
  simp only [Rec.cells] at hri
  clear hr ht hok
  have hdm : (d.map bv).length = 32 := by rw [List.length_map]; exact hd
  have h35 := box (rcL_at (k := (Value.int .i64) 1) (a := .string repo) (b := .string tag) (t := (Value.int .i64) (i : Int)) hdm)
  have hB := box (recB_1 repo tag d i)
  have hpl := putL_len i 8
  replace hdm := box hdm
  replace hd := box hd
  have hT := textL_len repo.data.toList (by rw [str_len]; omega)
  have hT2 := textL_len tag.data.toList (by rw [str_len]; omega)
  rw [str_len] at hT hT2
  have hF0 := Fr.nil w
  have hx1 : IntKind.u8.wrap 1 = 1 := by decide
  go_enter Tryd.func9, Tryd.ntmps9
  go_wp2_with (first | ((with_reducible refine lst (by with_unfolding_all rfl) (wp_fbox hF0 (cs := (rcL (.int .i64 1) (.string repo) (.string tag) (d.map bv) (.int .i64 (i : Int)))) rfl (by with_unfolding_all rfl) (by with_unfolding_all rfl) ?_)); intro w1 g1 hF1 hz1) | (with_reducible refine lst (by with_unfolding_all rfl) (wp_fldA0 hF1 Tryd.underlying24 rfl (by with_unfolding_all exact ⟨_, rfl, rfl⟩) (ds := (rcL (.int .i64 1) (.string repo) (.string tag) (d.map bv) (.int .i64 (i : Int)))) (by rw [rc_len hdm.out]; kernel_rfl) (take_all _) ?_)))
  refine (hri.out _).mono ?_
  rintro e w2 ⟨rfl, hb2⟩
  have hF2 := hF1.call hb2
  clear hri hF0 hF1
  go_wp2_with (first | (with_reducible refine lst (by with_unfolding_all rfl) (wp_fld0 hF2 Tryd.underlying3 rfl (by with_unfolding_all exact ⟨_, rfl, rfl⟩) rfl ?_)) | ((with_reducible refine lst (by with_unfolding_all rfl) (wp_fbsl T_u8 hF2 (vs := [bv 1]) (by with_unfolding_all rfl) (by with_unfolding_all rfl) (by with_unfolding_all rfl) (by decide) (by simp [bv, Value.cells]) ?_)); intro w3 g3 hF3 hz3; have hr3 : Rd w3 (· < w3.heap.size) (some ⟨g3, 0, none⟩) 1 1 ([1].map bv) := hF3.rdOwn0; replace hF3 : Fr _ _ w3 (Ent.bytes _ 5 (.slice (some ⟨g3, 0, none⟩) 1 1) [1] :: _) := hF3) | (with_reducible refine lst (by with_unfolding_all rfl) (wp_fld1 hF3 Tryd.underlying9 rfl (by with_unfolding_all exact ⟨_, rfl, rfl⟩) (by first | with_unfolding_all rfl | assumption) ?_)) | ((with_reducible refine lst (by with_unfolding_all rfl) (wp_fs2b T_u8 Tryd.underlying5 Tryd.underlying9 hF3 (by with_unfolding_all exact ⟨_, rfl, rfl⟩) ?_)); intro w4 g4 c4 hF4 hz4 hc4))
  refine (rtext_any _ _ _ repo.data.toList _ (by omega) hF4.rd0).mono ?_
  rintro e w5 ⟨v5, rfl, ho5, hb5⟩
  obtain ⟨A5, c5, rfl, _, hr5⟩ := ho5.arg
  have hF5 := hF4.tail.call hb5
  clear hF2 hF3 hF4 hr3
  have room5 : ([1] : List UInt8).length + (textL repo.data.toList).length ≤ 140737488355328 := by simp only [List.length_cons, List.length_nil]; omega
  go_wp2_with (first | ((with_reducible refine lst (by with_unfolding_all rfl) (wp_fapp0 T_u8 hF5 (Nat.le_refl _) hr5 (by with_unfolding_all exact ⟨_, _, rfl, rfl, rfl⟩) room5 ?_)); intro v6 w6 hF6 hz6) | (with_reducible refine lst (by with_unfolding_all rfl) (wp_fld1 hF6 Tryd.underlying9 rfl (by with_unfolding_all exact ⟨_, rfl, rfl⟩) (by first | with_unfolding_all rfl | assumption) ?_)) | ((with_reducible refine lst (by with_unfolding_all rfl) (wp_fs2b T_u8 Tryd.underlying5 Tryd.underlying9 hF6 (by with_unfolding_all exact ⟨_, rfl, rfl⟩) ?_)); intro w7 g7 c7 hF7 hz7 hc7))
  refine (rtext_any _ _ _ tag.data.toList _ (by omega) hF7.rd0).mono ?_
  rintro e w8 ⟨v8, rfl, ho8, hb8⟩
  obtain ⟨A8, c8, rfl, _, hr8⟩ := ho8.arg
  have hF8 := hF7.tail.call hb8
  clear hF5 hF6 hF7
  have room8 : ([1] ++ textL repo.data.toList).length + (textL tag.data.toList).length ≤ 140737488355328 := by simp only [List.length_append, List.length_cons, List.length_nil]; omega
  go_wp2_with (first | ((with_reducible refine lst (by with_unfolding_all rfl) (wp_fapp0 T_u8 hF8 (Nat.le_refl _) hr8 (by with_unfolding_all exact ⟨_, _, rfl, rfl, rfl⟩) room8 ?_)); intro v9 w9 hF9 hz9))
  clear hF8 hx1
  go_loopw [4, 5] (fun q x wr => ∃ (k : Nat) (v' : Value), k ≤ 32 ∧ q = v' ∧ x = .int .i64 k ∧ Fr [] w wr [Ent.bytes w.heap.size 5 v' (([1] ++ textL repo.data.toList ++ textL tag.data.toList) ++ d.take k), .blk g1 24 (rcL (.int .i64 1) (.string repo) (.string tag) (d.map bv) (.int .i64 (i : Int)))]) (fun _ x _ => 32 - (intOf x).toNat)
  case atStart => exact ⟨0, _, by omega, rfl, rfl, by rw [List.take_zero, List.append_nil]; exact hF9⟩
  case round =>
    clear hF9
    obtain ⟨k, v', hk, rfl, rfl, hF⟩ := hrel
    by_cases hlt : k < 32
    · obtain ⟨x, hx⟩ : ∃ x, d[k]? = some x := ⟨d[k]'(by have := hd.out; omega), by simp⟩
      have hx2 := box (rcL_byte (k := (Value.int .i64) 1) (a := .string repo) (b := .string tag) (t := (Value.int .i64) (i : Int)) hx)
      have hxb := x.toNat_lt
      have hT3 := box (take_snoc hx)
      have hrm : (([1] ++ textL repo.data.toList ++ textL tag.data.toList) ++ d.take k).length + 1 ≤ 140737488355328 := by simp only [List.length_append, List.length_cons, List.length_nil]; have : (d.take k).length ≤ k := List.length_take_le _ _; omega
      replace hx := box hx
      go_wp2_with (first | (with_reducible refine lst (by with_unfolding_all rfl) (wp_fld1 hF Tryd.underlying3 rfl (by with_unfolding_all exact ⟨_, rfl, rfl⟩) rfl ?_)) | (with_reducible refine lst (by with_unfolding_all rfl) (wp_fld1 hF Tryd.underlying5 rfl (by with_unfolding_all exact ⟨_, rfl, rfl⟩) hx2.out ?_)) | ((with_reducible refine lst (by with_unfolding_all rfl) (wp_fbsl T_u8 hF (vs := [bv x]) (by with_unfolding_all rfl) (by with_unfolding_all rfl) (by with_unfolding_all rfl) (by decide) (by simp [bv, Value.cells]) ?_)); intro w1 g1 hF1 hz1; have hr1 : Rd w1 (· < w1.heap.size) (some ⟨g1, 0, none⟩) 1 1 ([x].map bv) := hF1.rdOwn0; replace hF1 : Fr _ _ w1 (Ent.bytes _ 5 (.slice (some ⟨g1, 0, none⟩) 1 1) [x] :: _) := hF1) | ((with_reducible refine lst (by with_unfolding_all rfl) (wp_fapp1 T_u8 hF1 (Nat.le_refl _) hr1 (by with_unfolding_all exact ⟨_, _, rfl, rfl, rfl⟩) hrm ?_)); intro v2 w2 hF2 hz2))
      go_roundw
      case rel => exact ⟨k + 1, _, by omega, rfl, by go_num, by rw [hT3.out, ← List.append_assoc]; exact hF2.tail⟩
      case measure => simp [intOf]; omega
    · obtain rfl : k = 32 := by omega
      rw [List.take_of_length_le (by have := hd.out; omega)] at hF
      go_wp2_with (first | (with_reducible refine lst (by with_unfolding_all rfl) (wp_fld1 hF Tryd.underlying3 rfl (by with_unfolding_all exact ⟨_, rfl, rfl⟩) (by first | with_unfolding_all rfl | exact h35.out) ?_)))
      refine (rput_any i 8 _).mono ?_
      rintro e w18 ⟨v18, rfl, ho18, hb18⟩
      rw [putS_8] at ho18
      obtain ⟨A18, c18, rfl, _, hr18⟩ := ho18.arg
      have hF18 := hF.call hb18
      have room18 : (([1] ++ textL repo.data.toList ++ textL tag.data.toList) ++ d).length + (putL i 8).length ≤ 140737488355328 := by simp only [List.length_append, List.length_cons, List.length_nil]; have := hd.out; omega
      go_wp2_with (first | ((with_reducible refine lst (by with_unfolding_all rfl) (wp_fapp0 T_u8 hF18 (Nat.le_refl _) hr18 (by with_unfolding_all exact ⟨_, _, rfl, rfl, rfl⟩) room18 ?_)); intro v19 w19 hF19 hz19))
      go_ret2
      exact ⟨_, rfl, by rw [hB.out]; exact hF19.bytes0, hF19.below⟩

set_option maxRecDepth 20000 in
set_option maxHeartbeats 1600000 in
theorem encF_good2 (repo tag : ByteArray) (d : List UInt8) (i : Nat) (w : World) (hd : d.length = 32) (hok : recOk ⟨2, repo, tag, d, (i : Int)⟩ = true) :
    Calls Tryd.prog 9 #[.agg (rcL (.int .i64 2) (.string repo) (.string tag) (d.map bv) (.int .i64 (i : Int))).toArray] w (Told w 5 (recB ⟨2, repo, tag, d, (i : Int)⟩) 0) := by
  obtain ⟨_, hr, ht, _, h5⟩ := recOk_iff hok
  have hrs := repo_size hr
  have hts := tag_size ht
  simp only [] at hrs hts h5
  have hri := box (fun w => rightF_any ⟨2, repo, tag, d, (i : Int)⟩ w hd (by show repo.size ≤ _; omega) (by show tag.size ≤ _; omega))
  rw [hok] at hri
  simp only [Rec.cells] at hri
  clear hr ht hok
  have hdm : (d.map bv).length = 32 := by rw [List.length_map]; exact hd
  have h35 := box (rcL_at (k := (Value.int .i64) 2) (a := .string repo) (b := .string tag) (t := (Value.int .i64) (i : Int)) hdm)
  have hB := box (recB_2 repo tag d i)
  have hpl := putL_len i 8
  replace hdm := box hdm
  replace hd := box hd
  have hT := textL_len repo.data.toList (by rw [str_len]; omega)
  have hT2 := textL_len tag.data.toList (by rw [str_len]; omega)
  rw [str_len] at hT hT2
  have hF0 := Fr.nil w
  have hx1 : IntKind.u8.wrap 2 = 2 := by decide
  go_enter Tryd.func9, Tryd.ntmps9
  go_wp2_with (first | ((with_reducible refine lst (by with_unfolding_all rfl) (wp_fbox hF0 (cs := (rcL (.int .i64 2) (.string repo) (.string tag) (d.map bv) (.int .i64 (i : Int)))) rfl (by with_unfolding_all rfl) (by with_unfolding_all rfl) ?_)); intro w1 g1 hF1 hz1) | (with_reducible refine lst (by with_unfolding_all rfl) (wp_fldA0 hF1 Tryd.underlying24 rfl (by with_unfolding_all exact ⟨_, rfl, rfl⟩) (ds := (rcL (.int .i64 2) (.string repo) (.string tag) (d.map bv) (.int .i64 (i : Int)))) (by rw [rc_len hdm.out]; kernel_rfl) (take_all _) ?_)))
  refine (hri.out _).mono ?_
  rintro e w2 ⟨rfl, hb2⟩
  have hF2 := hF1.call hb2
  clear hri hF0 hF1
  go_wp2_with (first | (with_reducible refine lst (by with_unfolding_all rfl) (wp_fld0 hF2 Tryd.underlying3 rfl (by with_unfolding_all exact ⟨_, rfl, rfl⟩) rfl ?_)) | ((with_reducible refine lst (by with_unfolding_all rfl) (wp_fbsl T_u8 hF2 (vs := [bv 2]) (by with_unfolding_all rfl) (by with_unfolding_all rfl) (by with_unfolding_all rfl) (by decide) (by simp [bv, Value.cells]) ?_)); intro w3 g3 hF3 hz3; have hr3 : Rd w3 (· < w3.heap.size) (some ⟨g3, 0, none⟩) 1 1 ([2].map bv) := hF3.rdOwn0; replace hF3 : Fr _ _ w3 (Ent.bytes _ 5 (.slice (some ⟨g3, 0, none⟩) 1 1) [2] :: _) := hF3) | (with_reducible refine lst (by with_unfolding_all rfl) (wp_fld1 hF3 Tryd.underlying9 rfl (by with_unfolding_all exact ⟨_, rfl, rfl⟩) (by first | with_unfolding_all rfl | assumption) ?_)) | ((with_reducible refine lst (by with_unfolding_all rfl) (wp_fs2b T_u8 Tryd.underlying5 Tryd.underlying9 hF3 (by with_unfolding_all exact ⟨_, rfl, rfl⟩) ?_)); intro w4 g4 c4 hF4 hz4 hc4))
  refine (rtext_any _ _ _ repo.data.toList _ (by omega) hF4.rd0).mono ?_
  rintro e w5 ⟨v5, rfl, ho5, hb5⟩
  obtain ⟨A5, c5, rfl, _, hr5⟩ := ho5.arg
  have hF5 := hF4.tail.call hb5
  clear hF2 hF3 hF4 hr3
  have room5 : ([2] : List UInt8).length + (textL repo.data.toList).length ≤ 140737488355328 := by simp only [List.length_cons, List.length_nil]; omega
  go_wp2_with (first | ((with_reducible refine lst (by with_unfolding_all rfl) (wp_fapp0 T_u8 hF5 (Nat.le_refl _) hr5 (by with_unfolding_all exact ⟨_, _, rfl, rfl, rfl⟩) room5 ?_)); intro v6 w6 hF6 hz6) | (with_reducible refine lst (by with_unfolding_all rfl) (wp_fld1 hF6 Tryd.underlying9 rfl (by with_unfolding_all exact ⟨_, rfl, rfl⟩) (by first | with_unfolding_all rfl | assumption) ?_)) | ((with_reducible refine lst (by with_unfolding_all rfl) (wp_fs2b T_u8 Tryd.underlying5 Tryd.underlying9 hF6 (by with_unfolding_all exact ⟨_, rfl, rfl⟩) ?_)); intro w7 g7 c7 hF7 hz7 hc7))
  refine (rtext_any _ _ _ tag.data.toList _ (by omega) hF7.rd0).mono ?_
  rintro e w8 ⟨v8, rfl, ho8, hb8⟩
  obtain ⟨A8, c8, rfl, _, hr8⟩ := ho8.arg
  have hF8 := hF7.tail.call hb8
  clear hF5 hF6 hF7
  have room8 : ([2] ++ textL repo.data.toList).length + (textL tag.data.toList).length ≤ 140737488355328 := by simp only [List.length_append, List.length_cons, List.length_nil]; omega
  go_wp2_with (first | ((with_reducible refine lst (by with_unfolding_all rfl) (wp_fapp0 T_u8 hF8 (Nat.le_refl _) hr8 (by with_unfolding_all exact ⟨_, _, rfl, rfl, rfl⟩) room8 ?_)); intro v9 w9 hF9 hz9))
  clear hF8 hx1
  have hF9' := hF9
  go_loopw [4, 5] (fun q x wr => ∃ v', q = v' ∧ x = .int .i64 0 ∧ Fr [] w wr [Ent.bytes w.heap.size 5 v' ([2] ++ textL repo.data.toList ++ textL tag.data.toList), .blk g1 24 (rcL (.int .i64 2) (.string repo) (.string tag) (d.map bv) (.int .i64 (i : Int)))]) (fun _ _ _ => 0)
  case atStart => exact ⟨_, rfl, rfl, hF9'⟩
  case round =>
    clear hF9 hF9'
    obtain ⟨v', rfl, rfl, hF⟩ := hrel
    go_wp2_with (first | (with_reducible refine lst (by with_unfolding_all rfl) (wp_fld1 hF Tryd.underlying3 rfl (by with_unfolding_all exact ⟨_, rfl, rfl⟩) (by first | with_unfolding_all rfl | exact h35.out) ?_)))
    refine (rput_any i 8 _).mono ?_
    rintro e w18 ⟨v18, rfl, ho18, hb18⟩
    rw [putS_8] at ho18
    obtain ⟨A18, c18, rfl, _, hr18⟩ := ho18.arg
    have hF18 := hF.call hb18
    have room18 : (([2] ++ textL repo.data.toList ++ textL tag.data.toList)).length + (putL i 8).length ≤ 140737488355328 := by simp only [List.length_append, List.length_cons, List.length_nil]; have := hd.out; omega
    go_wp2_with (first | ((with_reducible refine lst (by with_unfolding_all rfl) (wp_fapp0 T_u8 hF18 (Nat.le_refl _) hr18 (by with_unfolding_all exact ⟨_, _, rfl, rfl, rfl⟩) room18 ?_)); intro v19 w19 hF19 hz19))
    go_ret2
    exact ⟨_, rfl, by rw [hB.out]; exact hF19.bytes0, hF19.below⟩

set_option maxRecDepth 20000 in
set_option maxHeartbeats 1600000 in
theorem encF_bad (r : Rec) (w : World) (hd : r.d.length = 32) (hs : r.repo.size ≤ 4000000000) (ht : r.tag.size ≤ 4000000000) (hok : recOk r = false) :
    Calls Tryd.prog 9 #[.agg r.cells.toArray] w (Told w 5 [] 1) := by
  have hri := box (fun w => rightF_any r w hd hs ht)
  rw [hok] at hri
  have hL := box (r.len hd)
  have hF0 := Fr.nil w
  clear hok
  go_enter Tryd.func9, Tryd.ntmps9
  go_wp2_with (first | ((with_reducible refine lst (by with_unfolding_all rfl) (wp_fbox hF0 (cs := r.cells) rfl (by with_unfolding_all rfl) (by with_unfolding_all rfl) ?_)); intro w1 g1 hF1 hz1) | (with_reducible refine lst (by with_unfolding_all rfl) (wp_fldA0 hF1 Tryd.underlying24 rfl (by with_unfolding_all exact ⟨_, rfl, rfl⟩) (ds := r.cells) (by rw [hL.out]; kernel_rfl) (take_all _) ?_)))
  refine (hri.out _).mono ?_
  rintro e w2 ⟨rfl, hb2⟩
  have hF2 := hF1.call hb2
  go_wp2_with fail
  go_ret2
  exact ⟨_, rfl, OwnB.nil _ _ _, hF2.below⟩
theorem encF_any (r : Rec) (w : World) (hd : r.d.length = 32) (hs : r.repo.size ≤ 4000000000) (ht : r.tag.size ≤ 4000000000) :
    Calls Tryd.prog 9 #[.agg r.cells.toArray] w (Told w 5 (if recOk r = true then recB r else []) (if recOk r = true then 0 else 1)) := by
  by_cases h : recOk r = true
  · rw [if_pos h, if_pos h]
    obtain ⟨kind, repo, tag, d, t⟩ := r
    obtain ⟨hk, _, _, h0, _⟩ := recOk_iff h
    obtain ⟨i, rfl⟩ := Int.eq_ofNat_of_zero_le h0
    simp only [kindB, Bool.or_eq_true, Bool.and_eq_true, beq_iff_eq] at hk
    rcases hk with rfl | ⟨rfl, _⟩
    · exact encF_good1 repo tag d i w hd h
    · exact encF_good2 repo tag d i w hd h
  · rw [if_neg h, if_neg h]; exact encF_bad r w hd hs ht (by simpa using h)
end Go.Proofs.YtpdbjhgphgcjoaaDoor
