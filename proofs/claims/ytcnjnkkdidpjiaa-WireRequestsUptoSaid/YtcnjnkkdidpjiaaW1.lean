/-
  Layer 19: the walks of the small functions: numbers that may be, counts, sums.
-/
import Derived.Test.YtcnjnkkdidpjiaaCount
import Derived.Test.YtcnjnkkdidpjiaaWCells
import Derived.BigQuiet
namespace Go.Proofs.Ytcnjnkkdidpjiaa
open Go.RowKit

theorem T_int : SlT Try.prog 80 3 1 8 (.int .i64 0) := ⟨Try.underlying80, by kernel_rfl, rfl, by decide⟩

set_option maxRecDepth 20000 in
set_option maxHeartbeats 400000 in
theorem number_any (n : Int) (w : World) : Calls Try.prog 27 #[.int .i64 n] w fun e w' => e = .returned (.bool (numB n)) ∧ w = w' := by
  by_cases h : 0 ≤ n
  · have h1 : numB n = decide (n ≤ 1099511627776) := by unfold numB; simp [h]
    rw [h1]
    have hd : decide ((0 : Int) ≤ n) = true := by simp [h]
    go_enter Try.func27, Try.ntmps27
    go_wp2
    go_ret
    exact ⟨rfl, rfl⟩
  · have h1 : numB n = false := by unfold numB; simp [h]
    rw [h1]
    have hd : decide ((0 : Int) ≤ n) = false := by simp [h]
    go_enter Try.func27, Try.ntmps27
    go_wp2
    go_ret
    exact ⟨rfl, rfl⟩

set_option maxRecDepth 20000 in
set_option maxHeartbeats 400000 in
theorem fits_any (A : Option Addr) (n c : Nat) (xs : List Int) (w : World) (hm : n ≤ 9223372036854775807) (hr : Rd w (· < w.heap.size) A 1 n (xs.map (Value.int .i64))) :
    Calls Try.prog 23 #[.slice A n c] w fun e w' => e = .returned (.bool (xs.all numB)) ∧ w = w' := by
  have hl : Box (xs.length = n) := box (by have := hr.len; simpa using this)
  go_enter Try.func23, Try.ntmps23
  go_wp2
  go_loop [7] (fun i => ∃ k : Nat, k ≤ n ∧ Box ((xs.take k).all numB = true) ∧ i = .int .i64 k) (fun i => n - (intOf i).toNat)
  case atStart => exact ⟨0, by omega, box rfl, rfl⟩
  case round =>
    obtain ⟨k, hk, HB, rfl⟩ := hrel
    by_cases hlt : k < n
    · obtain ⟨x, hx⟩ : ∃ x, xs[k]? = some x := ⟨xs[k]'(by have := hl.out; omega), by simp⟩
      have hx2 : (xs.map (Value.int .i64))[k]? = some (.int .i64 x) := by simp [hx]
      have hT : xs.take (k + 1) = xs.take k ++ [x] := take_snoc hx
      replace hx := box hx
      replace hx2 := box hx2
      replace hT := box hT
      by_cases hok : 0 ≤ x ∧ x ≤ 1099511627776
      · have h0 := hok.1
        have h1 := hok.2
        go_wp2_with (first | (with_reducible refine lst (by with_unfolding_all rfl) (wp_indexAddr T_int hr (by with_unfolding_all exact ⟨_, _, _, _, rfl, rfl, rfl⟩) (by omega) (by omega) ?_)) | (with_reducible refine lst (by with_unfolding_all rfl) (wp_load1C hr hx2 Try.underlying3 rfl (by with_unfolding_all exact ⟨_, rfl, rfl⟩) (by first | (simp; done) | (simp; omega) | omega) ?_)))
        go_round
        case rel => exact ⟨k + 1, by omega, box (by rw [hT.out, List.all_append, HB.out]; simp [numB, h0, h1]), by go_num⟩
        case measure => simp [intOf]; omega
      · have hres : Box (xs.all numB = false) := box (by
          have hb : numB x = false := by unfold numB; simp; omega
          have hmem : x ∈ xs := List.mem_of_getElem? hx.out
          cases hall : xs.all numB with
          | false => rfl
          | true => have := List.all_eq_true.1 hall x hmem; rw [hb] at this; cases this)
        by_cases h0 : x < 0
        · go_wp2_with (first | (with_reducible refine lst (by with_unfolding_all rfl) (wp_indexAddr T_int hr (by with_unfolding_all exact ⟨_, _, _, _, rfl, rfl, rfl⟩) (by omega) (by omega) ?_)) | (with_reducible refine lst (by with_unfolding_all rfl) (wp_load1C hr hx2 Try.underlying3 rfl (by with_unfolding_all exact ⟨_, rfl, rfl⟩) (by first | (simp; done) | (simp; omega) | omega) ?_)))
          go_ret
          exact ⟨by rw [hres.out]; rfl, rfl⟩
        · have h1 : 1099511627776 < x := by omega
          go_wp2_with (first | (with_reducible refine lst (by with_unfolding_all rfl) (wp_indexAddr T_int hr (by with_unfolding_all exact ⟨_, _, _, _, rfl, rfl, rfl⟩) (by omega) (by omega) ?_)) | (with_reducible refine lst (by with_unfolding_all rfl) (wp_load1C hr hx2 Try.underlying3 rfl (by with_unfolding_all exact ⟨_, rfl, rfl⟩) (by first | (simp; done) | (simp; omega) | omega) ?_)))
          go_ret
          exact ⟨by rw [hres.out]; rfl, rfl⟩
    · go_wp2
      go_ret
      exact ⟨by rw [← List.take_of_length_le (i := k) (l := xs) (by have := hl.out; omega), HB.out]; rfl, rfl⟩

/-- Numbers as counts, one behind the other. -/
def cntsL : List Int → List UInt8
  | [] => []
  | n :: l => cnt n.toNat ++ cntsL l
theorem cntsL_snoc : ∀ (l : List Int) (n : Int), cntsL (l ++ [n]) = cntsL l ++ cnt n.toNat
  | [], n => by simp [cntsL]
  | m :: l, n => by rw [List.cons_append, cntsL, cntsL_snoc l n, cntsL, List.append_assoc]
theorem cntsL_len : ∀ (l : List Int), (∀ n ∈ l, n < 18446744073709551616) → (cntsL l).length ≤ 10 * l.length
  | [], _ => by simp [cntsL]
  | n :: l, h => by
    have h1 := cnt_len64 (n := n.toNat) (by have := h n (by simp); omega)
    have h2 := cntsL_len l (fun m hm => h m (by simp [hm]))
    rw [cntsL, List.length_append, List.length_cons]; omega

set_option maxRecDepth 20000 in
set_option maxHeartbeats 800000 in
theorem counts_any (b : Nat) (v : Value) (l : List UInt8) (A : Option Addr) (n c : Nat) (xs : List Int) (w : World) (hown : OwnB w b 5 v l) (hb : b ≤ w.heap.size) (hroom : l.length ≤ 100000000) (hm : n ≤ 1000) (hr : Rd w (fun k => k < w.heap.size ∧ k ∉ Xof v) A 1 n (xs.map (Value.int .i64)))
    (hx : Box (∀ x ∈ xs, 0 ≤ x ∧ x ≤ 1099511627776)) :
    Calls Try.prog 25 #[v, .slice A n c] w fun e w' => ∃ v', e = .returned v' ∧ OwnB w' b 5 v' (l ++ cntsL xs) ∧ w.grownBy w' v.ownBlock ∧ Box (∀ k, v'.ownBlock = some k → w.heap.size ≤ k ∨ v.ownBlock = some k) := by
  have hl : Box (xs.length = n) := box (by have := hr.len; simpa using this)
  have hF0 := Fr.oneB hown
  clear hown
  go_enter Try.func25, Try.ntmps25
  go_wp2
  go_loopw [0, 9] (fun q i wr => ∃ (k : Nat) (v' : Value), k ≤ n ∧ i = .int .i64 k ∧ q = v' ∧ Fr (Xof v) w wr [Ent.bytes b 5 v' (l ++ cntsL (xs.take k))]) (fun _ i _ => n - (intOf i).toNat)
  case atStart => exact ⟨0, v, by omega, rfl, rfl, by rw [List.take_zero, cntsL, List.append_nil]; exact hF0⟩
  case round =>
    clear hF0
    obtain ⟨k, v', hk, rfl, rfl, hF⟩ := hrel
    have hr' := hF.rdKeep hr
    by_cases hlt : k < n
    · obtain ⟨x, hx1⟩ : ∃ x, xs[k]? = some x := ⟨xs[k]'(by have := hl.out; omega), by simp⟩
      have hxb := hx.out x (List.mem_of_getElem? hx1)
      obtain ⟨y, rfl⟩ := Int.eq_ofNat_of_zero_le hxb.1
      have hyb : y ≤ 1099511627776 := by omega
      have hx2 : (xs.map (Value.int .i64))[k]? = some (.int .i64 (y : Int)) := by simp [hx1]
      have hT : cntsL (xs.take (k + 1)) = cntsL (xs.take k) ++ cnt y := by rw [take_snoc hx1, cntsL_snoc]; rfl
      have hlen := cntsL_len (xs.take k) (fun n hn => by have := hx.out n (List.mem_of_mem_take hn); omega)
      have hlen2 := cnt_len64 (n := y) (by omega)
      have hrm : (l ++ cntsL (xs.take k)).length + (cnt y).length ≤ 140737488355328 := by rw [List.length_append]; have : (xs.take k).length ≤ k := List.length_take_le _ _; omega
      clear hxb hlen hlen2
      replace hx1 := box hx1
      replace hx2 := box hx2
      replace hT := box hT
      have h64 : Box (y < 18446744073709551616) := box (by omega)
      go_wp2_with (first | (with_reducible refine lst (by with_unfolding_all rfl) (wp_indexAddr T_int hr' (by with_unfolding_all exact ⟨_, _, _, _, rfl, rfl, rfl⟩) (by omega) (by omega) ?_)) | (with_reducible refine lst (by with_unfolding_all rfl) (wp_load1C hr' hx2 Try.underlying3 rfl (by with_unfolding_all exact ⟨_, rfl, rfl⟩) (by first | (simp; done) | (simp; omega) | omega) ?_)))
      refine (count_any y wr h64).mono ?_
      rintro e w1 ⟨v1, rfl, hown1, hb1⟩
      obtain ⟨A1, c1, rfl, _, hr1⟩ := hown1.arg
      have hF1 := hF.call hb1
      go_wp2_with (first | ((with_reducible refine lst (by with_unfolding_all rfl) (wp_fapp0 T_u8 hF1 hb hr1 (by with_unfolding_all exact ⟨_, _, rfl, rfl, rfl⟩) hrm ?_)); intro v2 w2 hF2 hz2))
      go_roundw
      case rel => exact ⟨k + 1, v2, by omega, by go_num, rfl, by rw [hT.out, ← List.append_assoc]; exact hF2⟩
      case measure => simp [intOf]; omega
    · go_wp2
      go_ret
      rw [List.take_of_length_le (by have := hl.out; omega)] at hF
      exact ⟨_, rfl, hF.bytes0, hF.grownX, box fun k hk => (hF.fresh 0 _ rfl k hk).imp id (fun h => Xof_mem.1 h)⟩
end Go.Proofs.Ytcnjnkkdidpjiaa
