/-
  Walks of layer 1: turned words of the document's answer; numbers' bytes; a number of bytes; a word at a place.
-/
import Derived.Test.YtinmlamdhibeeaaW3
import Derived.Test.YtinmlamdhibeeaaPlain
namespace Go.Proofs.Ytinmlamdhibeeaa
open Go.RowKit

theorem rrot_lt (X k : Nat) : ∀ i, rrot X k i < 4294967296
  | 0 => by rw [rrot]; decide
  | i + 1 => by
    rw [rrot]
    split
    · exact Nat.or_lt_two_pow (n := 32) (rrot_lt X k i) (Nat.pow_lt_pow_right (by decide) (Nat.mod_lt _ (by decide)))
    · exact rrot_lt X k i

theorem rrot_bit (X i : Nat) (hX : X < 4294967296) : bits BinOp.and IntKind.u32 ((X : Int) / 2 ^ i) 1 = ((X / 2 ^ i % 2 : Nat) : Int) := by
  rw [show ((X : Int) / 2 ^ i) = ((X / 2 ^ i : Nat) : Int) by simp, show (1 : Int) = ((1 : Nat) : Int) from rfl, u32_and_nat _ _ (Nat.lt_of_le_of_lt (Nat.div_le_self _ _) hX) (by decide), nat_mask1]
theorem rrot_or (R m : Nat) (hR : R < 4294967296) (hm : m < 32) : bits BinOp.or IntKind.u32 (R : Int) (2 ^ m % 4294967296) = ((R ||| 2 ^ m : Nat) : Int) := by
  have h2 : 2 ^ m < 4294967296 := Nat.pow_lt_pow_right (n := 32) (by decide) hm
  have h1 : ((2 : Int) ^ m % 4294967296) = ((2 ^ m : Nat) : Int) := by
    have : ((2 : Int) ^ m) = ((2 ^ m : Nat) : Int) := by simp
    rw [this]
    generalize 2 ^ m = q at *
    omega
  rw [h1, u32_or_nat _ _ hR h2]

set_option maxRecDepth 20000 in
set_option maxHeartbeats 800000 in
theorem rrot_any (X : Nat) (n : Int) (w : World) (hx : Box (X < 4294967296)) :
    Calls Try.prog 15 #[.int .u32 X, .int .i64 n] w fun e w' => e = .returned (.int .u32 (rrot X (n % 32).toNat 32 : Nat)) ∧ w = w' := by
  obtain ⟨k, hk, hn⟩ : ∃ k : Nat, k < 32 ∧ n % 32 = (k : Int) := ⟨(n % 32).toNat, by omega, by omega⟩
  rw [hn, Int.toNat_natCast]
  have ht : n.tmod 32 = (k : Int) ∨ n.tmod 32 = (k : Int) - 32 ∧ 0 < k := by
    rcases Int.le_total 0 n with h | h
    · left; rw [Int.tmod_eq_emod_of_nonneg h, hn]
    · have h1 : n.tmod 32 = -((-n).tmod 32) := by rw [Int.neg_tmod, Int.neg_neg]
      rw [h1, Int.tmod_eq_emod_of_nonneg (by omega)]
      omega
  clear hn
  rcases ht with ht | ⟨ht, h0⟩
  all_goals
    go_enter Try.func15, Try.ntmps15
    go_wp2
    go_loop [6, 7] (fun x i => ∃ j : Nat, j ≤ 32 ∧ i = .int .i64 j ∧ x = .int .u32 (rrot X k j : Nat)) (fun _ i => 32 - (intOf i).toNat)
    case atStart => exact ⟨0, by omega, rfl, rfl⟩
    case round =>
      obtain ⟨j, hj, rfl, rfl⟩ := hrel
      by_cases hlt : j < 32
      · have hb := rrot_bit X j hx.out
        have ho := rrot_or (rrot X k j) ((j + 32 - k) % 32) (rrot_lt X k j) (Nat.mod_lt _ (by decide))
        by_cases h1 : X / 2 ^ j % 2 = 1
        · have hs : rrot X k (j + 1) = rrot X k j ||| 2 ^ ((j + 32 - k) % 32) := by rw [rrot, if_pos h1]
          replace hs := box hs
          go_wp2
          go_round
          case rel => exact ⟨j + 1, by omega, by go_num, by rw [hs.out]⟩
          case measure => simp [intOf]; omega
        · have hs : rrot X k (j + 1) = rrot X k j := by rw [rrot, if_neg h1]
          replace hs := box hs
          have h2 : ((X : Int) / 2 ^ j % 2 == 1) = false := by
            have : ((X : Int) / 2 ^ j % 2) = ((X / 2 ^ j % 2 : Nat) : Int) := by simp
            rw [this]; simp only [beq_eq_false_iff_ne, ne_eq]; omega
          go_wp2
          go_round
          case rel => exact ⟨j + 1, by omega, by go_num, by rw [hs.out]⟩
          case measure => simp [intOf]; omega
      · go_wp2
        go_ret
        exact ⟨by rw [show (32 : Nat) = j by omega]; rfl, rfl⟩

theorem pos_some {A : Option Addr} {n size : Nat} {w : World} {S : Nat → Prop} {xs : List Value} (h : Rd w S A size n xs) (hn : 0 < n) : ∃ ad, A = some ad := ⟨_, h.some_ hn⟩

theorem get_mul (C : Nat) (d : UInt8) (hC : C < 72057594037927936) :
    IntKind.u64.wrap ((C : Int) * 256) = ((C * 256 : Nat) : Int) ∧ bits BinOp.or IntKind.u64 ((C : Int) * 256) (d.toNat : Int) = ((C * 256 + d.toNat : Nat) : Int) ∧
      IntKind.u64.wrap ((C : Int) * 256 + (d.toNat : Int)) = ((C * 256 + d.toNat : Nat) : Int) := by
  have hd := d.toNat_lt
  refine ⟨by rw [IntWalk.u64_in _ (by omega)]; omega, ?_, by rw [IntWalk.u64_in _ (by omega)]; omega⟩
  rw [show ((C : Int) * 256) = ((C * 256 : Nat) : Int) by omega, u64_or_nat _ _ (by omega) (by omega), nat_join 8 (C * 256) d.toNat (by omega) (by omega)]

theorem getN_snoc (l : List UInt8) (c : UInt8) : getN (l ++ [c]) = getN l * 256 + c.toNat := by simp [getN]
theorem getN_lt_from : ∀ (l : List UInt8) (a j : Nat), a < 2 ^ (8 * j) → l.foldl (fun n c => n * 256 + c.toNat) a < 2 ^ (8 * (j + l.length))
  | [], a, j, h => by simpa using h
  | c :: l, a, j, h => by
    have h2 := c.toNat_lt
    have h3 := getN_lt_from l (a * 256 + c.toNat) (j + 1) (by rw [Nat.mul_add, Nat.pow_add]; omega)
    rw [List.foldl_cons, List.length_cons, show j + (l.length + 1) = j + 1 + l.length by omega]
    exact h3
theorem getN_lt (k : Nat) (l : List UInt8) (h : l.length ≤ k) : getN l < 2 ^ (8 * k) :=
  Nat.lt_of_lt_of_le (getN_lt_from l 0 0 (by simp)) (Nat.pow_le_pow_right (by decide) (by omega))
theorem getN_next {l : List UInt8} {k : Nat} {c : UInt8} (hk : k < 8) (hc : l[k]? = some c) :
    getN (l.take (k + 1)) = getN (l.take k) * 256 + c.toNat ∧ getN (l.take k) < 72057594037927936 ∧ getN (l.take (k + 1)) < 18446744073709551616 := by
  refine ⟨by rw [take_snoc hc, getN_snoc], ?_, ?_⟩
  · exact Nat.lt_of_lt_of_le (getN_lt 7 _ (by rw [List.length_take]; omega)) (by decide)
  · exact Nat.lt_of_lt_of_le (getN_lt 8 _ (by rw [List.length_take]; omega)) (by decide)

set_option maxRecDepth 20000 in
set_option maxHeartbeats 400000 in
theorem get_any (A : Option Addr) (n c : Nat) (l : List UInt8) (w : World) (hm : n ≤ 9223372036854775807) (hr : Rd w (· < w.heap.size) A 1 n (l.map bv)) :
    Calls Try.prog 25 #[.slice A n c] w fun e w' => e = .returned (.tuple #[.int .u64 (if n ≤ 8 then (getN l : Nat) else 0 : Nat), .bool (decide (n ≤ 8))]) ∧ w = w' := by
  have hl := box hr.bytes_len
  by_cases h8 : n ≤ 8
  · rw [if_pos h8, decide_eq_true h8]
    go_enter Try.func25, Try.ntmps25
    go_wp2
    go_loop [4, 12] (fun x i => ∃ k : Nat, k ≤ n ∧ i = .int .i64 k ∧ x = .int .u64 (getN (l.take k))) (fun _ i => n - (intOf i).toNat)
    case atStart => exact ⟨0, by omega, rfl, rfl⟩
    case round =>
      obtain ⟨k, hk, rfl, rfl⟩ := hrel
      by_cases hlt : k < n
      · obtain ⟨d, hd⟩ : ∃ d, l[k]? = some d := ⟨l[k]'(by have := hl.out; omega), by simp⟩
        obtain ⟨C, hC⟩ : ∃ C, C = getN (l.take k) := ⟨_, rfl⟩
        have hx := getN_next (show k < 8 by omega) hd
        rw [← hC] at hx ⊢
        have dlt : d.toNat < 256 := d.toNat_lt
        have hg := get_mul C d hx.2.1
        replace hd := box hd
        replace hx := box hx
        replace hC := box hC
        obtain ⟨hg1, hg2, hg3⟩ := hg
        go_wp2_with (first | (with_reducible refine lst (by with_unfolding_all rfl) (wp_indexAddr T_u8 hr (by with_unfolding_all exact ⟨_, _, _, _, rfl, rfl, rfl⟩) (by omega) (by omega) ?_)) | (with_reducible refine lst (by with_unfolding_all rfl) (wp_loadC hr hd Try.underlying5 rfl (by with_unfolding_all exact ⟨_, rfl, rfl⟩) (by first | (simp; done) | (simp; omega) | omega) ?_)))
        go_round
        case rel => exact ⟨k + 1, by omega, by go_num, by rw [hx.out.1]; go_num⟩
        case measure => simp [intOf]; omega
      · go_wp2
        go_ret2
        exact ⟨by rw [show l.take k = l from List.take_of_length_le (by have := hl.out; omega)]; rfl, rfl⟩
  · rw [if_neg h8, decide_eq_false h8]
    go_enter Try.func25, Try.ntmps25
    go_wp2
    go_ret2
    exact ⟨rfl, rfl⟩

set_option maxRecDepth 20000 in
set_option maxHeartbeats 400000 in
theorem rget_any (A : Option Addr) (n c : Nat) (l : List UInt8) (w : World) (hm : n ≤ 9223372036854775807) (hr : Rd w (· < w.heap.size) A 1 n (l.map bv)) :
    Calls Try.prog 34 #[.slice A n c] w fun e w' => e = .returned (.tuple #[.int .u64 (if n ≤ 8 then (getN l : Nat) else 0 : Nat), .bool (decide (n ≤ 8))]) ∧ w = w' := by
  have hl := box hr.bytes_len
  by_cases h8 : n ≤ 8
  · rw [if_pos h8, decide_eq_true h8]
    go_enter Try.func34, Try.ntmps34
    go_wp2
    go_loop [4, 5] (fun x i => ∃ k : Nat, k ≤ n ∧ i = .int .i64 k ∧ x = .int .u64 (getN (l.take k))) (fun _ i => n - (intOf i).toNat)
    case atStart => exact ⟨0, by omega, rfl, rfl⟩
    case round =>
      obtain ⟨k, hk, rfl, rfl⟩ := hrel
      by_cases hlt : k < n
      · obtain ⟨d, hd⟩ : ∃ d, l[k]? = some d := ⟨l[k]'(by have := hl.out; omega), by simp⟩
        obtain ⟨C, hC⟩ : ∃ C, C = getN (l.take k) := ⟨_, rfl⟩
        have hx := getN_next (show k < 8 by omega) hd
        rw [← hC] at hx ⊢
        have dlt : d.toNat < 256 := d.toNat_lt
        have hg := get_mul C d hx.2.1
        replace hd := box hd
        replace hx := box hx
        replace hC := box hC
        obtain ⟨hg1, hg2, hg3⟩ := hg
        go_wp2_with (first | (with_reducible refine lst (by with_unfolding_all rfl) (wp_indexAddr T_u8 hr (by with_unfolding_all exact ⟨_, _, _, _, rfl, rfl, rfl⟩) (by omega) (by omega) ?_)) | (with_reducible refine lst (by with_unfolding_all rfl) (wp_loadC hr hd Try.underlying5 rfl (by with_unfolding_all exact ⟨_, rfl, rfl⟩) (by first | (simp; done) | (simp; omega) | omega) ?_)))
        go_round
        case rel => exact ⟨k + 1, by omega, by go_num, by rw [hx.out.1]; go_num⟩
        case measure => simp [intOf]; omega
      · go_wp2
        go_ret2
        exact ⟨by rw [show l.take k = l from List.take_of_length_le (by have := hl.out; omega)]; rfl, rfl⟩
  · rw [if_neg h8, decide_eq_false h8]
    go_enter Try.func34, Try.ntmps34
    go_wp2
    go_ret2
    exact ⟨rfl, rfl⟩

theorem ret_word {g : Nat} (h : g < 2 ^ (8 * 4)) : (g : Int) = (g : Int) % 4294967296 := by omega
set_option maxRecDepth 20000 in
set_option maxHeartbeats 400000 in
theorem word_any (A : Option Addr) (n c : Nat) (l : List UInt8) (at_ : Int) (w : World) (hm : n ≤ 9223372036854775807) (hnc : n ≤ c) (hr : Rd w (· < w.heap.size) A 1 n (l.map bv)) :
    Calls Try.prog 35 #[.slice A n c, .int .i64 at_] w fun e w' => e = .returned (if 0 ≤ at_ ∧ at_ + 4 ≤ n then .tuple #[.int .u32 (getN ((l.drop at_.toNat).take 4)), .bool true] else .tuple #[.int .u32 0, .bool false]) ∧ w = w' := by
  have hl := box hr.bytes_len
  by_cases h0 : 0 ≤ at_
  · by_cases h4 : at_ + 4 ≤ n
    · rw [if_pos ⟨h0, h4⟩]
      obtain ⟨q, rfl⟩ := Int.eq_ofNat_of_zero_le h0
      rw [Int.toNat_natCast]
      have h5 : ¬ ((n : Int) - 4 < (q : Int)) := by omega
      have h6 : ¬ ((q : Int) < 0) := by omega
      have h7 : q + 4 ≤ n := by omega
      go_enter Try.func35, Try.ntmps35
      go_wp2_with fail
      refine (get_any _ 4 _ _ w (by omega) (hr.mapB (k := q) (j := 4) h7)).mono ?_
      rintro e w' ⟨rfl, rfl⟩
      go_wp2
      go_ret2
      have hg := getN_lt 4 ((l.drop q).take 4) (by rw [List.length_take]; omega)
      exact ⟨ret2 (int_eq (ret_word hg).symm) rfl, rfl⟩
    · rw [if_neg (fun h => h4 h.2)]
      go_enter Try.func35, Try.ntmps35
      go_wp2
      go_ret2
      exact ⟨rfl, rfl⟩
  · rw [if_neg (fun h => h0 h.1)]
    go_enter Try.func35, Try.ntmps35
    go_wp2
    go_ret2
    exact ⟨rfl, rfl⟩
end Go.Proofs.Ytinmlamdhibeeaa
