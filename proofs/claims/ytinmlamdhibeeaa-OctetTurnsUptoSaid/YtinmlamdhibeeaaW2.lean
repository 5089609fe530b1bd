/-
  Walks of octet: turned words, sums.
-/
import Derived.Test.YtinmlamdhibeeaaW1
namespace Go.Proofs.Ytinmlamdhibeeaa
open Go.RowKit

theorem and31 (n : Int) : bits BinOp.and IntKind.i64 n 31 = n % 32 := by
  have h : (BitVec.ofInt 64 n &&& BitVec.ofInt 64 31).toNat = (n % 32).toNat := by
    rw [BitVec.toNat_and, BitVec.toNat_ofInt, show (BitVec.ofInt 64 31).toNat = 31 from rfl, nat_mask5]
    omega
  unfold bits
  show IntKind.i64.wrap ((BitVec.ofInt 64 n &&& BitVec.ofInt 64 31).toNat : Int) = _
  rw [h, IntWalk.i64_in _ (by omega)]
  omega

theorem and31u (k : Nat) (hk : k < 32) : bits BinOp.and IntKind.u64 (IntKind.u64.wrap (-(k : Int))) 31 = (((32 - k) % 32 : Nat) : Int) := by
  have hw : IntKind.u64.wrap (-(k : Int)) = (((18446744073709551616 - k) % 18446744073709551616 : Nat) : Int) := by
    rw [IntKind.wrap_u64]; omega
  rw [hw, show (31 : Int) = ((31 : Nat) : Int) from rfl, u64_and_nat _ _ (by omega) (by omega), nat_mask5]
  congr 1
  omega

/-- What the walk comes to, at a turn of s to the left. -/
theorem rot_form (X s : Nat) (hX : X < 4294967296) :
    bits BinOp.or IntKind.u32 ((X : Int) * 2 ^ s % 4294967296) ((X : Int) / 2 ^ (32 - s)) = ((X * 2 ^ s % 2 ^ 32 ||| X / 2 ^ (32 - s) : Nat) : Int) := by
  have h1 : ((X : Int) * 2 ^ s % 4294967296) = ((X * 2 ^ s % 2 ^ 32 : Nat) : Int) := by simp
  have h2 : ((X : Int) / 2 ^ (32 - s)) = ((X / 2 ^ (32 - s) : Nat) : Int) := by simp
  rw [h1, h2, u32_or_nat _ _ (Nat.mod_lt _ (by decide)) (Nat.lt_of_le_of_lt (Nat.div_le_self _ _) hX)]

set_option maxRecDepth 20000 in
set_option maxHeartbeats 400000 in
theorem rot_any (X : Nat) (n : Int) (w : World) (hx : Box (X < 4294967296)) :
    Calls Try.prog 14 #[.int .u32 X, .int .i64 n] w fun e w' => e = .returned (.int .u32 (rotN X (n % 32).toNat : Nat)) ∧ w = w' := by
  have h31 := and31 n
  obtain ⟨k, hk, hn⟩ : ∃ k : Nat, k < 32 ∧ n % 32 = (k : Int) := ⟨(n % 32).toNat, by omega, by omega⟩
  rw [hn] at h31 ⊢
  rw [Int.toNat_natCast]
  have h32 := and31u k hk
  obtain ⟨s, hs, hsk⟩ : ∃ s, s < 32 ∧ s = (32 - k) % 32 := ⟨_, by omega, rfl⟩
  have hfin : rotN X k = (X * 2 ^ s % 2 ^ 32 ||| X / 2 ^ (32 - s)) := by rw [hsk]; rfl
  rw [← hsk] at h32
  replace hfin := box hfin
  clear hn hsk
  go_enter Try.func14, Try.ntmps14
  have hf := rot_form X s hx.out
  rw [← hfin.out] at hf
  go_wp2
  go_ret
  exact ⟨rfl, rfl⟩

theorem crc_step (E : Nat) (h : E < 4294967296) :
    bits BinOp.xor IntKind.u32 ((E : Int) / 2) (bits BinOp.and IntKind.u32 3988292384 (-bits BinOp.and IntKind.u32 (E : Int) 1 % 4294967296)) = (crc1 E : Nat) := by
  have h1 : bits BinOp.and IntKind.u32 (E : Int) 1 = ((E % 2 : Nat) : Int) := by
    rw [show (1 : Int) = ((1 : Nat) : Int) from rfl, u32_and_nat _ _ h (by decide), nat_mask1]
  rw [h1, show ((E : Int) / 2) = ((E / 2 : Nat) : Int) by omega]
  unfold crc1
  rcases (show E % 2 = 0 ∨ E % 2 = 1 by omega) with h2 | h2
  · rw [h2, if_neg (by decide)]
    rw [show bits BinOp.and IntKind.u32 3988292384 (-((0 : Nat) : Int) % 4294967296) = ((0 : Nat) : Int) from by decide +kernel, u32_xor_nat _ _ (by omega) (by decide), Nat.xor_zero]
  · rw [h2, if_pos rfl]
    rw [show bits BinOp.and IntKind.u32 3988292384 (-((1 : Nat) : Int) % 4294967296) = ((3988292384 : Nat) : Int) from by decide +kernel, u32_xor_nat _ _ (by omega) (by decide)]

theorem crc_not (C : Nat) (h : C < 4294967296) : bits BinOp.xor IntKind.u32 IntKind.u32.max (C : Int) = ((4294967295 - C : Nat) : Int) := by
  rw [show IntKind.u32.max = ((4294967295 : Nat) : Int) from by decide +kernel, u32_xor_nat _ _ (by decide) h]
  congr 1
  refine Nat.eq_of_testBit_eq fun i => ?_
  rw [Nat.testBit_xor, show 4294967295 - C = 2 ^ 32 - (C + 1) by omega, Nat.testBit_two_pow_sub_succ h, show (4294967295 : Nat) = 2 ^ 32 - 1 from rfl, Nat.testBit_two_pow_sub_one]
  by_cases hi : i < 32
  · simp [hi]
  · have h3 : C.testBit i = false := Nat.testBit_lt_two_pow (Nat.lt_of_lt_of_le h (Nat.pow_le_pow_right (n := 2) (by decide) (Nat.le_of_not_lt hi)))
    simp [hi, h3]

set_option maxRecDepth 20000 in
set_option maxHeartbeats 400000 in
theorem crc_any (A : Option Addr) (n c : Nat) (l : List UInt8) (w : World) (hm : n ≤ 9223372036854775807) (hr : Rd w (· < w.heap.size) A 1 n (l.map bv)) :
    Calls Try.prog 16 #[.slice A n c] w fun e w' => e = .returned (.int .u32 (crcN l : Nat)) ∧ w = w' := by
  have hl := box hr.bytes_len
  go_enter Try.func16, Try.ntmps16
  go_wp2
  go_loop [3, 8] (fun x i => ∃ k : Nat, k ≤ n ∧ i = .int .i64 k ∧ x = .int .u32 (crcL 4294967295 (l.take k) : Nat)) (fun _ i => n - (intOf i).toNat)
  case atStart => exact ⟨0, by omega, rfl, rfl⟩
  case round =>
    obtain ⟨k, hk, rfl, rfl⟩ := hrel
    obtain ⟨C, hC⟩ : ∃ C, C = crcL 4294967295 (l.take k) := ⟨_, rfl⟩
    rw [← hC]
    have hC2 := box (crcL_lt (l.take k) (c := 4294967295) (by decide))
    rw [← hC] at hC2
    have HC := box hC
    clear hC
    by_cases hlt : k < n
    · go_wp2_with (first | (with_reducible refine lst (by with_unfolding_all rfl) (wp_indexAddr T_u8 hr (by with_unfolding_all exact ⟨_, _, _, _, rfl, rfl, rfl⟩) (by omega) (by omega) ?_)) | ((with_reducible refine lst (by with_unfolding_all rfl) (wp_loadB hr Try.underlying5 rfl (by with_unfolding_all exact ⟨_, rfl, rfl⟩) (by omega) ?_)); intro c hc; (try simp only [Int.toNat_natCast, Nat.mul_one] at hc); replace hc := box hc; have clt : c.toNat < 256 := c.toNat_lt))
      have hD2 : C ^^^ c.toNat < 4294967296 := xor_lt (k := 32) hC2.out (by omega)
      rw [u32_xor_nat _ _ hC2.out (by omega)]
      obtain ⟨D, hD⟩ : ∃ D, D = C ^^^ c.toNat := ⟨_, rfl⟩
      rw [← hD] at hD2 ⊢
      replace hD := box hD
      replace hD2 := box hD2
      go_loop [3, 16] (fun x i => ∃ j : Nat, j ≤ 8 ∧ i = .int .i64 j ∧ x = .int .u32 (crcK j D : Nat)) (fun _ i => 8 - (intOf i).toNat)
      case atStart => exact ⟨0, by omega, rfl, rfl⟩
      case round =>
        obtain ⟨j, hj, rfl, rfl⟩ := hrel
        have hE2 := crcK_lt hD2.out j
        obtain ⟨E, hE⟩ : ∃ E, E = crcK j D := ⟨_, rfl⟩
        rw [← hE] at hE2 ⊢
        have hst := crc_step E hE2
        replace hE := box hE
        clear hE2
        by_cases hjt : j < 8
        · go_wp2
          go_round
          case rel => exact ⟨j + 1, by omega, by go_num, by rw [crcK, ← hE.out]⟩
          case measure => simp [intOf]; omega
        · go_wp2
          go_round
          case rel => exact ⟨k + 1, by omega, by go_num, by rw [take_snoc hc.out, crcL_snoc, ← HC.out, ← hD.out, hE.out, show j = 8 by omega]⟩
          case measure => simp [intOf]; omega
    · have hn := crc_not C hC2.out
      go_wp2
      go_ret
      exact ⟨by rw [HC.out, List.take_of_length_le (by have := hl.out; omega)]; rfl, rfl⟩
end Go.Proofs.Ytinmlamdhibeeaa
