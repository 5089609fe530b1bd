/-
  OctetBack: the law's walk.
-/
import Derived.Test.YtinmlamdhibeeaaWB
import Derived.BigQuiet
namespace Go.Proofs.Ytinmlamdhibeeaa
open Go.RowKit

theorem putL_at (n : Nat) : ∀ (s k : Nat), k < s → (putL n s)[k]? = some (UInt8.ofNat (n / 2 ^ (8 * (s - 1 - k)) % 256))
  | 0, k, h => by omega
  | s + 1, 0, _ => by rw [putL]; simp
  | s + 1, k + 1, h => by
    rw [putL, List.getElem?_cons_succ, putL_at n s k (by omega)]
    rw [show s + 1 - 1 - (k + 1) = s - 1 - k by omega]
theorem getN_putL_from (n : Nat) : ∀ (s a : Nat), (putL n s).foldl (fun m c => m * 256 + c.toNat) a = a * 2 ^ (8 * s) + n % 2 ^ (8 * s)
  | 0, a => by simp [putL, Nat.mod_one]
  | s + 1, a => by
    rw [putL, List.foldl_cons, getN_putL_from n s]
    have h1 : (UInt8.ofNat (n / 2 ^ (8 * s) % 256)).toNat = n / 2 ^ (8 * s) % 256 := by simp
    rw [h1, show 8 * (s + 1) = 8 * s + 8 by omega, Nat.pow_add, show (2 : Nat) ^ 8 = 256 from rfl]
    have h2 : n % (2 ^ (8 * s) * 256) = n % 2 ^ (8 * s) + 2 ^ (8 * s) * (n / 2 ^ (8 * s) % 256) := Nat.mod_mul
    rw [h2, Nat.add_mul, Nat.mul_assoc, Nat.mul_comm 256, Nat.mul_comm (2 ^ (8 * s)) (n / 2 ^ (8 * s) % 256)]
    omega
theorem getN_putL (n s : Nat) : getN (putL n s) = n % 2 ^ (8 * s) := by unfold getN; rw [getN_putL_from, Nat.zero_mul, Nat.zero_add]

set_option maxRecDepth 20000 in
set_option maxHeartbeats 400000 in
theorem octetBack_any (n : Nat) (size : Int) (w : World) (hn : Box (n < 18446744073709551616)) :
    Calls Try.prog 8 #[.int .u64 n, .int .i64 size] w fun e w' => e = .returned (.bool true) ∧ Below w.heap.size w w' := by
  obtain ⟨s, hs8, hs⟩ : ∃ s : Nat, s ≤ 8 ∧ wrap64 ((IntKind.u64.wrap size).tmod 9) = (s : Int) := by
    have h : IntKind.u64.wrap size = size % 18446744073709551616 := by simp [IntKind.wrap, IntKind.signed, IntKind.bits]
    have h0 : 0 ≤ size % 18446744073709551616 := by omega
    obtain ⟨m, hm⟩ := Int.eq_ofNat_of_zero_le h0
    refine ⟨m % 9, by omega, ?_⟩
    rw [h, hm, Int.tmod_eq_emod_of_nonneg (by omega)]
    rw [show ((m : Int) % 9) = ((m % 9 : Nat) : Int) by omega]
    have h9 : m % 9 < 9 := by omega
    generalize m % 9 = r at h9 ⊢
    simp [wrap64]
    omega
  have hput : Box (putS n (s : Int) = putL n s) := box (by unfold putS; rw [if_pos (by omega), Int.toNat_natCast])
  have hlen := box (putL_len n s)
  have hat := box (putL_at n s)
  obtain ⟨P, hP⟩ : ∃ P, P = 2 ^ (8 * s) := ⟨_, rfl⟩
  have hget := box (getN_putL n s)
  rw [← hP] at hget
  have hP0 : 0 < P := by rw [hP]; exact Nat.two_pow_pos _
  replace hP := box hP
  have hP0' : ((P : Int) == 0) = false := by rw [beq_eq_false_iff_ne]; omega
  go_enter Try.func8, Try.ntmps8
  go_wp2_with fail
  refine (put_any n (s : Int) w).mono ?_
  rintro e w1 ⟨v1, rfl, hown1, hb1⟩
  rw [hput.out] at hown1
  obtain ⟨A1, c1, rfl, hc1, hr1⟩ := hown1.arg
  rw [hlen.out] at hr1 hc1 ⊢
  go_wp2_with fail
  have hg := get_any A1 s c1 _ w1 (by omega) hr1
  rw [if_pos hs8, decide_eq_true hs8, hget.out] at hg
  refine hg.mono ?_
  rintro e w' ⟨rfl, rfl⟩
  go_wp2_with fail
  refine (awake_any _).mono ?_
  rintro e w2 ⟨rfl, hb2⟩
  have hb12 := blw hb1 hb2
  have hr2 := hr1.on hb2
  clear hg hown1 hr1
  go_wp2_with fail
  replace hs := box hs
  go_loopw [35] (fun i wr => ∃ k : Nat, k ≤ s ∧ i = .int .i64 k ∧ Below w.heap.size w wr ∧ Below w2.heap.size w2 wr) (fun i _ => s - (intOf i).toNat)
  case atStart => exact ⟨0, by omega, rfl, hb12, Below.refl _ _⟩
  case round =>
    obtain ⟨k, hk, rfl, hb, hb2'⟩ := hrel
    have hb2b := hb2'
    clear hb1 hb2 hb12
    by_cases hlt : k < s
    · have hr := hr2.below hb2'
      obtain ⟨ad, x, hA, hx, hcx⟩ := hr.atB hlt
      have hxv : (x.toNat : Int) = (n : Int) / 2 ^ (8 * (s - 1 - k)) % 256 := by
        rw [hat.out k hlt] at hx
        injection hx with hx
        rw [← hx]
        simp
      replace hx := box hx
      clear hr hr2
      subst hA
      have hne : ((x.toNat : Int) != (n : Int) / 2 ^ (8 * (s - 1 - k)) % 256) = false := by rw [hxv, bne_self_eq_false]
      clear hxv
      go_wp2
      go_quiet (fail)
      go_wp2
      go_roundw
      case rel => exact ⟨k + 1, by omega, by go_num, below_drewN hb _, below_drewN hb2' _⟩
      case measure => simp [intOf]; omega
    · by_cases h8 : s = 8
      · subst h8
        have hmod : ((n : Int) % (P : Int)) = (n : Int) := by
          have := hn.out
          rw [show P = 18446744073709551616 from hP.out]
          omega
        replace hP := hP.out
        clear hP
        go_wp2
        go_ret
        exact ⟨rfl, hb⟩
      · have hlt8 : s < 8 := by omega
        have hne8 : ((s : Int) == 8) = false := by rw [beq_eq_false_iff_ne]; omega
        have hw : IntKind.u64.wrap (2 ^ (8 * s)) = (P : Int) := by
          have h1 : (2 : Nat) ^ (8 * s) ≤ 2 ^ 56 := Nat.pow_le_pow_right (by omega) (by omega)
          have h2 : ((2 : Int) ^ (8 * s)) = (P : Int) := by rw [hP.out]; simp
          rw [h2]
          have h3 : P ≤ 72057594037927936 := by rw [hP.out]; exact h1
          simp [IntKind.wrap, IntKind.signed, IntKind.bits]
          omega
        go_wp2
        go_ret
        exact ⟨rfl, hb⟩
end Go.Proofs.Ytinmlamdhibeeaa
