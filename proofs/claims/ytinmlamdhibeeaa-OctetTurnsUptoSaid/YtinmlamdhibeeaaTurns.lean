/-
  OctetTurns: the law's walk.
-/
import Derived.Test.YtinmlamdhibeeaaWB
import Derived.Test.YtinmlamdhibeeaaLib2
import Derived.Test.YtinmlamdhibeeaaPlain6
import Derived.BigQuiet
import Derived.StillTailTactics
namespace Go.Proofs.Ytinmlamdhibeeaa
open Go.RowKit

theorem turn8 (x : UInt8) (r : Nat) (hr : r < 8) : ∃ d : UInt8, bits BinOp.xor IntKind.u8 (x.toNat : Int) ((2 : Int) ^ r % 256) = (d.toNat : Int) ∧ d.toNat = x.toNat ^^^ 2 ^ r := by
  have h : ∀ r : Fin 8, ∀ n : Fin 256, bits BinOp.xor IntKind.u8 (n.val : Int) ((2 : Int) ^ r.val % 256) = ((n.val ^^^ 2 ^ r.val : Nat) : Int) := by decide +kernel
  have h1 := h ⟨r, hr⟩ ⟨x.toNat, x.toNat_lt⟩
  have h2 := byte_turn x.toNat r x.toNat_lt hr
  refine ⟨UInt8.ofNat (x.toNat ^^^ 2 ^ r), ?_, ?_⟩
  · rw [h1]; simp only [UInt8.toNat_ofNat']; rw [Nat.mod_eq_of_lt h2]
  · simp only [UInt8.toNat_ofNat']; rw [Nat.mod_eq_of_lt h2]

set_option maxRecDepth 20000 in
set_option maxHeartbeats 800000 in
theorem octetTurns_any (A : Option Addr) (n c : Nat) (l : List UInt8) (at_ : Int) (t : Nat) (w : World) (hn : n ≤ 1048576) (hr : Rd w (· < w.heap.size) A 1 n (l.map bv)) (ht : Box (t < 4294967296)) :
    Calls Try.prog 5 #[.slice A n c, .int .i64 at_, .int .u32 t] w fun e w' => e = .returned (.bool true) ∧ Below w.heap.size w w' := by
  have hl := box hr.bytes_len
  by_cases h4 : 4 ≤ n ∧ t ≠ 0
  · obtain ⟨h4, h0⟩ := h4
    have ht0 : ((t : Int) == 0) = false := by rw [beq_eq_false_iff_ne]; omega
    go_enter Try.func5, Try.ntmps5
    go_wp2_with fail
    refine (awake_any w).mono ?_
    rintro e w1 ⟨rfl, hb1⟩
    have hr1 := hr.on hb1
    go_wp2_with fail
    refine (twin_any A n c l w1 (by omega) hr1).mono ?_
    rintro e w2 ⟨v2, rfl, hown2, hb2⟩
    obtain ⟨A2, c2, rfl, hc2, hr2⟩ := hown2.arg
    rw [hl.out] at hr2 hc2 hown2 ⊢
    obtain ⟨a, hat, ha⟩ : ∃ a : Nat, wrap64 ((IntKind.u64.wrap at_).tmod (8 * (n : Int) - 31)) = (a : Int) ∧ a + 32 ≤ 8 * n := by
      have h : IntKind.u64.wrap at_ = at_ % 18446744073709551616 := by simp [IntKind.wrap, IntKind.signed, IntKind.bits]
      have h0 : 0 ≤ at_ % 18446744073709551616 := by omega
      obtain ⟨m, hm⟩ := Int.eq_ofNat_of_zero_le h0
      have hlt : m % (8 * n - 31) < 8 * n - 31 := Nat.mod_lt _ (by omega)
      refine ⟨m % (8 * n - 31), ?_, by omega⟩
      rw [h, hm, show (8 * (n : Int) - 31) = ((8 * n - 31 : Nat) : Int) by omega, Int.tmod_eq_emod_of_nonneg (by omega), ← Int.natCast_emod]
      generalize m % (8 * n - 31) = r at hlt ⊢
      simp only [wrap64]
      omega
    go_wp2_with fail
    simp only [hat]
    clear hat
    go_loopw [32] (fun i wr => ∃ (k : Nat) (lq : List UInt8), k ≤ 32 ∧ i = .int .i64 k ∧ OwnB wr w1.heap.size 5 (.slice A2 n c2) lq ∧ Below w1.heap.size w1 wr ∧ Box (lq.length = n ∧ num l ^^^ num lq = t % 2 ^ k * 2 ^ a)) (fun i _ => 32 - (intOf i).toNat)
    case atStart => exact ⟨0, l, by omega, rfl, hown2, hb2, box ⟨hl.out, by rw [Nat.xor_self, Nat.pow_zero, Nat.mod_one, Nat.zero_mul]⟩⟩
    case round =>
      obtain ⟨k, lq, hk, rfl, hown, hb, hnum⟩ := hrel
      by_cases hlt : k < 32
      · have hbit := rrot_bit t k ht.out
        have hcast : ((t : Int) / 2 ^ k % 2) = ((t / 2 ^ k % 2 : Nat) : Int) := by simp
        by_cases h1 : t / 2 ^ k % 2 = 1
        · obtain ⟨j, hj⟩ : ∃ j, j = (a + k) / 8 := ⟨_, rfl⟩
          obtain ⟨r, hrr⟩ : ∃ r, r = (a + k) % 8 := ⟨_, rfl⟩
          have hj' : ((a : Int) + (k : Int)) / 8 = (j : Int) := by omega
          have hr' : ((a : Int) + (k : Int)) % 8 = (r : Int) := by omega
          have hjn : j < n := by omega
          have hr8 : r < 8 := by omega
          have hrd := hown.rd
          have h2 : ((t : Int) / 2 ^ k % 2 == 1) = true := by rw [hcast, h1]; rfl
          clear hcast
          obtain ⟨ad, x, rfl, hx, hcx⟩ := hrd.atB hjn
          replace hx := box hx
          replace hnum := box hnum.out
          have hxb := x.toNat_lt
          go_wp2_with fail
          have e1 : IntKind.i64.wrap ((a : Int) + (k : Int)) = (a : Int) + (k : Int) := IntWalk.i64_in _ (by omega)
          have e2 : ((a : Int) + (k : Int)).tdiv 8 = (j : Int) := by rw [Int.tdiv_eq_ediv_of_nonneg (by omega)]; omega
          have e3 : ((a : Int) + (k : Int)).tmod 8 = (r : Int) := by rw [Int.tmod_eq_emod_of_nonneg (by omega)]; omega
          have e4 : IntKind.i64.wrap (j : Int) = (j : Int) := IntWalk.i64_in _ (by omega)
          have e5 : IntKind.i64.wrap (r : Int) = (r : Int) := IntWalk.i64_in _ (by omega)
          have hjr : Box (8 * j + r = a + k) := box (by omega)
          clear hj hrr hj' hr'
          go_still_tail 14, (by kernel_rfl)
          change wpList _ _ _ _ _ wr.drew
          clear e1 e2 e3 e4 e5 h2 hcx
          have hownd := hown.drew
          have hbd : Below w1.heap.size w1 wr.drew := below_drewN hb 1
          obtain ⟨D, hD, hDx⟩ := turn8 x r hr8
          replace hD := box hD
          go_wp2_with (first | ((with_reducible refine lst (by with_unfolding_all rfl) (wp_storeB I_u8 hownd hbd (by with_unfolding_all exact ⟨_, _, rfl, rfl, rfl⟩) hjn ?_ ?_)); exact ⟨D, hD.out⟩; intro w3 d1 hd1 hown3 hb3 hs3))
          have hdd : d1 = D := by
            have : (D.toNat : Int) = (d1.toNat : Int) := hD.out.symm.trans hd1.out
            exact UInt8.toNat_inj.1 (by omega)
          subst hdd
          replace hs3 := box hs3
          clear hd1 hD
          go_roundw
          case rel =>
            refine ⟨k + 1, _, by omega, by go_num, hown3, hb3, box ⟨by rw [List.length_set]; exact hnum.out.1, ?_⟩⟩
            rw [num_set lq j r x d1 hx.out hr8 hDx, hjr.out, ← Nat.xor_assoc, hnum.out.2]
            exact turn_bit t k a h1
          case measure => simp [intOf]; omega
        · have h1' : t / 2 ^ k % 2 = 0 := by omega
          have h2 : ((t : Int) / 2 ^ k % 2 == 1) = false := by rw [hcast, h1']; rfl
          clear hcast
          go_wp2
          go_roundw
          case rel => exact ⟨k + 1, lq, by omega, by go_num, hown, hb, box ⟨hnum.out.1, by rw [hnum.out.2, turn_no t k h1']⟩⟩
          case measure => simp [intOf]; omega
      · obtain rfl : k = 32 := by omega
        have hbw := blw hb1 hb
        have hrl := hr.on hbw
        obtain ⟨A3, c3, hA3, _, hr3⟩ := hown.arg
        have hr3' : Rd wr (· < wr.heap.size) A2 1 n (lq.map bv) := by
          injection hA3 with h1 h2 h3
          subst h1 h3
          rw [← h2] at hr3; exact hr3
        clear hA3 hr3
        have hne : ((crcN l : Int) != (crcN lq : Int)) = true := by
          have h1 := crc_turns l lq 4294967295 a t (by rw [hl.out, hnum.out.1]) (by rw [hnum.out.2, Nat.mod_eq_of_lt (by have := ht.out; omega)]) ht.out h0 (by rw [hl.out]; exact ha)
          have h2 := crcL_lt l (c := 4294967295) (by omega)
          have h3 := crcL_lt lq (c := 4294967295) (by omega)
          rw [bne_iff_ne]
          unfold crcN
          omega
        clear hnum hown hb
        have k1 := box (crc_any A n c l wr (by omega) hrl)
        have k2 := box (crc_any A2 n c2 lq wr (by omega) hr3')
        go_wp2_with fail
        refine k1.out.mono ?_
        rintro e w' ⟨rfl, rfl⟩
        go_wp2_with fail
        refine k2.out.mono ?_
        rintro e w' ⟨rfl, rfl⟩
        go_wp2_with fail
        go_ret
        exact ⟨rfl, hbw⟩
  · go_enter Try.func5, Try.ntmps5
    go_wp2_with fail
    refine (awake_any w).mono ?_
    rintro e w1 ⟨rfl, hb1⟩
    by_cases h4' : n < 4
    · go_wp2_with fail
      refine (awake_any w1).mono ?_
      rintro e w2 ⟨rfl, hb2⟩
      go_wp2_with fail
      go_ret
      exact ⟨rfl, blw hb1 hb2⟩
    · obtain rfl : t = 0 := by omega
      go_wp2_with fail
      refine (awake_any w1).mono ?_
      rintro e w2 ⟨rfl, hb2⟩
      go_wp2_with fail
      go_ret
      exact ⟨rfl, blw hb1 hb2⟩
end Go.Proofs.Ytinmlamdhibeeaa
