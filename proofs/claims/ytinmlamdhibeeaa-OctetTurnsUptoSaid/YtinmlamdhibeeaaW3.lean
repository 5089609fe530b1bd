/-
  Walks of layer 1 of the document's answer: sums, copies; the counts that bytes begin with.
-/
import Derived.Test.YtinmlamdhibeeaaW2
import Derived.Deep.QuietTactic
import Derived.BigQuiet
namespace Go.Proofs.Ytinmlamdhibeeaa
open Go.RowKit

theorem ret_u32 {a b : Int} (h : a = b) : Ending.returned (.int .u32 a) = .returned (.int .u32 b) := by rw [h]
theorem rcrc_odd (E : Nat) (h : E < 4294967296) (h1 : E % 2 = 1) : bits BinOp.xor IntKind.u32 ((E : Int) / 2 % 4294967296) 3988292384 = (crc1 E : Nat) := by
  rw [show ((E : Int) / 2 % 4294967296) = ((E : Int) / 2) by omega, show ((E : Int) / 2) = ((E / 2 : Nat) : Int) by omega, show (3988292384 : Int) = ((3988292384 : Nat) : Int) from rfl, u32_xor_nat _ _ (by omega) (by decide), crc1, if_pos h1]

set_option maxRecDepth 20000 in
set_option maxHeartbeats 400000 in
theorem rcrc_any (A : Option Addr) (n c : Nat) (l : List UInt8) (w : World) (hm : n ≤ 9223372036854775807) (hr : Rd w (· < w.heap.size) A 1 n (l.map bv)) :
    Calls Try.prog 17 #[.slice A n c] w fun e w' => e = .returned (.int .u32 (crcN l : Nat)) ∧ w = w' := by
  have hl := box hr.bytes_len
  go_enter Try.func17, Try.ntmps17
  go_wp2
  go_loop [3, 4] (fun x i => ∃ k : Nat, k ≤ n ∧ i = .int .i64 k ∧ x = .int .u32 (crcL 4294967295 (l.take k) : Nat)) (fun _ i => n - (intOf i).toNat)
  case atStart => exact ⟨0, by omega, rfl, rfl⟩
  case round =>
    obtain ⟨k, hk, rfl, rfl⟩ := hrel
    obtain ⟨C, hC⟩ : ∃ C, C = crcL 4294967295 (l.take k) := ⟨_, rfl⟩
    rw [← hC]
    have hC2 := box (crcL_lt (l.take k) (c := 4294967295) (by decide))
    rw [← hC] at hC2
    have HC := box hC
    clear hC
    by_cases hlt : k < n
    · go_wp2_with (first | (with_reducible refine lst (by with_unfolding_all rfl) (wp_indexAddr T_u8 hr (by with_unfolding_all exact ⟨_, _, _, _, rfl, rfl, rfl⟩) (by omega) (by omega) ?_)) | ((with_reducible refine lst (by with_unfolding_all rfl) (wp_loadB hr Try.underlying5 rfl (by with_unfolding_all exact ⟨_, rfl, rfl⟩) (by omega) ?_)); intro c hc; (try simp only [Int.toNat_natCast, Nat.mul_one] at hc); replace hc := box hc; have clt : c.toNat < 256 := c.toNat_lt))
      have hD2 : C ^^^ c.toNat < 4294967296 := xor_lt (k := 32) hC2.out (by omega)
      rw [u32_xor_nat _ _ hC2.out (by omega)]
      obtain ⟨D, hD⟩ : ∃ D, D = C ^^^ c.toNat := ⟨_, rfl⟩
      rw [← hD] at hD2 ⊢
      replace hD := box hD
      replace hD2 := box hD2
      go_loop [3, 5] (fun x i => ∃ j : Nat, j ≤ 8 ∧ i = .int .i64 j ∧ x = .int .u32 (crcK j D : Nat)) (fun _ i => 8 - (intOf i).toNat)
      case atStart => exact ⟨0, by omega, rfl, rfl⟩
      case round =>
        obtain ⟨j, hj, rfl, rfl⟩ := hrel
        have hE2 := crcK_lt hD2.out j
        obtain ⟨E, hE⟩ : ∃ E, E = crcK j D := ⟨_, rfl⟩
        rw [← hE] at hE2 ⊢
        replace hE := box hE
        by_cases hjt : j < 8
        · by_cases ho : E % 2 = 1
          · have hst := rcrc_odd E hE2 ho
            replace hE2 := box hE2
            go_wp2
            go_round
            case rel => exact ⟨j + 1, by omega, by go_num, by rw [crcK, ← hE.out]⟩
            case measure => simp [intOf]; omega
          · have hev : crc1 E = E / 2 := by unfold crc1; rw [if_neg ho]
            replace hev := box hev
            replace hE2 := box hE2
            go_wp2
            go_round
            case rel => exact ⟨j + 1, by omega, by go_num, by rw [crcK, ← hE.out, hev.out, show ((E : Int) / 2 % 4294967296) = ((E / 2 : Nat) : Int) by have := hE2.out; omega]⟩
            case measure => simp [intOf]; omega
        · clear hE2
          go_wp2
          go_round
          case rel => exact ⟨k + 1, by omega, by go_num, by rw [take_snoc hc.out, crcL_snoc, ← HC.out, ← hD.out, hE.out, show j = 8 by omega]⟩
          case measure => simp [intOf]; omega
    · go_wp2
      go_ret
      have hC3 := hC2.out
      exact ⟨ret_u32 (by rw [crcN, HC.out, List.take_of_length_le (by have := hl.out; omega)] at *; omega), rfl⟩

set_option maxRecDepth 20000 in
set_option maxHeartbeats 400000 in
theorem twin_any (A : Option Addr) (n c : Nat) (l : List UInt8) (w : World) (hm : n ≤ 140737488355327) (hr : Rd w (· < w.heap.size) A 1 n (l.map bv)) :
    Calls Try.prog 18 #[.slice A n c] w fun e w' => ∃ v, e = .returned v ∧ OwnB w' w.heap.size 5 v l ∧ Below w.heap.size w w' := by
  have hl := box hr.bytes_len
  go_enter Try.func18, Try.ntmps18
  go_wp2
  go_loopw [3, 4] (fun v i wr => ∃ k : Nat, k ≤ n ∧ i = .int .i64 k ∧ OwnB wr w.heap.size 5 v (l.take k) ∧ Below w.heap.size w wr ∧ w.heap.size ≤ wr.heap.size) (fun _ i _ => n - (intOf i).toNat)
  case atStart => exact ⟨0, by omega, rfl, OwnB.nil _ _ _, Below.refl _ _, Nat.le_refl _⟩
  case round =>
    obtain ⟨k, hk, rfl, hown, hb, hB⟩ := hrel
    have hr' := hr.below hb
    have hroom : (l.take k).length + 1 ≤ 140737488355328 := by rw [List.length_take]; omega
    by_cases hlt : k < n
    · go_wp2_with (first | (at_builtin; go_must (with_reducible refine lst (by with_unfolding_all rfl) (wp_appB1 T_u8 hown hb (by with_unfolding_all exact ⟨_, _, rfl, rfl, rfl⟩) hroom hB ?_ ?_); exact byte_of (by omega) (by omega); intro v' w1 c hc hown1 hb1 hB1)) | (with_reducible refine lst (by with_unfolding_all rfl) (wp_indexAddr T_u8 hr' (by with_unfolding_all exact ⟨_, _, _, _, rfl, rfl, rfl⟩) (by omega) (by omega) ?_)) | ((with_reducible refine lst (by with_unfolding_all rfl) (wp_loadB hr' Try.underlying5 rfl (by with_unfolding_all exact ⟨_, rfl, rfl⟩) (by omega) ?_)); intro d hd; (try simp only [Int.toNat_natCast, Nat.mul_one] at hd); replace hd := box hd; have dlt : d.toNat < 256 := d.toNat_lt))
      go_roundw
      have hcd := byte_eq hc
      subst hcd
      case rel => exact ⟨k + 1, by omega, by go_num, by rw [take_snoc hd.out]; exact hown1, hb1, hB1⟩
      case measure => simp [intOf]; omega
    · go_wp2
      go_ret
      exact ⟨_, rfl, by rw [List.take_of_length_le (by have := hl.out; omega)] at hown; exact hown, hb⟩

theorem and127 (d : UInt8) : bits BinOp.and IntKind.u8 (d.toNat : Int) 127 = ((d.toNat % 128 : Nat) : Int) := by
  have := d.toNat_lt
  rw [show (127 : Int) = ((127 : Nat) : Int) from rfl, u8_and_nat _ _ (by omega) (by decide), nat_mask7]

/-- What a reading loop has come to: the whole reading is the reading from here on. -/
def RdcAt (l : List UInt8) (k : Nat) (C : Nat) : Prop := k ≤ 9 ∧ C < 2 ^ (7 * k) ∧ rdc 0 0 l = rdc k C (l.drop k)
theorem pow7 (k : Nat) : (2 : Nat) ^ (7 * (k + 1)) = 2 ^ (7 * k) * 128 := by rw [Nat.mul_add, Nat.pow_add]
theorem rdc_shift (d : UInt8) (k T : Nat) (hk : k ≤ 9) (h9 : k = 9 → d.toNat ≤ 1) (hT : T = d.toNat % 128 * 2 ^ (7 * k)) :
    IntKind.u64.wrap ((d.toNat : Int) % 128 * 2 ^ (7 * k)) = (T : Int) ∧ T < 18446744073709551616 := by
  have hd := d.toNat_lt
  have hlt : T < 18446744073709551616 := by
    rcases Nat.lt_or_ge k 9 with h | h
    · have h1 : 2 ^ (7 * k) ≤ 2 ^ 56 := Nat.pow_le_pow_right (by decide) (by omega)
      have h2 : T ≤ 127 * 2 ^ 56 := by rw [hT]; exact Nat.mul_le_mul (by omega) h1
      exact Nat.lt_of_le_of_lt h2 (by decide)
    · obtain rfl : k = 9 := by omega
      have h2 : T ≤ 1 * 2 ^ (7 * 9) := by rw [hT]; exact Nat.mul_le_mul (by have := h9 rfl; omega) (Nat.le_refl _)
      exact Nat.lt_of_le_of_lt h2 (by decide)
  have he : ((d.toNat : Int) % 128 * 2 ^ (7 * k)) = (T : Int) := by rw [hT]; simp
  refine ⟨?_, hlt⟩
  rw [he, IntWalk.u64_in _ (by omega)]
theorem rdc_or (C T k : Nat) (d : UInt8) (hC : C < 2 ^ (7 * k)) (hT : T < 18446744073709551616) (he : T = d.toNat % 128 * 2 ^ (7 * k)) (hk : k ≤ 9) :
    bits BinOp.or IntKind.u64 (C : Int) (T : Int) = ((C + T : Nat) : Int) := by
  have hC2 : C < 18446744073709551616 := Nat.lt_of_lt_of_le hC (Nat.le_trans (Nat.pow_le_pow_right (by decide) (show 7 * k ≤ 63 by omega)) (by decide))
  rw [u64_or_nat _ _ hC2 hT]
  congr 1
  rw [Nat.or_comm, nat_join (7 * k) T C (by rw [he]; exact Nat.mul_mod_left _ _) hC, Nat.add_comm]
theorem rdc_next {C T k : Nat} {d : UInt8} (hC : C < 2 ^ (7 * k)) (hT : T = d.toNat % 128 * 2 ^ (7 * k)) : C + T < 2 ^ (7 * (k + 1)) := by
  rw [pow7, hT]
  have h1 : d.toNat % 128 ≤ 127 := by omega
  have h2 := Nat.mul_le_mul_right (2 ^ (7 * k)) h1
  omega
theorem rdc_step {l : List UInt8} {k C : Nat} {d : UInt8} (h : RdcAt l k C) (hd : l[k]? = some d) :
    rdc 0 0 l = if (k = 9 ∧ 1 < d.toNat) ∨ (0 < k ∧ d.toNat = 0) then (0, 0, 10)
      else if d.toNat < 128 then (C + d.toNat % 128 * 2 ^ (7 * k), k + 1, 0) else rdc (k + 1) (C + d.toNat % 128 * 2 ^ (7 * k)) (l.drop (k + 1)) := by
  have hlt : k < l.length := (List.getElem?_eq_some_iff.1 hd).1
  have he : l[k] = d := (List.getElem?_eq_some_iff.1 hd).2
  rw [h.2.2, List.drop_eq_getElem_cons hlt, he, rdc]

set_option maxRecDepth 20000 in
set_option maxHeartbeats 400000 in
theorem readCount_any (A : Option Addr) (n c : Nat) (l : List UInt8) (w : World) (hm : n ≤ 9223372036854775807) (hr : Rd w (· < w.heap.size) A 1 n (l.map bv)) :
    Calls Try.prog 19 #[.slice A n c] w fun e w' => e = .returned (.tuple #[.int .u64 (rdc 0 0 l).1, .int .i64 (rdc 0 0 l).2.1, .int .i64 (rdc 0 0 l).2.2]) ∧ w = w' := by
  have hl := box hr.bytes_len
  go_enter Try.func19, Try.ntmps19
  go_wp2
  go_loop [5, 10] (fun x i => ∃ k C : Nat, k ≤ 9 ∧ k ≤ n ∧ Box (RdcAt l k C) ∧ i = .int .i64 k ∧ x = .int .u64 (C : Nat)) (fun _ i => n - (intOf i).toNat)
  case atStart => exact ⟨0, 0, by omega, by omega, box ⟨by omega, by simp, by simp⟩, rfl, rfl⟩
  case round =>
    obtain ⟨k, C, hk9, hk, HR, rfl, rfl⟩ := hrel
    by_cases hlt : k < n
    · obtain ⟨d, hd⟩ : ∃ d, l[k]? = some d := ⟨l[k]'(by have := hl.out; omega), by simp⟩
      have hs := rdc_step HR.out hd
      replace hd := box hd
      have dlt : d.toNat < 256 := d.toNat_lt
      have h127 := and127 d
      by_cases hA : (k = 9 ∧ 1 < d.toNat) ∨ (0 < k ∧ d.toNat = 0)
      · rw [if_pos hA] at hs
        have hs' := box hs
        clear hs
        rcases hA with ⟨h1, h2⟩ | ⟨h1, h2⟩
        · go_wp2_with (first | (with_reducible refine lst (by with_unfolding_all rfl) (wp_indexAddr T_u8 hr (by with_unfolding_all exact ⟨_, _, _, _, rfl, rfl, rfl⟩) (by omega) (by omega) ?_)) | (with_reducible refine lst (by with_unfolding_all rfl) (wp_loadC hr hd Try.underlying5 rfl (by with_unfolding_all exact ⟨_, rfl, rfl⟩) (by first | (simp; done) | (simp; omega) | omega) ?_)))
          go_ret3
          exact ⟨by rw [hs'.out]; rfl, rfl⟩
        · by_cases h9 : k = 9
          all_goals
            go_wp2_with (first | (with_reducible refine lst (by with_unfolding_all rfl) (wp_indexAddr T_u8 hr (by with_unfolding_all exact ⟨_, _, _, _, rfl, rfl, rfl⟩) (by omega) (by omega) ?_)) | (with_reducible refine lst (by with_unfolding_all rfl) (wp_loadC hr hd Try.underlying5 rfl (by with_unfolding_all exact ⟨_, rfl, rfl⟩) (by first | (simp; done) | (simp; omega) | omega) ?_)))
            go_ret3
            exact ⟨by rw [hs'.out]; rfl, rfl⟩
      · rw [if_neg hA] at hs
        obtain ⟨T, hT⟩ : ∃ T, T = d.toNat % 128 * 2 ^ (7 * k) := ⟨_, rfl⟩
        rw [← hT] at hs
        have hT1 := rdc_shift d k T hk9 (fun h => by omega) hT
        have hO := rdc_or C T k d HR.out.2.1 hT1.2 hT hk9
        replace hT1 := hT1.1
        replace hT := box hT
        by_cases hd8 : d.toNat < 128
        · rw [if_pos hd8] at hs
          replace hs := box hs
          have hz : ((d.toNat : Int) == 0) = true ∧ ¬ 0 < k ∨ ((d.toNat : Int) == 0) = false := by
            by_cases h0 : d.toNat = 0
            · exact .inl ⟨by simp [h0], by omega⟩
            · exact .inr (by simp; omega)
          have h9 : ((k : Int) == 9) = true ∧ ¬ 1 < (d.toNat : Int) ∨ ((k : Int) == 9) = false := by
            by_cases h0 : k = 9
            · exact .inl ⟨by simp; omega, by omega⟩
            · exact .inr (by simp; omega)
          replace hA := box hA
          rcases hz with ⟨hz, hk0⟩ | hz <;> rcases h9 with ⟨h9, hd1⟩ | h9
          all_goals
            go_wp2_with (first | (with_reducible refine lst (by with_unfolding_all rfl) (wp_indexAddr T_u8 hr (by with_unfolding_all exact ⟨_, _, _, _, rfl, rfl, rfl⟩) (by omega) (by omega) ?_)) | (with_reducible refine lst (by with_unfolding_all rfl) (wp_loadC hr hd Try.underlying5 rfl (by with_unfolding_all exact ⟨_, rfl, rfl⟩) (by first | (simp; done) | (simp; omega) | omega) ?_)))
            go_ret3
            exact ⟨by rw [hs.out]; rfl, rfl⟩
        · rw [if_neg hd8] at hs
          have hkn : k + 1 ≤ 9 := by omega
          have h9 : ((k : Int) == 9) = false := by simp; omega
          replace hs : Box (RdcAt l (k + 1) (C + T)) := box ⟨hkn, rdc_next HR.out.2.1 hT.out, hs⟩
          replace hA := box hA
          go_wp2_with (first | (with_reducible refine lst (by with_unfolding_all rfl) (wp_indexAddr T_u8 hr (by with_unfolding_all exact ⟨_, _, _, _, rfl, rfl, rfl⟩) (by omega) (by omega) ?_)) | (with_reducible refine lst (by with_unfolding_all rfl) (wp_loadC hr hd Try.underlying5 rfl (by with_unfolding_all exact ⟨_, rfl, rfl⟩) (by first | (simp; done) | (simp; omega) | omega) ?_)))
          go_round
          case rel => exact ⟨k + 1, C + T, hkn, by omega, hs, by go_num, rfl⟩
          case measure => simp [intOf]; omega
    · have hs := HR.out.2.2
      rw [List.drop_of_length_le (by have := hl.out; omega), rdc] at hs
      replace hs := box hs
      go_wp2
      go_ret3
      exact ⟨by rw [hs.out]; rfl, rfl⟩

set_option maxRecDepth 20000 in
set_option maxHeartbeats 400000 in
theorem same_any (A B : Option Addr) (n m c d : Nat) (l k : List UInt8) (w : World) (hm : n ≤ 9223372036854775807) (hr : Rd w (· < w.heap.size) A 1 n (l.map bv)) (hr2 : Rd w (· < w.heap.size) B 1 m (k.map bv)) :
    Calls Try.prog 21 #[.slice A n c, .slice B m d] w fun e w' => e = .returned (.bool (l == k)) ∧ Below w.heap.size w w' := by
  have hl := box hr.bytes_len
  have hk := box hr2.bytes_len
  by_cases hnm : n = m
  · subst hnm
    go_enter Try.func21, Try.ntmps21
    go_wp2
    go_loopw [5] (fun i wr => ∃ j : Nat, j ≤ n ∧ Box (l.take j = k.take j) ∧ i = .int .i64 j ∧ Below w.heap.size w wr) (fun i _ => n - (intOf i).toNat)
    case atStart => exact ⟨0, by omega, box rfl, rfl, Below.refl _ _⟩
    case round =>
      obtain ⟨j, hj, HT, rfl, hb⟩ := hrel
      by_cases hlt : j < n
      · obtain ⟨ad, x, hA, hx, hcx⟩ := (hr.below hb).atB hlt
        obtain ⟨bd, y, hB, hy, hcy⟩ := (hr2.below hb).atB hlt
        replace hx := box hx
        replace hy := box hy
        clear hr hr2
        subst hA hB
        by_cases hxy : x = y
        · subst hxy
          go_wp2
          go_quiet (fail)
          go_wp2
          go_roundw
          case rel => exact ⟨j + 1, by omega, box (by rw [take_snoc hx.out, take_snoc hy.out, HT.out]), by go_num, below_drewN hb _⟩
          case measure => simp [intOf]; omega
        · have hne : ((x.toNat : Int) != (y.toNat : Int)) = true := by
            simp only [bne_iff_ne, ne_eq]
            intro h; exact hxy (UInt8.toNat_inj.1 (by omega))
          replace hxy := box hxy
          go_wp2
          go_quiet (fail)
          go_wp2
          go_ret
          exact ⟨by rw [beq_false_of_ne (fun h => hxy.out (by have h1 := hx.out; have h2 := hy.out; rw [h, h2] at h1; injection h1 with h1; exact h1.symm))]; rfl, below_drewN hb _⟩
      · go_wp2
        go_ret
        have he : l = k := by
          have := HT.out
          rwa [List.take_of_length_le (by have := hl.out; omega), List.take_of_length_le (by have := hk.out; omega)] at this
        exact ⟨by rw [he, beq_self_eq_true]; rfl, hb⟩
  · have hne : ((n : Int) != (m : Int)) = true := by simp only [bne_iff_ne, ne_eq]; omega
    have hlk : (l == k) = false := beq_false_of_ne (fun h => hnm (by rw [← hl.out, ← hk.out, h]))
    replace hlk := box hlk
    replace hnm := box hnm
    go_enter Try.func21, Try.ntmps21
    go_wp2
    go_ret
    exact ⟨by rw [hlk.out]; rfl, Below.refl _ _⟩
end Go.Proofs.Ytinmlamdhibeeaa
