/-
  Bytes as a type of this program.
  Counts, plainly.
  The walk of octet.Count.
  The walk of octet.Text.
  Counts and texts that are read, plainly.
  Layer 1: plain laws on counts. No program is named here.
  Texts that are read back, plainly.
  The walk of octet.Put.
-/
import Derived.Test.YtpdbjhgphgcjoaaDoorRows
import Derived.Test.YtpdbjhgphgcjoaaDoorJ01
import Derived.Test.YtpdbjhgphgcjoaaDoorJ02
import Derived.Test.YtpdbjhgphgcjoaaDoorJ06
namespace Go.Proofs.YtpdbjhgphgcjoaaDoor
open Go.RowKit

theorem T_u8 : SlT Tryd.prog 25 5 1 1 (.int .u8 0) := ⟨Tryd.underlying25, by kernel_rfl, rfl, by decide⟩
theorem I_u8 : (Tryd.prog.info? 5).map (·.size) = some 1 := by kernel_rfl
end Go.Proofs.YtpdbjhgphgcjoaaDoor

namespace Go.Proofs.YtpdbjhgphgcjoaaDoor
open Go.RowKit

/-- What a count's loop has done. -/
def CntAt (n m : Nat) (l : List UInt8) : Prop := n < 18446744073709551616 ∧ m ≤ n ∧ l ++ cnt m = cnt n
theorem CntAt.room {n m : Nat} {l : List UInt8} (h : CntAt n m l) : l.length + 1 ≤ 10 := by
  have h1 := cnt_len64 h.1
  rw [← h.2.2, List.length_append] at h1
  have := cnt_pos m
  omega
theorem CntAt.next {n m : Nat} {l : List UInt8} {c : UInt8} (h : CntAt n m l) (hm : 128 ≤ m) (hc : c.toNat = m % 128 + 128) : CntAt n (m / 128) (l ++ [c]) := by
  refine ⟨h.1, by have := h.2.1; omega, ?_⟩
  rw [← h.2.2, cnt_big hm, List.append_assoc]
  have : c = UInt8.ofNat (m % 128 + 128) := by rw [← hc]; simp
  rw [this]; rfl
theorem CntAt.last {n m : Nat} {l : List UInt8} {c : UInt8} (h : CntAt n m l) (hm : m < 128) (hc : c.toNat = m) : l ++ [c] = cnt n := by
  rw [← h.2.2, cnt_small hm]
  have : c = UInt8.ofNat m := by rw [← hc]; simp
  rw [this]
theorem or128 (m : Nat) : bits BinOp.or IntKind.u8 ((m : Int) % 256) 128 = ((m % 128 + 128 : Nat) : Int) := by
  have h1 : ((m : Int) % 256) = ((m % 256 : Nat) : Int) := by omega
  rw [h1, show (128 : Int) = ((128 : Nat) : Int) from rfl, u8_or_nat _ _ (by omega) (by omega)]
  congr 1
  have h2 : m % 256 = m / 128 % 2 * 128 + m % 128 := by omega
  rcases (show m / 128 % 2 = 0 ∨ m / 128 % 2 = 1 by omega) with h | h
  · have : m % 256 = m % 128 := by omega
    rw [this, Nat.or_comm, nat_join 7 128 (m % 128) (by decide) (by omega)]; omega
  · have : m % 256 = 128 ||| m % 128 := by rw [nat_join 7 128 (m % 128) (by decide) (by omega)]; omega
    rw [this, Nat.or_comm, ← Nat.or_assoc, Nat.or_self, nat_join 7 128 (m % 128) (by decide) (by omega)]; omega
end Go.Proofs.YtpdbjhgphgcjoaaDoor

namespace Go.Proofs.YtpdbjhgphgcjoaaDoor
open Go.RowKit

set_option maxRecDepth 20000 in
set_option maxHeartbeats 400000 in
theorem count_any (n : Nat) (w : World) (Hn : Box (n < 18446744073709551616)) :
    Calls Tryd.prog 35 #[.int .u64 n] w fun e w' => ∃ v, e = .returned v ∧ OwnB w' w.heap.size 5 v (cnt n) ∧ Below w.heap.size w w' := by
  go_enter Tryd.func35, Tryd.ntmps35
  go_wp2
  go_loopw [0, 3] (fun x v wr => ∃ m : Nat, ∃ l : List UInt8, Box (CntAt n m l) ∧ x = .int .u64 m ∧ OwnB wr w.heap.size 5 v l ∧ Below w.heap.size w wr ∧ w.heap.size ≤ wr.heap.size) (fun x _ _ => (intOf x).toNat)
  case atStart => exact ⟨n, [], ⟨Hn.out, Nat.le_refl _, rfl⟩, rfl, OwnB.nil _ _ _, Below.refl _ _, Nat.le_refl _⟩
  case round =>
    obtain ⟨m, l, HB, rfl, hown, hb, hB⟩ := hrel
    have hroom : l.length + 1 ≤ 140737488355328 := by have := HB.out.room; omega
    have hor := or128 m
    go_wp2_with (at_builtin; go_must (with_reducible refine lst (by with_unfolding_all rfl) (wp_appB1 T_u8 hown hb (by with_unfolding_all exact ⟨_, _, rfl, rfl, rfl⟩) hroom hB ?_ ?_); exact byte_of (by omega) (by omega); intro v' w1 c hc hown1 hb1 hB1))
    · go_roundw
      case rel => exact ⟨m / 128, _, box (HB.out.next (by omega) (by have := hc.out; omega)), by go_num, hown1, hb1, hB1⟩
      case measure => simp [intOf]; omega
    · go_ret
      exact ⟨v', rfl, by rw [← HB.out.last (c := c) (by omega) (by have := hc.out; omega)]; exact hown1, hb1⟩
end Go.Proofs.YtpdbjhgphgcjoaaDoor

namespace Go.Proofs.YtpdbjhgphgcjoaaDoor
open Go.RowKit

set_option maxRecDepth 20000 in
set_option maxHeartbeats 400000 in
theorem text_any (A : Option Addr) (n c : Nat) (l : List UInt8) (w : World) (hm : n ≤ 140737488355000) (hr : Rd w (· < w.heap.size) A 1 n (l.map bv)) :
    Calls Tryd.prog 23 #[.slice A n c] w fun e w' => ∃ v, e = .returned v ∧ OwnB w' w.heap.size 5 v (textL l) ∧ Below w.heap.size w w' := by
  have hl := hr.bytes_len
  have ht := box (show textL l = cnt n ++ l by rw [textL, hl])
  have hc64 : Box (n < 18446744073709551616) := box (by omega)
  have hlen := cnt_len64 hc64.out
  clear hl
  go_enter Tryd.func23, Tryd.ntmps23
  go_wp2_with fail
  refine (count_any n w hc64).mono ?_
  rintro e w1 ⟨v, rfl, hown, hb⟩
  have hr' := hr.below hb
  have hroom : (cnt n).length + n ≤ 140737488355328 := by omega
  have hB := hb.size
  go_wp2_with (first | (at_builtin; go_must (with_reducible refine lst (by with_unfolding_all rfl) (wp_appB T_u8 hown hb hr' (by with_unfolding_all exact ⟨_, _, rfl, rfl, rfl⟩) hroom hB ?_); intro v' w1 hown1 hb1 hg1 hB1)))
  go_ret
  exact ⟨_, rfl, by rw [ht.out]; exact hown1, hb1⟩
end Go.Proofs.YtpdbjhgphgcjoaaDoor

namespace Go.Proofs.YtpdbjhgphgcjoaaDoor
open Go.RowKit

theorem and127 (d : UInt8) : bits BinOp.and IntKind.u8 (d.toNat : Int) 127 = ((d.toNat % 128 : Nat) : Int) := by
  have := d.toNat_lt
  rw [show (127 : Int) = ((127 : Nat) : Int) from rfl, u8_and_nat _ _ (by omega) (by decide), nat_mask7]
/-- What a reading loop has come to: the whole reading is the reading from here on. -/
def RdcAt (l : List UInt8) (k : Nat) (C : Nat) : Prop := k ≤ 9 ∧ C < 2 ^ (7 * k) ∧ rdc 0 0 l = rdc k C (l.drop k)
theorem pow7 (k : Nat) : (2 : Nat) ^ (7 * (k + 1)) = 2 ^ (7 * k) * 128 := by rw [Nat.mul_add, Nat.pow_add]
theorem rdc_shift (d : UInt8) (k T : Nat) (hk : k ≤ 9) (h9 : k = 9 → d.toNat ≤ 1) (hT : T = d.toNat % 128 * 2 ^ (7 * k)) :
    IntKind.u64.wrap ((d.toNat : Int) % 128 * 2 ^ (7 * k)) = (T : Int) ∧ T < 18446744073709551616 := by
  have hd := d.toNat_lt
  have hlt : T < 18446744073709551616 := by
    rcases Nat.lt_or_ge k 9 with h | h
    · have h1 : 2 ^ (7 * k) ≤ 2 ^ 56 := Nat.pow_le_pow_right (by decide) (by omega)
      have h2 : T ≤ 127 * 2 ^ 56 := by rw [hT]; exact Nat.mul_le_mul (by omega) h1
      exact Nat.lt_of_le_of_lt h2 (by decide)
    · obtain rfl : k = 9 := by omega
      have h2 : T ≤ 1 * 2 ^ (7 * 9) := by rw [hT]; exact Nat.mul_le_mul (by have := h9 rfl; omega) (Nat.le_refl _)
      exact Nat.lt_of_le_of_lt h2 (by decide)
  have he : ((d.toNat : Int) % 128 * 2 ^ (7 * k)) = (T : Int) := by rw [hT]; simp
  refine ⟨?_, hlt⟩
  rw [he, IntWalk.u64_in _ (by omega)]
theorem rdc_or (C T k : Nat) (d : UInt8) (hC : C < 2 ^ (7 * k)) (hT : T < 18446744073709551616) (he : T = d.toNat % 128 * 2 ^ (7 * k)) (hk : k ≤ 9) :
    bits BinOp.or IntKind.u64 (C : Int) (T : Int) = ((C + T : Nat) : Int) := by
  have hC2 : C < 18446744073709551616 := Nat.lt_of_lt_of_le hC (Nat.le_trans (Nat.pow_le_pow_right (by decide) (show 7 * k ≤ 63 by omega)) (by decide))
  rw [u64_or_nat _ _ hC2 hT]
  congr 1
  rw [Nat.or_comm, nat_join (7 * k) T C (by rw [he]; exact Nat.mul_mod_left _ _) hC, Nat.add_comm]
theorem rdc_next {C T k : Nat} {d : UInt8} (hC : C < 2 ^ (7 * k)) (hT : T = d.toNat % 128 * 2 ^ (7 * k)) : C + T < 2 ^ (7 * (k + 1)) := by
  rw [pow7, hT]
  have h1 : d.toNat % 128 ≤ 127 := by omega
  have h2 := Nat.mul_le_mul_right (2 ^ (7 * k)) h1
  omega
theorem rdc_step {l : List UInt8} {k C : Nat} {d : UInt8} (h : RdcAt l k C) (hd : l[k]? = some d) :
    rdc 0 0 l = if (k = 9 ∧ 1 < d.toNat) ∨ (0 < k ∧ d.toNat = 0) then (0, 0, 10)
      else if d.toNat < 128 then (C + d.toNat % 128 * 2 ^ (7 * k), k + 1, 0) else rdc (k + 1) (C + d.toNat % 128 * 2 ^ (7 * k)) (l.drop (k + 1)) := by
  have hlt : k < l.length := (List.getElem?_eq_some_iff.1 hd).1
  have he : l[k] = d := (List.getElem?_eq_some_iff.1 hd).2
  rw [h.2.2, List.drop_eq_getElem_cons hlt, he, rdc]
theorem rdc_add (C T : Nat) (hT : C + T < 18446744073709551616) :
    IntKind.u64.wrap ((C : Int) + (T : Int)) = ((C + T : Nat) : Int) := by
  rw [IntWalk.u64_in _ (by omega)]; omega
theorem rdc_sum {C T k : Nat} {d : UInt8} (hC : C < 2 ^ (7 * k)) (hk : k ≤ 9) (h9 : k = 9 → d.toNat ≤ 1) (hT : T = d.toNat % 128 * 2 ^ (7 * k)) : C + T < 18446744073709551616 := by
  have h7 : T + 2 ^ (7 * k) ≤ 18446744073709551616 := by
    have he : T + 2 ^ (7 * k) = (d.toNat % 128 + 1) * 2 ^ (7 * k) := by rw [hT, Nat.add_mul, Nat.one_mul]
    rw [he]
    rcases Nat.lt_or_ge k 9 with h | h
    · have h1 : 2 ^ (7 * k) ≤ 2 ^ 56 := Nat.pow_le_pow_right (by decide) (by omega)
      exact Nat.le_trans (Nat.mul_le_mul (show d.toNat % 128 + 1 ≤ 128 by omega) h1) (by decide)
    · obtain rfl : k = 9 := by omega
      exact Nat.le_trans (Nat.mul_le_mul (show d.toNat % 128 + 1 ≤ 2 by have := h9 rfl; omega) (Nat.le_refl _)) (by decide)
  omega
/-- What a reading of a count tells of the bytes. -/
theorem rdc_used : ∀ (l : List UInt8) (i a : Nat), (rdc i a l).2.2 = 0 → i < (rdc i a l).2.1 ∧ (rdc i a l).2.1 ≤ i + l.length
  | [], i, a, h => by simp [rdc] at h
  | c :: l, i, a, h => by
    rw [rdc] at h ⊢
    split
    · rename_i h1; rw [if_pos h1] at h; simp at h
    · rename_i h1
      rw [if_neg h1] at h
      split
      · simp
      · rename_i h2
        rw [if_neg h2] at h
        have := rdc_used l (i + 1) _ h
        simp only [List.length_cons]; omega
theorem rdc_err : ∀ (l : List UInt8) (i a : Nat), (rdc i a l).2.2 = 0 ∨ (rdc i a l).2.2 = 9 ∨ (rdc i a l).2.2 = 10
  | [], i, a => by simp [rdc]
  | c :: l, i, a => by
    rw [rdc]
    split
    · simp
    · split
      · simp
      · exact rdc_err l _ _
theorem rdc_lt64 (l : List UInt8) : ∀ (m k C : Nat), m = l.length - k → RdcAt l k C → (rdc 0 0 l).1 < 18446744073709551616
  | m, k, C, hm, h => by
    rcases Nat.lt_or_ge k l.length with hk | hk
    · have hd : l[k]? = some l[k] := by simp
      have hs := rdc_step h hd
      by_cases hA : (k = 9 ∧ 1 < l[k].toNat) ∨ (0 < k ∧ l[k].toNat = 0)
      · rw [if_pos hA] at hs; rw [hs]; decide
      · rw [if_neg hA] at hs
        by_cases h8 : l[k].toNat < 128
        · rw [if_pos h8] at hs
          rw [hs]
          exact rdc_sum h.2.1 h.1 (fun h => by omega) rfl
        · rw [if_neg h8] at hs
          have hkn : k + 1 ≤ 9 := by have := h.1; omega
          match m, hm with
          | 0, hm => omega
          | m + 1, hm => exact rdc_lt64 l m (k + 1) _ (by omega) ⟨hkn, rdc_next h.2.1 rfl, hs⟩
    · have hs := h.2.2
      rw [List.drop_of_length_le hk, rdc] at hs
      rw [hs]; decide
theorem rdc_lt (l : List UInt8) : (rdc 0 0 l).1 < 18446744073709551616 := rdc_lt64 l _ 0 0 rfl ⟨by omega, by simp, by simp⟩
theorem rdt_bad {l : List UInt8} {most : Int} (h : (rdc 0 0 l).2.2 ≠ 0) : rdt l most = ([], 0, (rdc 0 0 l).2.2) := by unfold rdt; simp [h]
theorem rdt_limit {l : List UInt8} {most : Int} (h : (rdc 0 0 l).2.2 = 0) (h1 : most < ((rdc 0 0 l).1 : Int)) : rdt l most = ([], 0, 8) := by unfold rdt; simp [h, h1]
theorem rdt_short {l : List UInt8} {most : Int} (h : (rdc 0 0 l).2.2 = 0) (h1 : ¬ most < ((rdc 0 0 l).1 : Int)) (h2 : l.length - (rdc 0 0 l).2.1 < (rdc 0 0 l).1) : rdt l most = ([], 0, 9) := by unfold rdt; simp only; rw [if_neg (by simp [h]), if_neg h1, if_pos h2]
theorem rdt_ok {l : List UInt8} {most : Int} (h : (rdc 0 0 l).2.2 = 0) (h1 : ¬ most < ((rdc 0 0 l).1 : Int)) (h2 : ¬ l.length - (rdc 0 0 l).2.1 < (rdc 0 0 l).1) :
    rdt l most = ((l.drop (rdc 0 0 l).2.1).take (rdc 0 0 l).1, (rdc 0 0 l).2.1 + (rdc 0 0 l).1, 0) := by unfold rdt; simp only; rw [if_neg (by simp [h]), if_neg h1, if_neg h2]
/-- The ways of a text's reading: x the count, u its bytes, er the error. -/
structure RdtWay (l : List UInt8) (n : Nat) (most : Int) (x u er : Nat) (r : List UInt8 × Nat × Nat) : Prop where
  way : er ≠ 0 ∧ r = ([], 0, er) ∨ er = 0 ∧ u ≤ n ∧ (most < (x : Int) ∧ r = ([], 0, 8) ∨ ¬ most < (x : Int) ∧ (n - u < x ∧ r = ([], 0, 9) ∨ ¬ n - u < x ∧ r = ((l.drop u).take x, u + x, 0)))
theorem rdt_way {l : List UInt8} {n : Nat} (hl : l.length = n) (most : Int) : RdtWay l n most (rdc 0 0 l).1 (rdc 0 0 l).2.1 (rdc 0 0 l).2.2 (rdt l most) := by
  refine ⟨?_⟩
  by_cases h : (rdc 0 0 l).2.2 = 0
  · refine .inr ⟨h, by have := rdc_used l 0 0 h; omega, ?_⟩
    by_cases h1 : most < ((rdc 0 0 l).1 : Int)
    · exact .inl ⟨h1, rdt_limit h h1⟩
    · refine .inr ⟨h1, ?_⟩
      rw [← hl]
      by_cases h2 : l.length - (rdc 0 0 l).2.1 < (rdc 0 0 l).1
      · exact .inl ⟨h2, rdt_short h h1 h2⟩
      · exact .inr ⟨h2, rdt_ok h h1 h2⟩
  · exact .inl ⟨h, rdt_bad h⟩
end Go.Proofs.YtpdbjhgphgcjoaaDoor

namespace Go.Proofs.YtpdbjhgphgcjoaaDoor

theorem u8_big (c : UInt8) (h : 128 ≤ c.toNat) : UInt8.ofNat (c.toNat % 128 + 128) = c := by
  have := c.toNat_lt
  rw [show c.toNat % 128 + 128 = c.toNat by omega]; simp

/-- What is read is the shortest form. -/
theorem rdc_cnt_from : ∀ (l : List UInt8) (i a : Nat), (rdc i a l).2.2 = 0 →
    ∃ y, (rdc i a l).1 = a + y * 2 ^ (7 * i) ∧ (rdc i a l).2.1 = i + (cnt y).length ∧ l.take (cnt y).length = cnt y ∧ (0 < i → y ≠ 0)
  | [], i, a, h => by simp [rdc] at h
  | c :: l, i, a, h => by
    rw [rdc] at h ⊢
    by_cases h1 : (i = 9 ∧ 1 < c.toNat) ∨ (0 < i ∧ c.toNat = 0)
    · rw [if_pos h1] at h; simp at h
    · rw [if_neg h1] at h ⊢
      by_cases h2 : c.toNat < 128
      · rw [if_pos h2]
        have hc : cnt c.toNat = [c] := by rw [cnt_small h2]; simp
        refine ⟨c.toNat, by simp only []; rw [Nat.mod_eq_of_lt h2], by rw [hc]; rfl, by rw [hc]; rfl, fun hi h0 => h1 (.inr ⟨hi, h0⟩)⟩
      · rw [if_neg h2] at h ⊢
        obtain ⟨y, e1, e2, e3, e4⟩ := rdc_cnt_from l (i + 1) _ h
        have hy := e4 (by omega)
        have hlt := c.toNat_lt
        have hm : (c.toNat % 128 + 128 * y) % 128 = c.toNat % 128 := by omega
        have hd : (c.toNat % 128 + 128 * y) / 128 = y := by omega
        have hc : cnt (c.toNat % 128 + 128 * y) = c :: cnt y := by
          rw [cnt_big (by omega), hm, hd, u8_big c (by omega)]
        refine ⟨c.toNat % 128 + 128 * y, ?_, ?_, ?_, fun _ => by omega⟩
        · rw [e1, show 7 * (i + 1) = 7 * i + 7 by omega, Nat.pow_add, Nat.add_mul]
          have : y * (2 ^ (7 * i) * 2 ^ 7) = 128 * y * 2 ^ (7 * i) := by
            rw [Nat.mul_comm (2 ^ (7 * i)), ← Nat.mul_assoc, Nat.mul_comm y]
          rw [this]; omega
        · rw [e2, hc, List.length_cons]; omega
        · rw [hc, List.length_cons, List.take_succ_cons, e3]
theorem rdc_cnt {l : List UInt8} (h : (rdc 0 0 l).2.2 = 0) : cnt (rdc 0 0 l).1 = l.take (rdc 0 0 l).2.1 ∧ (rdc 0 0 l).2.1 ≤ l.length := by
  obtain ⟨y, e1, e2, e3, _⟩ := rdc_cnt_from l 0 0 h
  have hx : (rdc 0 0 l).1 = y := by rw [e1]; simp
  have hu : (rdc 0 0 l).2.1 = (cnt y).length := by rw [e2]; simp
  rw [hx, hu, e3]
  refine ⟨rfl, ?_⟩
  have := congrArg List.length e3
  rw [List.length_take] at this
  omega

/-- A count is read back, whatever stands behind it. -/
theorem rdc_back_from : ∀ (k y i a : Nat) (m : List UInt8), y < 2 ^ (7 * (k + 1)) → (i + k = 9 → y < 2 ^ (64 - 7 * i)) → i + k ≤ 9 → (0 < i → y ≠ 0) →
    rdc i a (cnt y ++ m) = (a + y * 2 ^ (7 * i), i + (cnt y).length, 0)
  | 0, y, i, a, m, h, h9, hik, h0 => by
    have hy : y < 128 := by simpa using h
    rw [cnt_small hy, List.singleton_append, rdc]
    have hc : (UInt8.ofNat y).toNat = y := by simp; omega
    rw [hc, if_neg ?_, if_pos hy, Nat.mod_eq_of_lt hy]
    · rfl
    · rintro (⟨rfl, h1⟩ | ⟨hi, h1⟩)
      · have := h9 rfl; simp at this; omega
      · exact h0 hi h1
  | k + 1, y, i, a, m, h, h9, hik, h0 => by
    by_cases hy : y < 128
    · rw [cnt_small hy, List.singleton_append, rdc]
      have hc : (UInt8.ofNat y).toNat = y := by simp; omega
      rw [hc, if_neg ?_, if_pos hy, Nat.mod_eq_of_lt hy]
      · rfl
      · rintro (⟨rfl, h1⟩ | ⟨hi, h1⟩)
        · omega
        · exact h0 hi h1
    · rw [cnt_big (by omega), List.cons_append, rdc]
      have hc : (UInt8.ofNat (y % 128 + 128)).toNat = y % 128 + 128 := by simp; omega
      rw [hc, if_neg (by omega), if_neg (by omega)]
      have hp : 7 * (k + 1 + 1) = 7 * (k + 1) + 7 := by omega
      rw [rdc_back_from k (y / 128) (i + 1) _ m (by rw [hp, Nat.pow_add] at h; omega) (fun he => ?_) (by omega) (fun _ => by omega)]
      · simp only [List.length_cons, Prod.mk.injEq, and_true]
        refine ⟨?_, by omega⟩
        rw [show 7 * (i + 1) = 7 * i + 7 by omega, Nat.pow_add, show (y % 128 + 128) % 128 = y % 128 by omega]
        have h1 : y = y % 128 + 128 * (y / 128) := by omega
        have h2 : y / 128 * (2 ^ (7 * i) * 2 ^ 7) = 128 * (y / 128) * 2 ^ (7 * i) := by
          rw [Nat.mul_comm (2 ^ (7 * i)), ← Nat.mul_assoc, Nat.mul_comm (y / 128)]
        have h3 : y * 2 ^ (7 * i) = y % 128 * 2 ^ (7 * i) + 128 * (y / 128) * 2 ^ (7 * i) := by rw [← Nat.add_mul, ← h1]
        rw [h2, h3]; omega
      · have h10 := h9 (by omega)
        have hq : 64 - 7 * i = (64 - 7 * (i + 1)) + 7 := by omega
        rw [hq, Nat.pow_add] at h10
        omega
theorem rdc_back (n : Nat) (m : List UInt8) (h : n < 18446744073709551616) : rdc 0 0 (cnt n ++ m) = (n, (cnt n).length, 0) := by
  rw [rdc_back_from 9 n 0 0 m (Nat.lt_of_lt_of_le h (by decide)) (fun _ => Nat.lt_of_lt_of_le h (by decide)) (by omega) (fun h => absurd h (by omega))]
  simp

/-- A byte short it ends too early. -/
theorem rdc_cut_from : ∀ (k y i a : Nat), y < 2 ^ (7 * (k + 1)) → i + k ≤ 9 → (rdc i a ((cnt y).take ((cnt y).length - 1))).2.2 = 9
  | 0, y, i, a, h, _ => by
    have hy : y < 128 := by simpa using h
    rw [cnt_small hy]; rfl
  | k + 1, y, i, a, h, hik => by
    by_cases hy : y < 128
    · rw [cnt_small hy]; rfl
    · rw [cnt_big (by omega), List.length_cons, Nat.add_sub_cancel]
      have hpos := cnt_pos (y / 128)
      obtain ⟨q, hq⟩ : ∃ q, (cnt (y / 128)).length = q + 1 := ⟨(cnt (y / 128)).length - 1, by omega⟩
      have hc : (UInt8.ofNat (y % 128 + 128)).toNat = y % 128 + 128 := by simp; omega
      rw [hq, List.take_succ_cons, rdc, hc, if_neg (by omega), if_neg (by omega)]
      have hp : 7 * (k + 1 + 1) = 7 * (k + 1) + 7 := by omega
      have := rdc_cut_from k (y / 128) (i + 1) (a + (y % 128 + 128) % 128 * 2 ^ (7 * i)) (by rw [hp, Nat.pow_add] at h; omega) (by omega)
      rw [hq, Nat.add_sub_cancel] at this
      exact this
theorem rdc_cut (n : Nat) (h : n < 18446744073709551616) : (rdc 0 0 ((cnt n).take ((cnt n).length - 1))).2.2 = 9 :=
  rdc_cut_from 9 n 0 0 (Nat.lt_of_lt_of_le h (by decide)) (by omega)
end Go.Proofs.YtpdbjhgphgcjoaaDoor

namespace Go.Proofs.YtpdbjhgphgcjoaaDoor
open Go.RowKit

theorem textL_len (l : List UInt8) (h : l.length ≤ 1048576) : (textL l).length ≤ l.length + 10 := by
  unfold textL
  have := cnt_len64 (n := l.length) (by omega)
  rw [List.length_append]; omega
theorem rdt_back (l m : List UInt8) (h : l.length ≤ 1048576) : rdt (textL l ++ m) (l.length : Int) = (l, (textL l).length, 0) := by
  have hb := rdc_back l.length (l ++ m) (by omega)
  unfold rdt textL
  rw [List.append_assoc, hb]
  simp only []
  rw [if_neg (by decide), if_neg (by omega), if_neg (by simp only [List.length_append]; omega)]
  simp
theorem rdt_less (l : List UInt8) (h : l.length ≤ 1048576) : (rdt (textL l) ((l.length : Int) - 1)).2.2 = 8 := by
  have hb := rdc_back l.length l (by omega)
  unfold rdt textL
  rw [hb]
  simp only []
  rw [if_neg (by decide), if_pos (by omega)]
theorem rdt_err (l : List UInt8) (most : Int) : (rdt l most).2.2 ≤ 10 := by
  have h := rdc_err l 0 0
  unfold rdt
  simp only []
  repeat' split
  all_goals simp only []
  all_goals omega
theorem rdt_fst (l : List UInt8) (most : Int) : (rdt l most).1.length ≤ l.length := by
  unfold rdt
  simp only []
  repeat' split
  all_goals simp only [List.length_nil, List.length_take, List.length_drop]
  all_goals omega
theorem rdt_snd (l : List UInt8) (most : Int) : (rdt l most).2.1 ≤ l.length := by
  have h := rdc_used l 0 0
  unfold rdt
  simp only []
  repeat' split
  all_goals simp only []
  all_goals omega

end Go.Proofs.YtpdbjhgphgcjoaaDoor

namespace Go.Proofs.YtpdbjhgphgcjoaaDoor
open Go.RowKit

set_option maxRecDepth 20000 in
set_option maxHeartbeats 400000 in
theorem put_any (n : Nat) (size : Int) (w : World) :
    Calls Tryd.prog 24 #[.int .u64 n, .int .i64 size] w fun e w' => ∃ v, e = .returned v ∧ OwnB w' w.heap.size 5 v (putS n size) ∧ Below w.heap.size w w' := by
  by_cases hs : 0 ≤ size ∧ size ≤ 8
  · rw [putS, if_pos hs]
    obtain ⟨s, rfl⟩ := Int.eq_ofNat_of_zero_le hs.1
    rw [Int.toNat_natCast]
    have hs8 : s ≤ 8 := by omega
    have hB0 : w.heap.size ≤ w.heap.size := Nat.le_refl _
    have hb0 := Below.refl w.heap.size w
    clear hs
    go_enter Tryd.func24, Tryd.ntmps24
    go_wp2_with (first | (at_make; go_must (with_reducible refine lst (by with_unfolding_all rfl) (wp_makeB T_u8 hb0 hB0 (by with_unfolding_all exact ⟨_, _, _, _, rfl, rfl, rfl⟩) (n := s) (by omega) (by omega) ?_); intro A1 c1 w1 hown1 hb1 hB1 hg1)))
    obtain ⟨W, rfl⟩ : ∃ W : World, W = w1 := ⟨_, rfl⟩
    go_loopw [16] (fun i wr => ∃ k : Nat, k ≤ s ∧ i = .int .i64 k ∧ OwnB wr w.heap.size 5 (.slice A1 s c1) (List.replicate (s - k) 0 ++ putL n k) ∧ Below w.heap.size w wr) (fun i _ => s - (intOf i).toNat)
    case atStart => exact ⟨0, by omega, rfl, by rw [putL, List.append_nil]; exact hown1, hb1⟩
    case round =>
      obtain ⟨k, hk, rfl, hown, hb⟩ := hrel
      have hr := hown.rd
      by_cases hlt : k < s
      · have h1 : (((s : Int) - 1 - (k : Int)).toNat) = s - 1 - k := by omega
        go_wp2_with (first | (with_reducible refine lst (by with_unfolding_all rfl) (wp_indexAddr T_u8 hr (by with_unfolding_all exact ⟨_, _, _, _, rfl, rfl, rfl⟩) (by omega) (by omega) ?_)) | ((with_reducible refine lst (by with_unfolding_all rfl) (wp_storeB I_u8 hown hb (by with_unfolding_all exact ⟨_, _, rfl, rfl, rfl⟩) (by first | omega | (simp; omega)) ?_ ?_)); exact byte_of (by omega) (by omega); intro w1 d1 hd1 hown1 hb1 hs1))
        go_roundw
        rw [Nat.mul_one, h1, put_set n s k d1 hlt (by have := hd1.out; have h3 : ((n : Int) / 2 ^ (8 * k)) = ((n / 2 ^ (8 * k) : Nat) : Int) := by simp
                                                      rw [h3] at this; omega)] at hown1
        case rel => exact ⟨k + 1, by omega, by go_num, hown1, hb1⟩
        case measure => simp [intOf]; omega
      · go_wp2
        go_ret
        obtain rfl : k = s := by omega
        rw [Nat.sub_self, List.replicate_zero, List.nil_append] at hown
        exact ⟨_, rfl, hown, hb⟩
  · rw [putS, if_neg hs]
    go_enter Tryd.func24, Tryd.ntmps24
    go_wp2
    all_goals go_ret
    all_goals exact ⟨_, rfl, OwnB.nil _ _ _, Below.refl _ _⟩
end Go.Proofs.YtpdbjhgphgcjoaaDoor
