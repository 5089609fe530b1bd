/-
  Layer 19 in plain words: requests as bytes, and back. No program is named here.
  Layer 19: the cells of a request that are set one by one. No program is named here.
  Layer 19: the walks of the small functions: numbers that may be, counts, sums.
  Counts and texts that are read, plainly.
  Layer 19 in plain words: things taken off bytes, one by one; what a reader of bytes holds. No program is named here.
  Layer 19 in plain words: the bytes of a request. No program is named here.
  Laws over a frame of known blocks, for regions that draw their order: a call met by its contract; entries picked out. No program is named here.
-/
import Derived.Test.YtcnjnkkdidpjiaaJ01
import Derived.Test.YtcnjnkkdidpjiaaJ02
import Derived.Test.YtcnjnkkdidpjiaaJ05
import Derived.BigQuiet
import Derived.Deep.RegionHeld3
namespace Go.Proofs.Ytcnjnkkdidpjiaa
open Go.RowKit

def numB (n : Int) : Bool := decide (0 ≤ n) && decide (n ≤ 1099511627776)

structure Req where
  op : Int
  repo : ByteArray
  word : ByteArray
  d : List UInt8
  id : Int
  at_ : Int
  n : Int
  body : List UInt8

/-- The cells of a request. -/
def rqL (a b c : Value) (dg : List Value) (e f g h : Value) : List Value := a :: b :: c :: (dg ++ [e, f, g, h])
def Req.cells (r : Req) (A : Option Addr) (k : Nat) : List Value := rqL (.int .i64 r.op) (.string r.repo) (.string r.word) (r.d.map bv) (.int .i64 r.id) (.int .i64 r.at_) (.int .i64 r.n) (.slice A r.body.length k)
def zeros : List UInt8 := List.replicate 32 0
def Req.zero : Req := ⟨0, ByteArray.empty, ByteArray.empty, zeros, 0, 0, 0, []⟩

theorem rqL_length {a b c : Value} {dg : List Value} {e f g h : Value} (hd : dg.length = 32) : (rqL a b c dg e f g h).length = 39 := by simp [rqL, hd]
theorem rqL_at {a b c : Value} {dg : List Value} {e f g h : Value} (hd : dg.length = 32) :
    (rqL a b c dg e f g h)[35]? = some e ∧ (rqL a b c dg e f g h)[36]? = some f ∧ (rqL a b c dg e f g h)[37]? = some g ∧ (rqL a b c dg e f g h)[38]? = some h := by
  unfold rqL
  refine ⟨?_, ?_, ?_, ?_⟩ <;>
  · simp only [List.getElem?_cons_succ]
    rw [List.getElem?_append_right (by omega)]
    simp [hd]
theorem rqL_dig {a b c : Value} {dg : List Value} {e f g h : Value} {k : Nat} (hd : dg.length = k) : ((rqL a b c dg e f g h).drop 3).take k = dg := by
  unfold rqL
  simp [← hd]
end Go.Proofs.Ytcnjnkkdidpjiaa

namespace Go.Proofs.Ytcnjnkkdidpjiaa
open Go.RowKit

theorem spl_at {p q r ds : List Value} {off : Nat} (ho : p.length = off) (hq : q.length = ds.length) : spl (p ++ (q ++ r)) off ds = p ++ (ds ++ r) := by
  unfold spl
  rw [List.take_left' ho, List.append_assoc]
  congr 2
  rw [← ho, List.drop_append, List.drop_of_length_le (by omega), List.nil_append, Nat.add_sub_cancel_left, List.drop_left' hq]
section
variable {a b c v : Value} {dg ds : List Value} {e f g h : Value}
theorem rqL_0 : spl (rqL a b c dg e f g h) 0 [v] = rqL v b c dg e f g h := rfl
theorem rqL_1 : spl (rqL a b c dg e f g h) 1 [v] = rqL a v c dg e f g h := rfl
theorem rqL_2 : spl (rqL a b c dg e f g h) 2 [v] = rqL a b v dg e f g h := rfl
theorem rqL_3 (hd : dg.length = 32) (hs : ds.length = 32) : spl (rqL a b c dg e f g h) 3 ds = rqL a b c ds e f g h := spl_at (p := [a, b, c]) (q := dg) rfl (by omega)
theorem rqL_35 (hd : dg.length = 32) : spl (rqL a b c dg e f g h) 35 [v] = rqL a b c dg v f g h := by
  have := spl_at (p := a :: b :: c :: dg) (q := [e]) (r := [f, g, h]) (ds := [v]) (off := 35) (by simp [hd]) rfl
  simpa [rqL] using this
theorem rqL_36 (hd : dg.length = 32) : spl (rqL a b c dg e f g h) 36 [v] = rqL a b c dg e v g h := by
  have := spl_at (p := a :: b :: c :: (dg ++ [e])) (q := [f]) (r := [g, h]) (ds := [v]) (off := 36) (by simp [hd]) rfl
  simpa [rqL] using this
theorem rqL_37 (hd : dg.length = 32) : spl (rqL a b c dg e f g h) 37 [v] = rqL a b c dg e f v h := by
  have := spl_at (p := a :: b :: c :: (dg ++ [e, f])) (q := [g]) (r := [h]) (ds := [v]) (off := 37) (by simp [hd]) rfl
  simpa [rqL] using this
theorem rqL_38 (hd : dg.length = 32) : spl (rqL a b c dg e f g h) 38 [v] = rqL a b c dg e f g v := by
  have := spl_at (p := a :: b :: c :: (dg ++ [e, f, g])) (q := [h]) (r := []) (ds := [v]) (off := 38) (by simp [hd]) rfl
  simpa [rqL] using this
end
end Go.Proofs.Ytcnjnkkdidpjiaa

namespace Go.Proofs.Ytcnjnkkdidpjiaa
open Go.RowKit

theorem T_int : SlT Try.prog 80 3 1 8 (.int .i64 0) := ⟨Try.underlying80, by kernel_rfl, rfl, by decide⟩

set_option maxRecDepth 20000 in
set_option maxHeartbeats 400000 in
theorem number_any (n : Int) (w : World) : Calls Try.prog 27 #[.int .i64 n] w fun e w' => e = .returned (.bool (numB n)) ∧ w = w' := by
  by_cases h : 0 ≤ n
  · have h1 : numB n = decide (n ≤ 1099511627776) := by unfold numB; simp [h]
    rw [h1]
    have hd : decide ((0 : Int) ≤ n) = true := by simp [h]
    go_enter Try.func27, Try.ntmps27
    go_wp2
    go_ret
    exact ⟨rfl, rfl⟩
  · have h1 : numB n = false := by unfold numB; simp [h]
    rw [h1]
    have hd : decide ((0 : Int) ≤ n) = false := by simp [h]
    go_enter Try.func27, Try.ntmps27
    go_wp2
    go_ret
    exact ⟨rfl, rfl⟩

set_option maxRecDepth 20000 in
set_option maxHeartbeats 400000 in
theorem fits_any (A : Option Addr) (n c : Nat) (xs : List Int) (w : World) (hm : n ≤ 9223372036854775807) (hr : Rd w (· < w.heap.size) A 1 n (xs.map (Value.int .i64))) :
    Calls Try.prog 23 #[.slice A n c] w fun e w' => e = .returned (.bool (xs.all numB)) ∧ w = w' := by
  have hl : Box (xs.length = n) := box (by have := hr.len; simpa using this)
  go_enter Try.func23, Try.ntmps23
  go_wp2
  go_loop [7] (fun i => ∃ k : Nat, k ≤ n ∧ Box ((xs.take k).all numB = true) ∧ i = .int .i64 k) (fun i => n - (intOf i).toNat)
  case atStart => exact ⟨0, by omega, box rfl, rfl⟩
  case round =>
    obtain ⟨k, hk, HB, rfl⟩ := hrel
    by_cases hlt : k < n
    · obtain ⟨x, hx⟩ : ∃ x, xs[k]? = some x := ⟨xs[k]'(by have := hl.out; omega), by simp⟩
      have hx2 : (xs.map (Value.int .i64))[k]? = some (.int .i64 x) := by simp [hx]
      have hT : xs.take (k + 1) = xs.take k ++ [x] := take_snoc hx
      replace hx := box hx
      replace hx2 := box hx2
      replace hT := box hT
      by_cases hok : 0 ≤ x ∧ x ≤ 1099511627776
      · have h0 := hok.1
        have h1 := hok.2
        go_wp2_with (first | (with_reducible refine lst (by with_unfolding_all rfl) (wp_indexAddr T_int hr (by with_unfolding_all exact ⟨_, _, _, _, rfl, rfl, rfl⟩) (by omega) (by omega) ?_)) | (with_reducible refine lst (by with_unfolding_all rfl) (wp_load1C hr hx2 Try.underlying3 rfl (by with_unfolding_all exact ⟨_, rfl, rfl⟩) (by first | (simp; done) | (simp; omega) | omega) ?_)))
        go_round
        case rel => exact ⟨k + 1, by omega, box (by rw [hT.out, List.all_append, HB.out]; simp [numB, h0, h1]), by go_num⟩
        case measure => simp [intOf]; omega
      · have hres : Box (xs.all numB = false) := box (by
          have hb : numB x = false := by unfold numB; simp; omega
          have hmem : x ∈ xs := List.mem_of_getElem? hx.out
          cases hall : xs.all numB with
          | false => rfl
          | true => have := List.all_eq_true.1 hall x hmem; rw [hb] at this; cases this)
        by_cases h0 : x < 0
        · go_wp2_with (first | (with_reducible refine lst (by with_unfolding_all rfl) (wp_indexAddr T_int hr (by with_unfolding_all exact ⟨_, _, _, _, rfl, rfl, rfl⟩) (by omega) (by omega) ?_)) | (with_reducible refine lst (by with_unfolding_all rfl) (wp_load1C hr hx2 Try.underlying3 rfl (by with_unfolding_all exact ⟨_, rfl, rfl⟩) (by first | (simp; done) | (simp; omega) | omega) ?_)))
          go_ret
          exact ⟨by rw [hres.out]; rfl, rfl⟩
        · have h1 : 1099511627776 < x := by omega
          go_wp2_with (first | (with_reducible refine lst (by with_unfolding_all rfl) (wp_indexAddr T_int hr (by with_unfolding_all exact ⟨_, _, _, _, rfl, rfl, rfl⟩) (by omega) (by omega) ?_)) | (with_reducible refine lst (by with_unfolding_all rfl) (wp_load1C hr hx2 Try.underlying3 rfl (by with_unfolding_all exact ⟨_, rfl, rfl⟩) (by first | (simp; done) | (simp; omega) | omega) ?_)))
          go_ret
          exact ⟨by rw [hres.out]; rfl, rfl⟩
    · go_wp2
      go_ret
      exact ⟨by rw [← List.take_of_length_le (i := k) (l := xs) (by have := hl.out; omega), HB.out]; rfl, rfl⟩

/-- Numbers as counts, one behind the other. -/
def cntsL : List Int → List UInt8
  | [] => []
  | n :: l => cnt n.toNat ++ cntsL l
theorem cntsL_snoc : ∀ (l : List Int) (n : Int), cntsL (l ++ [n]) = cntsL l ++ cnt n.toNat
  | [], n => by simp [cntsL]
  | m :: l, n => by rw [List.cons_append, cntsL, cntsL_snoc l n, cntsL, List.append_assoc]
theorem cntsL_len : ∀ (l : List Int), (∀ n ∈ l, n < 18446744073709551616) → (cntsL l).length ≤ 10 * l.length
  | [], _ => by simp [cntsL]
  | n :: l, h => by
    have h1 := cnt_len64 (n := n.toNat) (by have := h n (by simp); omega)
    have h2 := cntsL_len l (fun m hm => h m (by simp [hm]))
    rw [cntsL, List.length_append, List.length_cons]; omega

set_option maxRecDepth 20000 in
set_option maxHeartbeats 800000 in
theorem counts_any (b : Nat) (v : Value) (l : List UInt8) (A : Option Addr) (n c : Nat) (xs : List Int) (w : World) (hown : OwnB w b 5 v l) (hb : b ≤ w.heap.size) (hroom : l.length ≤ 100000000) (hm : n ≤ 1000) (hr : Rd w (fun k => k < w.heap.size ∧ k ∉ Xof v) A 1 n (xs.map (Value.int .i64)))
    (hx : Box (∀ x ∈ xs, 0 ≤ x ∧ x ≤ 1099511627776)) :
    Calls Try.prog 25 #[v, .slice A n c] w fun e w' => ∃ v', e = .returned v' ∧ OwnB w' b 5 v' (l ++ cntsL xs) ∧ w.grownBy w' v.ownBlock ∧ Box (∀ k, v'.ownBlock = some k → w.heap.size ≤ k ∨ v.ownBlock = some k) := by
  have hl : Box (xs.length = n) := box (by have := hr.len; simpa using this)
  have hF0 := Fr.oneB hown
  clear hown
  go_enter Try.func25, Try.ntmps25
  go_wp2
  go_loopw [0, 9] (fun q i wr => ∃ (k : Nat) (v' : Value), k ≤ n ∧ i = .int .i64 k ∧ q = v' ∧ Fr (Xof v) w wr [Ent.bytes b 5 v' (l ++ cntsL (xs.take k))]) (fun _ i _ => n - (intOf i).toNat)
  case atStart => exact ⟨0, v, by omega, rfl, rfl, by rw [List.take_zero, cntsL, List.append_nil]; exact hF0⟩
  case round =>
    clear hF0
    obtain ⟨k, v', hk, rfl, rfl, hF⟩ := hrel
    have hr' := hF.rdKeep hr
    by_cases hlt : k < n
    · obtain ⟨x, hx1⟩ : ∃ x, xs[k]? = some x := ⟨xs[k]'(by have := hl.out; omega), by simp⟩
      have hxb := hx.out x (List.mem_of_getElem? hx1)
      obtain ⟨y, rfl⟩ := Int.eq_ofNat_of_zero_le hxb.1
      have hyb : y ≤ 1099511627776 := by omega
      have hx2 : (xs.map (Value.int .i64))[k]? = some (.int .i64 (y : Int)) := by simp [hx1]
      have hT : cntsL (xs.take (k + 1)) = cntsL (xs.take k) ++ cnt y := by rw [take_snoc hx1, cntsL_snoc]; rfl
      have hlen := cntsL_len (xs.take k) (fun n hn => by have := hx.out n (List.mem_of_mem_take hn); omega)
      have hlen2 := cnt_len64 (n := y) (by omega)
      have hrm : (l ++ cntsL (xs.take k)).length + (cnt y).length ≤ 140737488355328 := by rw [List.length_append]; have : (xs.take k).length ≤ k := List.length_take_le _ _; omega
      clear hxb hlen hlen2
      replace hx1 := box hx1
      replace hx2 := box hx2
      replace hT := box hT
      have h64 : Box (y < 18446744073709551616) := box (by omega)
      go_wp2_with (first | (with_reducible refine lst (by with_unfolding_all rfl) (wp_indexAddr T_int hr' (by with_unfolding_all exact ⟨_, _, _, _, rfl, rfl, rfl⟩) (by omega) (by omega) ?_)) | (with_reducible refine lst (by with_unfolding_all rfl) (wp_load1C hr' hx2 Try.underlying3 rfl (by with_unfolding_all exact ⟨_, rfl, rfl⟩) (by first | (simp; done) | (simp; omega) | omega) ?_)))
      refine (count_any y wr h64).mono ?_
      rintro e w1 ⟨v1, rfl, hown1, hb1⟩
      obtain ⟨A1, c1, rfl, _, hr1⟩ := hown1.arg
      have hF1 := hF.call hb1
      go_wp2_with (first | ((with_reducible refine lst (by with_unfolding_all rfl) (wp_fapp0 T_u8 hF1 hb hr1 (by with_unfolding_all exact ⟨_, _, rfl, rfl, rfl⟩) hrm ?_)); intro v2 w2 hF2 hz2))
      go_roundw
      case rel => exact ⟨k + 1, v2, by omega, by go_num, rfl, by rw [hT.out, ← List.append_assoc]; exact hF2⟩
      case measure => simp [intOf]; omega
    · go_wp2
      go_ret
      rw [List.take_of_length_le (by have := hl.out; omega)] at hF
      exact ⟨_, rfl, hF.bytes0, hF.grownX, box fun k hk => (hF.fresh 0 _ rfl k hk).imp id (fun h => Xof_mem.1 h)⟩
end Go.Proofs.Ytcnjnkkdidpjiaa

namespace Go.Proofs.Ytcnjnkkdidpjiaa
open Go.RowKit

theorem and127 (d : UInt8) : bits BinOp.and IntKind.u8 (d.toNat : Int) 127 = ((d.toNat % 128 : Nat) : Int) := by
  have := d.toNat_lt
  rw [show (127 : Int) = ((127 : Nat) : Int) from rfl, u8_and_nat _ _ (by omega) (by decide), nat_mask7]
/-- What a reading loop has come to: the whole reading is the reading from here on. -/
def RdcAt (l : List UInt8) (k : Nat) (C : Nat) : Prop := k ≤ 9 ∧ C < 2 ^ (7 * k) ∧ rdc 0 0 l = rdc k C (l.drop k)
theorem pow7 (k : Nat) : (2 : Nat) ^ (7 * (k + 1)) = 2 ^ (7 * k) * 128 := by rw [Nat.mul_add, Nat.pow_add]
theorem rdc_shift (d : UInt8) (k T : Nat) (hk : k ≤ 9) (h9 : k = 9 → d.toNat ≤ 1) (hT : T = d.toNat % 128 * 2 ^ (7 * k)) :
    IntKind.u64.wrap ((d.toNat : Int) % 128 * 2 ^ (7 * k)) = (T : Int) ∧ T < 18446744073709551616 := by
  have hd := d.toNat_lt
  have hlt : T < 18446744073709551616 := by
    rcases Nat.lt_or_ge k 9 with h | h
    · have h1 : 2 ^ (7 * k) ≤ 2 ^ 56 := Nat.pow_le_pow_right (by decide) (by omega)
      have h2 : T ≤ 127 * 2 ^ 56 := by rw [hT]; exact Nat.mul_le_mul (by omega) h1
      exact Nat.lt_of_le_of_lt h2 (by decide)
    · obtain rfl : k = 9 := by omega
      have h2 : T ≤ 1 * 2 ^ (7 * 9) := by rw [hT]; exact Nat.mul_le_mul (by have := h9 rfl; omega) (Nat.le_refl _)
      exact Nat.lt_of_le_of_lt h2 (by decide)
  have he : ((d.toNat : Int) % 128 * 2 ^ (7 * k)) = (T : Int) := by rw [hT]; simp
  refine ⟨?_, hlt⟩
  rw [he, IntWalk.u64_in _ (by omega)]
theorem rdc_or (C T k : Nat) (d : UInt8) (hC : C < 2 ^ (7 * k)) (hT : T < 18446744073709551616) (he : T = d.toNat % 128 * 2 ^ (7 * k)) (hk : k ≤ 9) :
    bits BinOp.or IntKind.u64 (C : Int) (T : Int) = ((C + T : Nat) : Int) := by
  have hC2 : C < 18446744073709551616 := Nat.lt_of_lt_of_le hC (Nat.le_trans (Nat.pow_le_pow_right (by decide) (show 7 * k ≤ 63 by omega)) (by decide))
  rw [u64_or_nat _ _ hC2 hT]
  congr 1
  rw [Nat.or_comm, nat_join (7 * k) T C (by rw [he]; exact Nat.mul_mod_left _ _) hC, Nat.add_comm]
theorem rdc_next {C T k : Nat} {d : UInt8} (hC : C < 2 ^ (7 * k)) (hT : T = d.toNat % 128 * 2 ^ (7 * k)) : C + T < 2 ^ (7 * (k + 1)) := by
  rw [pow7, hT]
  have h1 : d.toNat % 128 ≤ 127 := by omega
  have h2 := Nat.mul_le_mul_right (2 ^ (7 * k)) h1
  omega
theorem rdc_step {l : List UInt8} {k C : Nat} {d : UInt8} (h : RdcAt l k C) (hd : l[k]? = some d) :
    rdc 0 0 l = if (k = 9 ∧ 1 < d.toNat) ∨ (0 < k ∧ d.toNat = 0) then (0, 0, 10)
      else if d.toNat < 128 then (C + d.toNat % 128 * 2 ^ (7 * k), k + 1, 0) else rdc (k + 1) (C + d.toNat % 128 * 2 ^ (7 * k)) (l.drop (k + 1)) := by
  have hlt : k < l.length := (List.getElem?_eq_some_iff.1 hd).1
  have he : l[k] = d := (List.getElem?_eq_some_iff.1 hd).2
  rw [h.2.2, List.drop_eq_getElem_cons hlt, he, rdc]
theorem rdc_add (C T : Nat) (hT : C + T < 18446744073709551616) :
    IntKind.u64.wrap ((C : Int) + (T : Int)) = ((C + T : Nat) : Int) := by
  rw [IntWalk.u64_in _ (by omega)]; omega
theorem rdc_sum {C T k : Nat} {d : UInt8} (hC : C < 2 ^ (7 * k)) (hk : k ≤ 9) (h9 : k = 9 → d.toNat ≤ 1) (hT : T = d.toNat % 128 * 2 ^ (7 * k)) : C + T < 18446744073709551616 := by
  have h7 : T + 2 ^ (7 * k) ≤ 18446744073709551616 := by
    have he : T + 2 ^ (7 * k) = (d.toNat % 128 + 1) * 2 ^ (7 * k) := by rw [hT, Nat.add_mul, Nat.one_mul]
    rw [he]
    rcases Nat.lt_or_ge k 9 with h | h
    · have h1 : 2 ^ (7 * k) ≤ 2 ^ 56 := Nat.pow_le_pow_right (by decide) (by omega)
      exact Nat.le_trans (Nat.mul_le_mul (show d.toNat % 128 + 1 ≤ 128 by omega) h1) (by decide)
    · obtain rfl : k = 9 := by omega
      exact Nat.le_trans (Nat.mul_le_mul (show d.toNat % 128 + 1 ≤ 2 by have := h9 rfl; omega) (Nat.le_refl _)) (by decide)
  omega
/-- What a reading of a count tells of the bytes. -/
theorem rdc_used : ∀ (l : List UInt8) (i a : Nat), (rdc i a l).2.2 = 0 → i < (rdc i a l).2.1 ∧ (rdc i a l).2.1 ≤ i + l.length
  | [], i, a, h => by simp [rdc] at h
  | c :: l, i, a, h => by
    rw [rdc] at h ⊢
    split
    · rename_i h1; rw [if_pos h1] at h; simp at h
    · rename_i h1
      rw [if_neg h1] at h
      split
      · simp
      · rename_i h2
        rw [if_neg h2] at h
        have := rdc_used l (i + 1) _ h
        simp only [List.length_cons]; omega
theorem rdc_err : ∀ (l : List UInt8) (i a : Nat), (rdc i a l).2.2 = 0 ∨ (rdc i a l).2.2 = 9 ∨ (rdc i a l).2.2 = 10
  | [], i, a => by simp [rdc]
  | c :: l, i, a => by
    rw [rdc]
    split
    · simp
    · split
      · simp
      · exact rdc_err l _ _
theorem rdc_lt64 (l : List UInt8) : ∀ (m k C : Nat), m = l.length - k → RdcAt l k C → (rdc 0 0 l).1 < 18446744073709551616
  | m, k, C, hm, h => by
    rcases Nat.lt_or_ge k l.length with hk | hk
    · have hd : l[k]? = some l[k] := by simp
      have hs := rdc_step h hd
      by_cases hA : (k = 9 ∧ 1 < l[k].toNat) ∨ (0 < k ∧ l[k].toNat = 0)
      · rw [if_pos hA] at hs; rw [hs]; decide
      · rw [if_neg hA] at hs
        by_cases h8 : l[k].toNat < 128
        · rw [if_pos h8] at hs
          rw [hs]
          exact rdc_sum h.2.1 h.1 (fun h => by omega) rfl
        · rw [if_neg h8] at hs
          have hkn : k + 1 ≤ 9 := by have := h.1; omega
          match m, hm with
          | 0, hm => omega
          | m + 1, hm => exact rdc_lt64 l m (k + 1) _ (by omega) ⟨hkn, rdc_next h.2.1 rfl, hs⟩
    · have hs := h.2.2
      rw [List.drop_of_length_le hk, rdc] at hs
      rw [hs]; decide
theorem rdc_lt (l : List UInt8) : (rdc 0 0 l).1 < 18446744073709551616 := rdc_lt64 l _ 0 0 rfl ⟨by omega, by simp, by simp⟩
theorem rdt_bad {l : List UInt8} {most : Int} (h : (rdc 0 0 l).2.2 ≠ 0) : rdt l most = ([], 0, (rdc 0 0 l).2.2) := by unfold rdt; simp [h]
theorem rdt_limit {l : List UInt8} {most : Int} (h : (rdc 0 0 l).2.2 = 0) (h1 : most < ((rdc 0 0 l).1 : Int)) : rdt l most = ([], 0, 8) := by unfold rdt; simp [h, h1]
theorem rdt_short {l : List UInt8} {most : Int} (h : (rdc 0 0 l).2.2 = 0) (h1 : ¬ most < ((rdc 0 0 l).1 : Int)) (h2 : l.length - (rdc 0 0 l).2.1 < (rdc 0 0 l).1) : rdt l most = ([], 0, 9) := by unfold rdt; simp only; rw [if_neg (by simp [h]), if_neg h1, if_pos h2]
theorem rdt_ok {l : List UInt8} {most : Int} (h : (rdc 0 0 l).2.2 = 0) (h1 : ¬ most < ((rdc 0 0 l).1 : Int)) (h2 : ¬ l.length - (rdc 0 0 l).2.1 < (rdc 0 0 l).1) :
    rdt l most = ((l.drop (rdc 0 0 l).2.1).take (rdc 0 0 l).1, (rdc 0 0 l).2.1 + (rdc 0 0 l).1, 0) := by unfold rdt; simp only; rw [if_neg (by simp [h]), if_neg h1, if_neg h2]
/-- The ways of a text's reading: x the count, u its bytes, er the error. -/
structure RdtWay (l : List UInt8) (n : Nat) (most : Int) (x u er : Nat) (r : List UInt8 × Nat × Nat) : Prop where
  way : er ≠ 0 ∧ r = ([], 0, er) ∨ er = 0 ∧ u ≤ n ∧ (most < (x : Int) ∧ r = ([], 0, 8) ∨ ¬ most < (x : Int) ∧ (n - u < x ∧ r = ([], 0, 9) ∨ ¬ n - u < x ∧ r = ((l.drop u).take x, u + x, 0)))
theorem rdt_way {l : List UInt8} {n : Nat} (hl : l.length = n) (most : Int) : RdtWay l n most (rdc 0 0 l).1 (rdc 0 0 l).2.1 (rdc 0 0 l).2.2 (rdt l most) := by
  refine ⟨?_⟩
  by_cases h : (rdc 0 0 l).2.2 = 0
  · refine .inr ⟨h, by have := rdc_used l 0 0 h; omega, ?_⟩
    by_cases h1 : most < ((rdc 0 0 l).1 : Int)
    · exact .inl ⟨h1, rdt_limit h h1⟩
    · refine .inr ⟨h1, ?_⟩
      rw [← hl]
      by_cases h2 : l.length - (rdc 0 0 l).2.1 < (rdc 0 0 l).1
      · exact .inl ⟨h2, rdt_short h h1 h2⟩
      · exact .inr ⟨h2, rdt_ok h h1 h2⟩
  · exact .inl ⟨h, rdt_bad h⟩
end Go.Proofs.Ytcnjnkkdidpjiaa

namespace Go.Proofs.Ytcnjnkkdidpjiaa
open Go.RowKit

def rCount : Option (List UInt8) → Nat × Option (List UInt8)
  | none => (0, none)
  | some l => if (rdc 0 0 l).2.2 ≠ 0 ∨ 1099511627776 < (rdc 0 0 l).1 then (0, none) else ((rdc 0 0 l).1, some (l.drop (rdc 0 0 l).2.1))
def rText (most : Int) : Option (List UInt8) → List UInt8 × Option (List UInt8)
  | none => ([], none)
  | some l => if (rdt l most).2.2 ≠ 0 then ([], none) else ((rdt l most).1, some (l.drop (rdt l most).2.1))
def rSum : Option (List UInt8) → List UInt8 × Option (List UInt8)
  | none => (zeros, none)
  | some l => if l.length < 32 then (zeros, none) else (l.take 32, some (l.drop 32))
theorem rSum_len (s : Option (List UInt8)) : (rSum s).1.length = 32 := by
  cases s with
  | none => simp [rSum, zeros]
  | some l =>
    show (if l.length < 32 then (zeros, none) else (l.take 32, some (l.drop 32)) : List UInt8 × Option (List UInt8)).1.length = 32
    by_cases h : l.length < 32
    · rw [if_pos h]; simp [zeros]
    · rw [if_neg h]; simp; omega

theorem Rd.same {w w0 : World} {S : Nat → Prop} {A : Option Addr} {size n : Nat} {xs : List Value} (h : Rd w S A size n xs) (hk : ∀ k, S k → w0.heap[k]? = w.heap[k]?) : Rd w0 S A size n xs :=
  ⟨h.len, h.some_, h.inS, fun j u hu => by
    rw [← h.cell j u hu]
    exact World.cell?_of_block (w := w) (hk _ (by rw [atp_block]; exact h.inS (h.pos_of hu)))⟩
theorem Rd.wide {w : World} {B : Nat} {A : Option Addr} {size n : Nat} {xs : List Value} (h : Rd w (· < B) A size n xs) (hB : B ≤ w.heap.size) : Rd w (· < w.heap.size) A size n xs := h.mono fun _ hk => Nat.lt_of_lt_of_le hk hB

theorem Fr.rdBase {w0 w w' : World} {g B : Nat} {es : List Ent} (hF : Fr [g] w w' es) (hb : Below B w0 w) (hB : B ≤ w0.heap.size) (hg : B ≤ g) {A : Option Addr} {size n : Nat} {xs : List Value} (hr : Rd w0 (· < B) A size n xs) : Rd w' (· < B) A size n xs :=
  hr.same fun k hk => by
    have hk : k < B := hk
    exact (hF.block k (Nat.lt_of_lt_of_le hk (Nat.le_trans hB hb.size)) (by simp; omega)).trans (hb.block k hk)
/-- What the program's reader holds: s is what is left, if all went well. -/
structure RdrAt (w0 : World) (B N : Nat) (s : Option (List UInt8)) (cs : List Value) : Prop where
  ex : ∃ A n c l ok, cs = [.slice A n c, .bool ok] ∧ Rd w0 (· < B) A 1 n (l.map bv) ∧ n ≤ c ∧ n ≤ N ∧ Box (s = if ok = true then some l else none)
/-- What the document's reader holds. -/
structure InAt (A : Option Addr) (n c : Nat) (l : List UInt8) (s : Option (List UInt8)) (cs : List Value) : Prop where
  ex : ∃ q : Int, cs = [.slice A n c, .int .i64 q] ∧ (q = -1 ∧ Box (s = none) ∨ ∃ k : Nat, k ≤ n ∧ q = (k : Int) ∧ Box (s = some (l.drop k)))
/-- What a call leaves that was handed one block: its value, and the block's cells. -/
def Left (w : World) (T : TypeId) (g : Nat) (v : Value) (OK : List Value → Prop) (e : Ending) (w' : World) : Prop :=
  ∃ cs', e = .returned v ∧ w.grownBy w' (some g) ∧ w'.heap[g]? = some (.cells cs'.toArray T (0, 0)) ∧ OK cs'
/-- The same, with bytes that are told. -/
def LeftB (w : World) (T : TypeId) (g : Nat) (t : TypeId) (l : List UInt8) (OK : List Value → Prop) (e : Ending) (w' : World) : Prop :=
  ∃ v cs', e = .returned v ∧ OwnB w' w.heap.size t v l ∧ w.grownBy w' (some g) ∧ w'.heap[g]? = some (.cells cs'.toArray T (0, 0)) ∧ OK cs'
end Go.Proofs.Ytcnjnkkdidpjiaa

namespace Go.Proofs.Ytcnjnkkdidpjiaa
open Go.RowKit

def reqOk (r : Req) : Bool := decide (1 ≤ r.op) && decide (r.op ≤ 20) && decide (r.repo.size ≤ 128) && decide (r.word.size ≤ 128) && decide (r.body.length ≤ 1048576) && numB r.id && numB r.at_ && numB r.n
def reqB (r : Req) : List UInt8 :=
  [UInt8.ofNat r.op.toNat] ++ textL r.repo.data.toList ++ textL r.word.data.toList ++ r.d ++ cnt r.id.toNat ++ cnt r.at_.toNat ++ cnt r.n.toNat ++ textL r.body
theorem reqOk_of {r : Req} (h1 : 1 ≤ r.op) (h2 : r.op ≤ 20) (h3 : r.repo.size ≤ 128) (h4 : r.word.size ≤ 128) (h5 : r.body.length ≤ 1048576) (h6 : numB r.id = true) (h7 : numB r.at_ = true) (h8 : numB r.n = true) : reqOk r = true := by
  simp [reqOk, *]
theorem reqOk_iff {r : Req} (h : reqOk r = true) : 1 ≤ r.op ∧ r.op ≤ 20 ∧ r.repo.size ≤ 128 ∧ r.word.size ≤ 128 ∧ r.body.length ≤ 1048576 ∧ numB r.id = true ∧ numB r.at_ = true ∧ numB r.n = true := by
  simp only [reqOk, Bool.and_eq_true, decide_eq_true_eq] at h
  obtain ⟨⟨⟨⟨⟨⟨⟨a, b⟩, c⟩, d⟩, e⟩, f⟩, g⟩, i⟩ := h
  exact ⟨a, b, c, d, e, f, g, i⟩
theorem numB_iff {n : Int} (h : numB n = true) : 0 ≤ n ∧ n ≤ 1099511627776 := by simpa [numB] using h
theorem numB_not {n : Int} (h : ¬ (0 ≤ n ∧ n ≤ 1099511627776)) : numB n = false := by
  unfold numB
  by_cases h0 : 0 ≤ n
  · have : ¬ n ≤ 1099511627776 := fun h1 => h ⟨h0, h1⟩
    simp [this]
  · simp [h0]
/-- What a call hands back: bytes of its own and an error's number; nothing else has changed. -/
def Told (w : World) (t : TypeId) (l : List UInt8) (er : Int) (e : Ending) (w' : World) : Prop :=
  ∃ v, e = .returned (.tuple #[v, .int .i64 er]) ∧ OwnB w' w.heap.size t v l ∧ Below w.heap.size w w'
end Go.Proofs.Ytcnjnkkdidpjiaa

namespace Go.Proofs.Ytcnjnkkdidpjiaa
open Go.RowKit

section
variable {X : List Nat} {w0 w : World} {es : List Ent}
/-- Some of the entries. -/
theorem Fr.pick1 (h : Fr X w0 w es) {i : Nat} {e : Ent} (hi : es[i]? = some e) : Fr X w0 w [e] :=
  ⟨h.os, h.tape, h.output, h.size, h.block, fun j f hj => by match j, hj with | 0, hj => injection hj with hj; subst hj; exact h.holds i _ hi,
    fun j f hj => by match j, hj with | 0, hj => injection hj with hj; subst hj; exact h.fresh i _ hi,
    fun j k f f' hj hk hjk => by match j, k, hj, hk with | 0, 0, _, _ => exact absurd rfl hjk⟩
theorem Fr.pick2 (h : Fr X w0 w es) {i j : Nat} {e f : Ent} (hi : es[i]? = some e) (hj : es[j]? = some f) (hij : i ≠ j) : Fr X w0 w [e, f] :=
  (h.pick1 hj).push (h.holds i e hi) fun b hb => ⟨h.fresh i e hi b hb, fun k f' hk he => by
    match k, hk with
    | 0, hk =>
      injection hk with hk; subst hk
      rcases h.apart i j e f hi hj hij with h1 | h1
      · rw [h1] at hb; cases hb
      · exact h1 (hb.trans he.symm)⟩
theorem Fr.pick3 (h : Fr X w0 w es) {i j k : Nat} {e f f' : Ent} (hi : es[i]? = some e) (hj : es[j]? = some f) (hk : es[k]? = some f') (hij : i ≠ j) (hik : i ≠ k) (hjk : j ≠ k) : Fr X w0 w [e, f, f'] :=
  (h.pick2 hj hk hjk).push (h.holds i e hi) fun b hb => ⟨h.fresh i e hi b hb, fun q f'' hq he => by
    match q, hq with
    | 0, hq =>
      injection hq with hq; subst hq
      rcases h.apart i j e f hi hj hij with h1 | h1
      · rw [h1] at hb; cases hb
      · exact h1 (hb.trans he.symm)
    | 1, hq =>
      injection hq with hq; subst hq
      rcases h.apart i k e f' hi hk hik with h1 | h1
      · rw [h1] at hb; cases hb
      · exact h1 (hb.trans he.symm)⟩
/-- What an entry reads, apart from the bytes that another owns. -/
theorem Fr.rdNe (h : Fr X w0 w es) {i j b b' : Nat} {e e' : TypeId} {size n m c : Nat} {A : Option Addr} {xs : List Value} {v : Value} {l : List UInt8} (hi : es[i]? = some (.own b e size (.slice A n c) m xs)) (hj : es[j]? = some (.bytes b' e' v l)) (hij : i ≠ j) :
    Rd w (fun k => k < w.heap.size ∧ k ∉ Xof v) A size n xs := by
  have hr := h.rdOwn hi
  refine ⟨hr.len, hr.some_, fun hn => ⟨hr.inS hn, fun hm => ?_⟩, hr.cell⟩
  have hA := hr.some_ hn
  have hv := Xof_mem.1 hm
  rcases h.apart i j _ _ hi hj hij with h1 | h1
  · have h1 : (Value.slice A n c).ownBlock = none := h1
    rw [hA] at h1; cases h1
  · have h1 : (Value.slice A n c).ownBlock ≠ v.ownBlock := h1
    rw [hv, hA] at h1
    exact h1 rfl
end

section
variable {P : Program} {o : Oper} {a : Act} {w : World} {K : Act → World → Prop} {Q : Exit → Act → World → Prop}
/-- A call, met by its contract. -/
theorem wp_call {f : FuncId} {fn : Func} {args : Array Operand} {ts : Array TypeId} {vs : Array Value} (hf : P.funcs[f]? = some fn) (hb : fn.body.isNone = false) (hn : (fn.name == "runtime.NumGoroutine") = false)
    (ho : o.op = .call { callee := .value (.func f), args := args, argTypes := ts }) (hv : args.map a.eval = vs) {R : Ending → World → Prop} (hc : Calls P f vs w R) (k : ∀ e w', R e w' → ∃ v, e = .returned v ∧ K (a.put o.dst v) w') : o.wp P a w K Q := by
  have hrun : (execOp a.eval o).run P w = .ok (.enter f vs) w := by
    unfold execOp
    have hn' : ¬ fn.name = "runtime.NumGoroutine" := by simpa using hn
    have hb' : ¬ fn.body = none := by
      intro h
      rw [h] at hb
      cases hb
    simp only [ho, resolve, Act.eval, Deferred.ofValue, invoke, callFunc, Sem.run_bind, Sem.run_pure, Result.andThen_ok, run_program, hf, ← hv]
    simp [hn', hb']
  unfold Oper.wp
  rw [hrun, Oper.upon_enter]
  refine hc.mono fun e w' hR => ?_
  obtain ⟨v, rfl, hK⟩ := k e w' hR
  exact hK
/-- Two arrays of bytes compared. -/
theorem wp_eqB {t e : TypeId} {n : Nat} (ht : P.underlying t = some (.array n e)) (he : P.underlying e = some (.int .u8)) (hs : (P.info? e).map (·.size) = some 1) (hg : P.eqGuardType P.depth t = false) {l m : List UInt8} (hl : l.length = n) (hm : m.length = n)
    {x y : Operand} {ty : TypeId} (ho : o.op = .binOp .eql t x y ty) (hx : a.eval x = .agg (l.map bv).toArray) (hy : a.eval y = .agg (m.map bv).toArray) (k : K (a.put o.dst (.bool (l == m))) w) : o.wp P a w K Q := by
  refine wp_run (v := .bool (l == m)) (w' := w) ?_ k
  have h1 := run_eqGuard_agg (P := P) w .eql t x y (l.map bv).toArray (m.map bv).toArray hg
  have h2 := run_eql_struct (P := P) w t (l.map bv).toArray (m.map bv).toArray
  have h3 := run_eqBytes (P := P) ht he hs l m hl hm 9998 w
  unfold execOp
  simp only [ho, hx, hy, Sem.run_bind, h1, h2, h3, Result.andThen_ok, Sem.run_pure]
theorem wp_neB {t e : TypeId} {n : Nat} (ht : P.underlying t = some (.array n e)) (he : P.underlying e = some (.int .u8)) (hs : (P.info? e).map (·.size) = some 1) (hg : P.eqGuardType P.depth t = false) {l m : List UInt8} (hl : l.length = n) (hm : m.length = n)
    {x y : Operand} {ty : TypeId} (ho : o.op = .binOp .neq t x y ty) (hx : a.eval x = .agg (l.map bv).toArray) (hy : a.eval y = .agg (m.map bv).toArray) (k : K (a.put o.dst (.bool (!(l == m)))) w) : o.wp P a w K Q := by
  refine wp_run (v := .bool (!(l == m))) (w' := w) ?_ k
  have h1 := run_eqGuard_agg (P := P) w .neq t x y (l.map bv).toArray (m.map bv).toArray hg
  have h2 := run_neq_struct (P := P) w t (l.map bv).toArray (m.map bv).toArray
  have h3 := run_eqBytes (P := P) ht he hs l m hl hm 9998 w
  unfold execOp
  simp only [ho, hx, hy, Sem.run_bind, h1, h2, h3, Result.andThen_ok, Sem.run_pure]
end
end Go.Proofs.Ytcnjnkkdidpjiaa
