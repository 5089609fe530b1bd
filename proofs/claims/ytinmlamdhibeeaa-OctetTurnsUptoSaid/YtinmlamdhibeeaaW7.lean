/-
  Walks of layer 1: counts and texts that are read.
-/
import Derived.Test.YtinmlamdhibeeaaW6
namespace Go.Proofs.Ytinmlamdhibeeaa
open Go.RowKit

theorem rdc_add (C T : Nat) (hT : C + T < 18446744073709551616) :
    IntKind.u64.wrap ((C : Int) + (T : Int)) = ((C + T : Nat) : Int) := by
  rw [IntWalk.u64_in _ (by omega)]; omega
theorem rdc_sum {C T k : Nat} {d : UInt8} (hC : C < 2 ^ (7 * k)) (hk : k ≤ 9) (h9 : k = 9 → d.toNat ≤ 1) (hT : T = d.toNat % 128 * 2 ^ (7 * k)) : C + T < 18446744073709551616 := by
  have h7 : T + 2 ^ (7 * k) ≤ 18446744073709551616 := by
    have he : T + 2 ^ (7 * k) = (d.toNat % 128 + 1) * 2 ^ (7 * k) := by rw [hT, Nat.add_mul, Nat.one_mul]
    rw [he]
    rcases Nat.lt_or_ge k 9 with h | h
    · have h1 : 2 ^ (7 * k) ≤ 2 ^ 56 := Nat.pow_le_pow_right (by decide) (by omega)
      exact Nat.le_trans (Nat.mul_le_mul (show d.toNat % 128 + 1 ≤ 128 by omega) h1) (by decide)
    · obtain rfl : k = 9 := by omega
      exact Nat.le_trans (Nat.mul_le_mul (show d.toNat % 128 + 1 ≤ 2 by have := h9 rfl; omega) (Nat.le_refl _)) (by decide)
  omega

set_option maxRecDepth 20000 in
set_option maxHeartbeats 800000 in
theorem rreadCount_any (A : Option Addr) (n c : Nat) (l : List UInt8) (w : World) (hm : n ≤ 9223372036854775807) (hr : Rd w (· < w.heap.size) A 1 n (l.map bv)) :
    Calls Try.prog 20 #[.slice A n c] w fun e w' => e = .returned (.tuple #[.int .u64 (rdc 0 0 l).1, .int .i64 (rdc 0 0 l).2.1, .int .i64 (rdc 0 0 l).2.2]) ∧ w = w' := by
  have hl := box hr.bytes_len
  go_enter Try.func20, Try.ntmps20
  go_wp2
  go_loop [5, 6] (fun x i => ∃ k C : Nat, k ≤ 9 ∧ k ≤ n ∧ Box (RdcAt l k C) ∧ i = .int .i64 k ∧ x = .int .u64 (C : Nat)) (fun _ i => n - (intOf i).toNat)
  case atStart => exact ⟨0, 0, by omega, by omega, box ⟨by omega, by simp, by simp⟩, rfl, rfl⟩
  case round =>
    obtain ⟨k, C, hk9, hk, HR, rfl, rfl⟩ := hrel
    by_cases hlt : k < n
    · obtain ⟨d, hd⟩ : ∃ d, l[k]? = some d := ⟨l[k]'(by have := hl.out; omega), by simp⟩
      have hs := rdc_step HR.out hd
      replace hd := box hd
      have dlt : d.toNat < 256 := d.toNat_lt
      have hz : ((d.toNat : Int) == 0) = true ∧ Box (d.toNat = 0) ∨ ((d.toNat : Int) == 0) = false ∧ Box (d.toNat ≠ 0) := by
        by_cases h0 : d.toNat = 0
        · exact .inl ⟨by simp [h0], box h0⟩
        · exact .inr ⟨by simp; omega, box h0⟩
      have h9 : ((k : Int) == 9) = true ∧ Box (k = 9) ∨ ((k : Int) == 9) = false ∧ Box (k ≠ 9) := by
        by_cases h0 : k = 9
        · exact .inl ⟨by simp; omega, box h0⟩
        · exact .inr ⟨by simp; omega, box h0⟩
      by_cases hA : (k = 9 ∧ 1 < d.toNat) ∨ (0 < k ∧ d.toNat = 0)
      · rw [if_pos hA] at hs
        replace hs := box hs
        replace hA := box hA
        rcases hz with ⟨hz, hz'⟩ | ⟨hz, hz'⟩ <;> rcases h9 with ⟨h9, h9'⟩ | ⟨h9, h9'⟩
        · have hk0 : 0 < (k : Int) := by have := h9'.out; omega
          have h1 : ¬ 1 < (d.toNat : Int) := by have := hz'.out; omega
          go_wp2_with (first | (with_reducible refine lst (by with_unfolding_all rfl) (wp_indexAddr T_u8 hr (by with_unfolding_all exact ⟨_, _, _, _, rfl, rfl, rfl⟩) (by omega) (by omega) ?_)) | (with_reducible refine lst (by with_unfolding_all rfl) (wp_loadC hr hd Try.underlying5 rfl (by with_unfolding_all exact ⟨_, rfl, rfl⟩) (by first | (simp; done) | (simp; omega) | omega) ?_)))
          go_ret3
          exact ⟨by rw [hs.out]; rfl, rfl⟩
        · have hk0 : 0 < (k : Int) := by
            rcases hA.out with h | h
            · exact absurd h.1 h9'.out
            · omega
          go_wp2_with (first | (with_reducible refine lst (by with_unfolding_all rfl) (wp_indexAddr T_u8 hr (by with_unfolding_all exact ⟨_, _, _, _, rfl, rfl, rfl⟩) (by omega) (by omega) ?_)) | (with_reducible refine lst (by with_unfolding_all rfl) (wp_loadC hr hd Try.underlying5 rfl (by with_unfolding_all exact ⟨_, rfl, rfl⟩) (by first | (simp; done) | (simp; omega) | omega) ?_)))
          go_ret3
          exact ⟨by rw [hs.out]; rfl, rfl⟩
        · have h1 : 1 < (d.toNat : Int) := by
            rcases hA.out with h | h
            · omega
            · exact absurd h.2 hz'.out
          go_wp2_with (first | (with_reducible refine lst (by with_unfolding_all rfl) (wp_indexAddr T_u8 hr (by with_unfolding_all exact ⟨_, _, _, _, rfl, rfl, rfl⟩) (by omega) (by omega) ?_)) | (with_reducible refine lst (by with_unfolding_all rfl) (wp_loadC hr hd Try.underlying5 rfl (by with_unfolding_all exact ⟨_, rfl, rfl⟩) (by first | (simp; done) | (simp; omega) | omega) ?_)))
          go_ret3
          exact ⟨by rw [hs.out]; rfl, rfl⟩
        · exact absurd hA.out (fun h => h.elim (fun h => h9'.out h.1) (fun h => hz'.out h.2))
      · rw [if_neg hA] at hs
        obtain ⟨T, hT⟩ : ∃ T, T = d.toNat % 128 * 2 ^ (7 * k) := ⟨_, rfl⟩
        rw [← hT] at hs
        have hT1 := (rdc_shift d k T hk9 (fun h => by omega) hT).1
        have hO := rdc_add C T (rdc_sum HR.out.2.1 hk9 (fun h => by omega) hT)
        replace hT := box hT
        by_cases hd8 : d.toNat < 128
        · rw [if_pos hd8] at hs
          replace hs := box hs
          replace hA := box hA
          rcases hz with ⟨hz, hz'⟩ | ⟨hz, hz'⟩ <;> rcases h9 with ⟨h9, h9'⟩ | ⟨h9, h9'⟩
          · exact absurd (Or.inr ⟨by have := h9'.out; omega, hz'.out⟩) hA.out
          · have hk0 : ¬ 0 < (k : Int) := fun h => hA.out (.inr ⟨by omega, hz'.out⟩)
            go_wp2_with (first | (with_reducible refine lst (by with_unfolding_all rfl) (wp_indexAddr T_u8 hr (by with_unfolding_all exact ⟨_, _, _, _, rfl, rfl, rfl⟩) (by omega) (by omega) ?_)) | (with_reducible refine lst (by with_unfolding_all rfl) (wp_loadC hr hd Try.underlying5 rfl (by with_unfolding_all exact ⟨_, rfl, rfl⟩) (by first | (simp; done) | (simp; omega) | omega) ?_)))
            go_ret3
            exact ⟨by rw [hs.out]; rfl, rfl⟩
          · have h1 : ¬ 1 < (d.toNat : Int) := fun h => hA.out (.inl ⟨h9'.out, by omega⟩)
            go_wp2_with (first | (with_reducible refine lst (by with_unfolding_all rfl) (wp_indexAddr T_u8 hr (by with_unfolding_all exact ⟨_, _, _, _, rfl, rfl, rfl⟩) (by omega) (by omega) ?_)) | (with_reducible refine lst (by with_unfolding_all rfl) (wp_loadC hr hd Try.underlying5 rfl (by with_unfolding_all exact ⟨_, rfl, rfl⟩) (by first | (simp; done) | (simp; omega) | omega) ?_)))
            all_goals go_ret3
            all_goals exact ⟨by rw [hs.out]; rfl, rfl⟩
          · go_wp2_with (first | (with_reducible refine lst (by with_unfolding_all rfl) (wp_indexAddr T_u8 hr (by with_unfolding_all exact ⟨_, _, _, _, rfl, rfl, rfl⟩) (by omega) (by omega) ?_)) | (with_reducible refine lst (by with_unfolding_all rfl) (wp_loadC hr hd Try.underlying5 rfl (by with_unfolding_all exact ⟨_, rfl, rfl⟩) (by first | (simp; done) | (simp; omega) | omega) ?_)))
            all_goals go_ret3
            all_goals exact ⟨by rw [hs.out]; rfl, rfl⟩
        · rw [if_neg hd8] at hs
          have hkn : k + 1 ≤ 9 := by omega
          have h9 : ((k : Int) == 9) = false := by simp; omega
          have hz : ((d.toNat : Int) == 0) = false := by simp; omega
          replace hs : Box (RdcAt l (k + 1) (C + T)) := box ⟨hkn, rdc_next HR.out.2.1 hT.out, hs⟩
          replace hA := box hA
          go_wp2_with (first | (with_reducible refine lst (by with_unfolding_all rfl) (wp_indexAddr T_u8 hr (by with_unfolding_all exact ⟨_, _, _, _, rfl, rfl, rfl⟩) (by omega) (by omega) ?_)) | (with_reducible refine lst (by with_unfolding_all rfl) (wp_loadC hr hd Try.underlying5 rfl (by with_unfolding_all exact ⟨_, rfl, rfl⟩) (by first | (simp; done) | (simp; omega) | omega) ?_)))
          all_goals
            go_round
            case rel => exact ⟨k + 1, C + T, hkn, by omega, hs, by go_num, by go_num⟩
            case measure => simp [intOf]; omega
    · have hs := HR.out.2.2
      rw [List.drop_of_length_le (by have := hl.out; omega), rdc] at hs
      replace hs := box hs
      go_wp2
      go_ret3
      exact ⟨by rw [hs.out]; rfl, rfl⟩

/-- What a reading of a count tells of the bytes. -/
theorem rdc_used : ∀ (l : List UInt8) (i a : Nat), (rdc i a l).2.2 = 0 → i < (rdc i a l).2.1 ∧ (rdc i a l).2.1 ≤ i + l.length
  | [], i, a, h => by simp [rdc] at h
  | c :: l, i, a, h => by
    rw [rdc] at h ⊢
    split
    · rename_i h1; rw [if_pos h1] at h; simp at h
    · rename_i h1
      rw [if_neg h1] at h
      split
      · simp
      · rename_i h2
        rw [if_neg h2] at h
        have := rdc_used l (i + 1) _ h
        simp only [List.length_cons]; omega
theorem rdc_err : ∀ (l : List UInt8) (i a : Nat), (rdc i a l).2.2 = 0 ∨ (rdc i a l).2.2 = 9 ∨ (rdc i a l).2.2 = 10
  | [], i, a => by simp [rdc]
  | c :: l, i, a => by
    rw [rdc]
    split
    · simp
    · split
      · simp
      · exact rdc_err l _ _
theorem rdc_lt64 (l : List UInt8) : ∀ (m k C : Nat), m = l.length - k → RdcAt l k C → (rdc 0 0 l).1 < 18446744073709551616
  | m, k, C, hm, h => by
    rcases Nat.lt_or_ge k l.length with hk | hk
    · have hd : l[k]? = some l[k] := by simp
      have hs := rdc_step h hd
      by_cases hA : (k = 9 ∧ 1 < l[k].toNat) ∨ (0 < k ∧ l[k].toNat = 0)
      · rw [if_pos hA] at hs; rw [hs]; decide
      · rw [if_neg hA] at hs
        by_cases h8 : l[k].toNat < 128
        · rw [if_pos h8] at hs
          rw [hs]
          exact rdc_sum h.2.1 h.1 (fun h => by omega) rfl
        · rw [if_neg h8] at hs
          have hkn : k + 1 ≤ 9 := by have := h.1; omega
          match m, hm with
          | 0, hm => omega
          | m + 1, hm => exact rdc_lt64 l m (k + 1) _ (by omega) ⟨hkn, rdc_next h.2.1 rfl, hs⟩
    · have hs := h.2.2
      rw [List.drop_of_length_le hk, rdc] at hs
      rw [hs]; decide
theorem rdc_lt (l : List UInt8) : (rdc 0 0 l).1 < 18446744073709551616 := rdc_lt64 l _ 0 0 rfl ⟨by omega, by simp, by simp⟩

theorem rdt_bad {l : List UInt8} {most : Int} (h : (rdc 0 0 l).2.2 ≠ 0) : rdt l most = ([], 0, (rdc 0 0 l).2.2) := by unfold rdt; simp [h]
theorem rdt_limit {l : List UInt8} {most : Int} (h : (rdc 0 0 l).2.2 = 0) (h1 : most < ((rdc 0 0 l).1 : Int)) : rdt l most = ([], 0, 8) := by unfold rdt; simp [h, h1]
theorem rdt_short {l : List UInt8} {most : Int} (h : (rdc 0 0 l).2.2 = 0) (h1 : ¬ most < ((rdc 0 0 l).1 : Int)) (h2 : l.length - (rdc 0 0 l).2.1 < (rdc 0 0 l).1) : rdt l most = ([], 0, 9) := by unfold rdt; simp only; rw [if_neg (by simp [h]), if_neg h1, if_pos h2]
theorem rdt_ok {l : List UInt8} {most : Int} (h : (rdc 0 0 l).2.2 = 0) (h1 : ¬ most < ((rdc 0 0 l).1 : Int)) (h2 : ¬ l.length - (rdc 0 0 l).2.1 < (rdc 0 0 l).1) :
    rdt l most = ((l.drop (rdc 0 0 l).2.1).take (rdc 0 0 l).1, (rdc 0 0 l).2.1 + (rdc 0 0 l).1, 0) := by unfold rdt; simp only; rw [if_neg (by simp [h]), if_neg h1, if_neg h2]

/-- The ways of a text's reading: x the count, u its bytes, er the error. -/
structure RdtWay (l : List UInt8) (n : Nat) (most : Int) (x u er : Nat) (r : List UInt8 × Nat × Nat) : Prop where
  way : er ≠ 0 ∧ r = ([], 0, er) ∨ er = 0 ∧ u ≤ n ∧ (most < (x : Int) ∧ r = ([], 0, 8) ∨ ¬ most < (x : Int) ∧ (n - u < x ∧ r = ([], 0, 9) ∨ ¬ n - u < x ∧ r = ((l.drop u).take x, u + x, 0)))
theorem rdt_way {l : List UInt8} {n : Nat} (hl : l.length = n) (most : Int) : RdtWay l n most (rdc 0 0 l).1 (rdc 0 0 l).2.1 (rdc 0 0 l).2.2 (rdt l most) := by
  refine ⟨?_⟩
  by_cases h : (rdc 0 0 l).2.2 = 0
  · refine .inr ⟨h, by have := rdc_used l 0 0 h; omega, ?_⟩
    by_cases h1 : most < ((rdc 0 0 l).1 : Int)
    · exact .inl ⟨h1, rdt_limit h h1⟩
    · refine .inr ⟨h1, ?_⟩
      rw [← hl]
      by_cases h2 : l.length - (rdc 0 0 l).2.1 < (rdc 0 0 l).1
      · exact .inl ⟨h2, rdt_short h h1 h2⟩
      · exact .inr ⟨h2, rdt_ok h h1 h2⟩
  · exact .inl ⟨h, rdt_bad h⟩

set_option maxRecDepth 20000 in
set_option maxHeartbeats 800000 in
theorem readText_any (A : Option Addr) (n c : Nat) (l : List UInt8) (most : Int) (w : World) (hm : n ≤ 140737488355000) (hnc : n ≤ c) (hmo : most ≤ 9223372036854775807) (hr : Rd w (· < w.heap.size) A 1 n (l.map bv)) :
    Calls Try.prog 26 #[.slice A n c, .int .i64 most] w fun e w' => ∃ v, e = .returned (.tuple #[v, .int .i64 (rdt l most).2.1, .int .i64 (rdt l most).2.2]) ∧ OwnB w' w.heap.size 5 v (rdt l most).1 ∧ Below w.heap.size w w' := by
  have hrc := box (readCount_any A n c l w (by omega) hr)
  have hway := rdt_way hr.bytes_len most
  have h64 := box (rdc_lt l)
  have herr := rdc_err l 0 0
  generalize (rdc 0 0 l).1 = x at *
  generalize (rdc 0 0 l).2.1 = u at *
  generalize (rdc 0 0 l).2.2 = er at *
  generalize rdt l most = r at *
  have herr' : er ≤ 10 := by omega
  clear herr
  rcases hway.way with ⟨h0, rfl⟩ | ⟨rfl, hu, ⟨h1, rfl⟩ | ⟨h1, ⟨h2, rfl⟩ | ⟨h2, rfl⟩⟩⟩
  · clear hway
    have hne : ((er : Int) != 0) = true := by simp; omega
    go_enter Try.func26, Try.ntmps26
    go_wp2_with fail
    refine hrc.out.mono ?_
    rintro e w1 ⟨rfl, rfl⟩
    go_wp2
    go_ret3
    exact ⟨_, rfl, OwnB.nil _ _ _, Below.refl _ _⟩
  · clear hway
    by_cases hmn : most < 0
    · go_enter Try.func26, Try.ntmps26
      go_wp2_with fail
      refine hrc.out.mono ?_
      rintro e w1 ⟨rfl, rfl⟩
      go_wp2
      go_ret3
      exact ⟨_, rfl, OwnB.nil _ _ _, Below.refl _ _⟩
    · go_enter Try.func26, Try.ntmps26
      go_wp2_with fail
      refine hrc.out.mono ?_
      rintro e w1 ⟨rfl, rfl⟩
      go_wp2
      go_ret3
      exact ⟨_, rfl, OwnB.nil _ _ _, Below.refl _ _⟩
  · clear hway
    have hmn : ¬ most < 0 := by omega
    go_enter Try.func26, Try.ntmps26
    go_wp2_with fail
    refine hrc.out.mono ?_
    rintro e w1 ⟨rfl, rfl⟩
    go_wp2
    go_ret3
    exact ⟨_, rfl, OwnB.nil _ _ _, Below.refl _ _⟩
  · clear hway
    have hmn : ¬ most < 0 := by omega
    have hr' := hr.mapB (k := u) (j := x) (by omega)
    have hb0 := Below.refl w.heap.size w
    have hB0 := Nat.le_refl w.heap.size
    go_enter Try.func26, Try.ntmps26
    go_wp2_with fail
    refine hrc.out.mono ?_
    rintro e w1 ⟨rfl, rfl⟩
    have hn0 : ([] : List UInt8).length + (u + x - u) ≤ 140737488355328 := by simp; omega
    go_wp2_with (first | ((with_reducible refine lst (by with_unfolding_all rfl) (wp_build0 T_u8 hb0 hB0 (by with_unfolding_all rfl) ?_)); intro v1 w1 hown1 hb1 hB1 hg1) | (at_builtin; go_must (with_reducible refine lst (by with_unfolding_all rfl) (wp_appB T_u8 hown1 hb1 hr2 (by with_unfolding_all exact ⟨_, _, rfl, rfl, rfl⟩) hn0 hB1 ?_); intro v' w1 hown1 hb1 hg1 hB1)) | ((with_reducible refine lst (by with_unfolding_all rfl) (wp_cutB T_u8 (hr.below hb1) hnc (lo := (some (u:Int))) (hi := (some ((u:Int)+(x:Int)))) (mx := (some ((u:Int)+(x:Int)))) ?_ (l := u) (h := (u+x)) (m := (u+x)) (by first | (simp; done) | (simp; omega)) (by first | (simp; done) | (simp; omega)) (by first | (simp; done) | (simp; omega)) (by simp) (by omega) (by omega) (by omega) (by omega) ?_)); exact ⟨_, _, _, _, .i64, .i64, .i64, rfl, rfl, rfl, rfl, rfl⟩; intro A2 c2 hr2 hc2 hc3))
    go_ret3
    rw [List.nil_append, List.drop_take, Nat.add_sub_cancel_left] at hown1
    exact ⟨v', ret3 rfl (int_eq (by simp)) rfl, hown1, hb1⟩

set_option maxRecDepth 20000 in
set_option maxHeartbeats 800000 in
theorem rreadText_any (A : Option Addr) (n c : Nat) (l : List UInt8) (most : Int) (w : World) (hm : n ≤ 140737488355000) (hmo : most ≤ 9223372036854775807) (hr : Rd w (· < w.heap.size) A 1 n (l.map bv)) :
    Calls Try.prog 27 #[.slice A n c, .int .i64 most] w fun e w' => ∃ v, e = .returned (.tuple #[v, .int .i64 (rdt l most).2.1, .int .i64 (rdt l most).2.2]) ∧ OwnB w' w.heap.size 5 v (rdt l most).1 ∧ Below w.heap.size w w' := by
  have hrc := box (rreadCount_any A n c l w (by omega) hr)
  have hl := box hr.bytes_len
  have hway := rdt_way hr.bytes_len most
  have h64 := box (rdc_lt l)
  have herr := rdc_err l 0 0
  generalize (rdc 0 0 l).1 = x at *
  generalize (rdc 0 0 l).2.1 = u at *
  generalize (rdc 0 0 l).2.2 = er at *
  generalize rdt l most = r at *
  have herr' : er ≤ 10 := by omega
  clear herr
  rcases hway.way with ⟨h0, rfl⟩ | ⟨rfl, hu, ⟨h1, rfl⟩ | ⟨h1, ⟨h2, rfl⟩ | ⟨h2, rfl⟩⟩⟩
  · clear hway
    have hne : ((er : Int) != 0) = true := by simp; omega
    go_enter Try.func27, Try.ntmps27
    go_wp2_with fail
    refine hrc.out.mono ?_
    rintro e w1 ⟨rfl, rfl⟩
    go_wp2
    go_ret3
    exact ⟨_, rfl, OwnB.nil _ _ _, Below.refl _ _⟩
  · clear hway
    by_cases hmn : most < 0
    all_goals
      go_enter Try.func27, Try.ntmps27
      go_wp2_with fail
      refine hrc.out.mono ?_
      rintro e w1 ⟨rfl, rfl⟩
      go_wp2
      go_ret3
      exact ⟨_, rfl, OwnB.nil _ _ _, Below.refl _ _⟩
  · clear hway
    have hmn : ¬ most < 0 := by omega
    go_enter Try.func27, Try.ntmps27
    go_wp2_with fail
    refine hrc.out.mono ?_
    rintro e w1 ⟨rfl, rfl⟩
    go_wp2
    go_ret3
    exact ⟨_, rfl, OwnB.nil _ _ _, Below.refl _ _⟩
  · clear hway
    have hmn : ¬ most < 0 := by omega
    go_enter Try.func27, Try.ntmps27
    go_wp2_with fail
    refine hrc.out.mono ?_
    rintro e w1 ⟨rfl, rfl⟩
    go_wp2
    go_loopw [10, 11] (fun v i wr => ∃ k : Nat, k ≤ x ∧ i = .int .i64 k ∧ OwnB wr w.heap.size 5 v ((l.drop u).take k) ∧ Below w.heap.size w wr ∧ w.heap.size ≤ wr.heap.size) (fun _ i _ => x - (intOf i).toNat)
    case atStart => exact ⟨0, by omega, rfl, OwnB.nil _ _ _, Below.refl _ _, Nat.le_refl _⟩
    case round =>
      obtain ⟨k, hk, rfl, hown, hb, hB⟩ := hrel
      have hr' := hr.below hb
      have hroom : ((l.drop u).take k).length + 1 ≤ 140737488355328 := by rw [List.length_take]; omega
      by_cases hlt : k < x
      · obtain ⟨d, hd⟩ : ∃ d, l[u + k]? = some d := ⟨l[u + k]'(by have := hl.out; omega), by simp⟩
        have hd2 : (l.drop u)[k]? = some d := by rw [List.getElem?_drop]; exact hd
        have dlt : d.toNat < 256 := d.toNat_lt
        replace hd := box hd
        replace hd2 := box hd2
        go_wp2_with (first | (at_builtin; go_must (with_reducible refine lst (by with_unfolding_all rfl) (wp_appB1 T_u8 hown hb (by with_unfolding_all exact ⟨_, _, rfl, rfl, rfl⟩) hroom hB ?_ ?_); exact byte_of (by omega) (by omega); intro v' w1 c hc hown1 hb1 hB1)) | (with_reducible refine lst (by with_unfolding_all rfl) (wp_indexAddr T_u8 hr' (by with_unfolding_all exact ⟨_, _, _, _, rfl, rfl, rfl⟩) (by omega) (by omega) ?_)) | (with_reducible refine lst (by with_unfolding_all rfl) (wp_loadC hr' hd Try.underlying5 rfl (by with_unfolding_all exact ⟨_, rfl, rfl⟩) (by first | (simp; done) | (simp; omega) | omega) ?_)))
        go_roundw
        have hcd := byte_eq hc
        subst hcd
        case rel => exact ⟨k + 1, by omega, by go_num, by rw [take_snoc hd2.out]; exact hown1, hb1, hB1⟩
        case measure => simp [intOf]; omega
      · go_wp2
        go_ret3
        obtain rfl : k = x := by omega
        exact ⟨_, ret3 rfl (int_eq (by simp)) rfl, hown, hb⟩
end Go.Proofs.Ytinmlamdhibeeaa
