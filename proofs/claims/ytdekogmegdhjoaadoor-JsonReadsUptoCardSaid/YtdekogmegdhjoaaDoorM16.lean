/-
  Layer 6: the document's Size, walked.
  Layer 6: the document's reader: a text.
-/
import Derived.Test.YtdekogmegdhjoaaDoorM15
import Derived.Test.YtdekogmegdhjoaaDoorM04
import Derived.Test.YtdekogmegdhjoaaDoorM06
namespace Go.Proofs.YtdekogmegdhjoaaDoor
open Go.RowKit
set_option linter.unusedSimpArgs false


set_option maxRecDepth 20000 in
set_option maxHeartbeats 12800000 in
theorem rsize_pos (A : Option Addr) (n c : Nat) (c0 : UInt8) (t : List UInt8) (w : World) (S : Nat → Prop) (hn : n ≤ 140737488355328) (hr : Rd w S A 1 n ((c0 :: t).map bv)) :
    Calls Tryd.prog 59 #[.slice A n c] w fun e w' => e = .returned (.int .i64 (jSize (c0 :: t) : Int)) ∧ w = w' := by
  have hl0 := hr.bytes_len
  rw [List.length_cons] at hl0
  have hl := box hl0
  have hn0 : 0 < n := by omega
  have hz : ((n : Int) == 0) = false := by rw [beq_eq_false_iff_ne]; omega
  clear hl0
  have hc0 : Box ((c0 :: t)[0]? = some c0) := box rfl
  have hcl := c0.toNat_lt
  by_cases k1 : c0.toNat < 128
  · have hend : Box (jSize (c0 :: t) = 1) := box (jSize1 k1)
    have d128 : decide ((128 : Int) ≤ (c0.toNat : Int)) = false := decide_eq_false (by omega)
    have hn1 : ¬ (n : Int) < 1 := by omega
    replace k1 := box k1
    go_enter Tryd.func59, Tryd.ntmps59
    go_wp2_with (first | (with_reducible refine lst (by with_unfolding_all rfl) (wp_indexAddr T_u8 hr (by with_unfolding_all exact ⟨_, _, _, _, rfl, rfl, rfl⟩) (by omega) (by omega) ?_)) | (with_reducible refine lst (by with_unfolding_all rfl) (wp_loadC hr hc0 Tryd.underlying5 rfl (by with_unfolding_all exact ⟨_, rfl, rfl⟩) (by first | (simp; done) | (simp; omega) | omega) ?_)))
    go_loopg [5] 0 (fun gk b wr => b = .int .i64 1 ∧ wr = w)
    case atStart => exact ⟨rfl, rfl⟩
    case round =>
      obtain ⟨rfl, rfl⟩ := hrel
      go_wp2
      go_ret
      exact ⟨by rw [hend.out]; rfl, rfl⟩
  have d128 : decide ((128 : Int) ≤ (c0.toNat : Int)) = true := decide_eq_true (by omega)
  by_cases k2 : c0.toNat < 194
  · have hend : Box (jSize (c0 :: t) = 0) := box (jSize0 (.inl ⟨by omega, k2⟩))
    have d194 : decide ((194 : Int) ≤ (c0.toNat : Int)) = false := decide_eq_false (by omega)
    have d224 : decide ((224 : Int) ≤ (c0.toNat : Int)) = false := decide_eq_false (by omega)
    have d240 : decide ((240 : Int) ≤ (c0.toNat : Int)) = false := decide_eq_false (by omega)
    replace k1 := box k1
    replace k2 := box k2
    go_enter Tryd.func59, Tryd.ntmps59
    go_wp2_with (first | (with_reducible refine lst (by with_unfolding_all rfl) (wp_indexAddr T_u8 hr (by with_unfolding_all exact ⟨_, _, _, _, rfl, rfl, rfl⟩) (by omega) (by omega) ?_)) | (with_reducible refine lst (by with_unfolding_all rfl) (wp_loadC hr hc0 Tryd.underlying5 rfl (by with_unfolding_all exact ⟨_, rfl, rfl⟩) (by first | (simp; done) | (simp; omega) | omega) ?_)))
    go_ret
    exact ⟨by rw [hend.out]; rfl, rfl⟩
  by_cases k3 : 245 ≤ c0.toNat
  · have hend : Box (jSize (c0 :: t) = 0) := box (jSize0 (.inr k3))
    have d194 : decide ((194 : Int) ≤ (c0.toNat : Int)) = true := decide_eq_true (by omega)
    have e224 : decide ((c0.toNat : Int) < 224) = false := decide_eq_false (by omega)
    have d224 : decide ((224 : Int) ≤ (c0.toNat : Int)) = true := decide_eq_true (by omega)
    have e240 : decide ((c0.toNat : Int) < 240) = false := decide_eq_false (by omega)
    have d240 : decide ((240 : Int) ≤ (c0.toNat : Int)) = true := decide_eq_true (by omega)
    have e245 : decide ((c0.toNat : Int) < 245) = false := decide_eq_false (by omega)
    replace k1 := box k1
    replace k2 := box k2
    replace k3 := box k3
    go_enter Tryd.func59, Tryd.ntmps59
    go_wp2_with (first | (with_reducible refine lst (by with_unfolding_all rfl) (wp_indexAddr T_u8 hr (by with_unfolding_all exact ⟨_, _, _, _, rfl, rfl, rfl⟩) (by omega) (by omega) ?_)) | (with_reducible refine lst (by with_unfolding_all rfl) (wp_loadC hr hc0 Tryd.underlying5 rfl (by with_unfolding_all exact ⟨_, rfl, rfl⟩) (by first | (simp; done) | (simp; omega) | omega) ?_)))
    go_ret
    exact ⟨by rw [hend.out]; rfl, rfl⟩
  have d194 : decide ((194 : Int) ≤ (c0.toNat : Int)) = true := decide_eq_true (by omega)
  by_cases k4 : c0.toNat < 224
  · skip
    have e224 : decide ((c0.toNat : Int) < 224) = true := decide_eq_true (by omega)
    have hj := box (jSize_k (c := c0) (t := t) (k := 2) (base := 192) (by omega))
    have hb0 : 0 ≤ (c0.toNat : Int) - 192 ∧ (c0.toNat : Int) - 192 ≤ 31 := by omega
    have hb1 : 192 ≤ c0.toNat := by omega
    replace k1 := box k1
    replace k2 := box k2
    replace k3 := box k3
    replace k4 := box k4
    by_cases hshort : n < 2
    · have hend : Box (jSize (c0 :: t) = 0) := box (by rw [hj.out, if_neg (by have := hl.out; omega)])
      have hn1 : (n : Int) < 2 := by omega
      go_enter Tryd.func59, Tryd.ntmps59
      go_wp2_with (first | (with_reducible refine lst (by with_unfolding_all rfl) (wp_indexAddr T_u8 hr (by with_unfolding_all exact ⟨_, _, _, _, rfl, rfl, rfl⟩) (by omega) (by omega) ?_)) | (with_reducible refine lst (by with_unfolding_all rfl) (wp_loadC hr hc0 Tryd.underlying5 rfl (by with_unfolding_all exact ⟨_, rfl, rfl⟩) (by first | (simp; done) | (simp; omega) | omega) ?_)))
      go_ret
      exact ⟨by rw [hend.out]; rfl, rfl⟩
    have hn1 : ¬ (n : Int) < 2 := by omega
    replace hshort := box hshort
    go_enter Tryd.func59, Tryd.ntmps59
    go_wp2_with (first | (with_reducible refine lst (by with_unfolding_all rfl) (wp_indexAddr T_u8 hr (by with_unfolding_all exact ⟨_, _, _, _, rfl, rfl, rfl⟩) (by omega) (by omega) ?_)) | (with_reducible refine lst (by with_unfolding_all rfl) (wp_loadC hr hc0 Tryd.underlying5 rfl (by with_unfolding_all exact ⟨_, rfl, rfl⟩) (by first | (simp; done) | (simp; omega) | omega) ?_)))
    go_loopg [4, 5] 1 (fun gk a b wr => ∃ (i : Nat) (m : Int), 1 ≤ i ∧ i ≤ 2 ∧ Box (gk = 2 - i) ∧ a = .int .i64 m ∧ b = .int .i64 (i : Int) ∧ Box (m = szv ((c0.toNat : Int) - (192 : Nat)) (t.take (i - 1))) ∧ Box ((t.take (i - 1)).all jCont = true) ∧ 0 ≤ m ∧ m ≤ 8388607 ∧ Box ((i = 1 → m ≤ 31) ∧ (i = 2 → m ≤ 2047) ∧ (i = 3 → m ≤ 131071)) ∧ wr = w)
    case atStart => exact ⟨1, (c0.toNat : Int) - 192, by omega, by omega, box rfl, by go_num, rfl, box rfl, box rfl, by omega, by omega, box ⟨fun _ => by omega, fun h => by omega, fun h => by omega⟩, rfl⟩
    case round =>
      obtain ⟨i, m, hi1, hi, hk, rfl, rfl, hm, hco, hm0, hm1, hmb, rfl⟩ := hrel
      by_cases hlt : i < 2
      · obtain ⟨x, hx'⟩ : ∃ x, t[i - 1]? = some x := ⟨t[i - 1]'(by have := hl.out; omega), by simp⟩
        have hx : Box ((c0 :: t)[i]? = some x) := box (by obtain ⟨j, rfl⟩ : ∃ j, i = j + 1 := ⟨i - 1, by omega⟩; simpa using hx')
        have hm2 : m ≤ 131071 := by have h := hmb.out; rcases (by omega : i = 1 ∨ i = 2 ∨ i = 3) with h1 | h1 | h1; exact Int.le_trans (h.1 h1) (by omega); exact Int.le_trans (h.2.1 h1) (by omega); exact h.2.2 h1
        have hxl := x.toNat_lt
        have hsn : Box (t.take i = t.take (i - 1) ++ [x]) := box (by obtain ⟨j, rfl⟩ : ∃ j, i = j + 1 := ⟨i - 1, by omega⟩; rw [List.take_add_one]; simp only [Nat.add_sub_cancel] at hx' ⊢; rw [hx']; rfl)
        replace hx' := box hx'
        by_cases hc : 128 ≤ x.toNat ∧ x.toNat ≤ 191
        · have f1 : decide ((x.toNat : Int) < 128) = false := decide_eq_false (by omega)
          have f2 : decide ((191 : Int) < (x.toNat : Int)) = false := decide_eq_false (by omega)
          go_wp2_with (first | (with_reducible refine lst (by with_unfolding_all rfl) (wp_indexAddr T_u8 hr (by with_unfolding_all exact ⟨_, _, _, _, rfl, rfl, rfl⟩) (by omega) (by omega) ?_)) | (with_reducible refine lst (by with_unfolding_all rfl) (wp_loadC hr hc0 Tryd.underlying5 rfl (by with_unfolding_all exact ⟨_, rfl, rfl⟩) (by first | (simp; done) | (simp; omega) | omega) ?_)) | (with_reducible refine lst (by with_unfolding_all rfl) (wp_loadC hr hx Tryd.underlying5 rfl (by with_unfolding_all exact ⟨_, rfl, rfl⟩) (by first | (simp; done) | (simp; omega) | omega) ?_)))
          go_roundg (2 - (i + 1))
          case rel => exact ⟨i + 1, m * 64 + (x.toNat : Int) - 128, by omega, by omega, box rfl, by go_num, by go_num, box (by rw [Nat.add_sub_cancel, hsn.out, szv_snoc, hm.out]), box (by rw [Nat.add_sub_cancel, hsn.out, List.all_append, hco.out]; simp only [List.all_cons, List.all_nil, Bool.and_true, Bool.true_and]; exact (cont_eq x).2 hc), by omega, by omega, box (by have h := hmb.out; refine ⟨fun h1 => by omega, fun h1 => ?_, fun h1 => ?_⟩; have := h.1 (by omega); omega; have := h.2.1 (by omega); omega), rfl⟩
          case measure => have := hk.out; omega
        · have hend : Box (jSize (c0 :: t) = 0) := box (by
            rw [hj.out, if_neg]
            intro h
            have h2 := h.2.1
            have h3 : x ∈ t.take (2 - 1) := by
              refine List.mem_of_getElem? (i := i - 1) ?_
              rw [List.getElem?_take, if_pos (by omega)]; exact hx'.out
            have := (cont_eq x).1 (List.all_eq_true.1 h2 x h3)
            exact hc this)
          by_cases hc2 : x.toNat < 128
          · have f1 : decide ((x.toNat : Int) < 128) = true := decide_eq_true (by omega)
            go_wp2_with (first | (with_reducible refine lst (by with_unfolding_all rfl) (wp_indexAddr T_u8 hr (by with_unfolding_all exact ⟨_, _, _, _, rfl, rfl, rfl⟩) (by omega) (by omega) ?_)) | (with_reducible refine lst (by with_unfolding_all rfl) (wp_loadC hr hc0 Tryd.underlying5 rfl (by with_unfolding_all exact ⟨_, rfl, rfl⟩) (by first | (simp; done) | (simp; omega) | omega) ?_)) | (with_reducible refine lst (by with_unfolding_all rfl) (wp_loadC hr hx Tryd.underlying5 rfl (by with_unfolding_all exact ⟨_, rfl, rfl⟩) (by first | (simp; done) | (simp; omega) | omega) ?_)))
            go_ret
            exact ⟨by rw [hend.out]; rfl, rfl⟩
          · have f1 : decide ((x.toNat : Int) < 128) = false := decide_eq_false (by omega)
            have f2 : decide ((191 : Int) < (x.toNat : Int)) = true := decide_eq_true (by omega)
            go_wp2_with (first | (with_reducible refine lst (by with_unfolding_all rfl) (wp_indexAddr T_u8 hr (by with_unfolding_all exact ⟨_, _, _, _, rfl, rfl, rfl⟩) (by omega) (by omega) ?_)) | (with_reducible refine lst (by with_unfolding_all rfl) (wp_loadC hr hc0 Tryd.underlying5 rfl (by with_unfolding_all exact ⟨_, rfl, rfl⟩) (by first | (simp; done) | (simp; omega) | omega) ?_)) | (with_reducible refine lst (by with_unfolding_all rfl) (wp_loadC hr hx Tryd.underlying5 rfl (by with_unfolding_all exact ⟨_, rfl, rfl⟩) (by first | (simp; done) | (simp; omega) | omega) ?_)))
            go_ret
            exact ⟨by rw [hend.out]; rfl, rfl⟩
      · obtain rfl : i = 2 := by omega
        have hend : Box (jSize (c0 :: t) = 2) := box (by rw [hj.out, if_pos]; refine ⟨by have := hl.out; have := hshort.out; omega, hco.out, ?_, ?_⟩ <;> (intro hh; first | omega | (have := hm.out; simp only [Nat.add_one_sub_one] at this; rw [← this]; omega)))
        go_wp2
        go_ret
        exact ⟨by rw [hend.out]; rfl, rfl⟩
  have e224 : decide ((c0.toNat : Int) < 224) = false := decide_eq_false (by omega)
  have d224 : decide ((224 : Int) ≤ (c0.toNat : Int)) = true := decide_eq_true (by omega)
  by_cases k5 : c0.toNat < 240
  · skip
    have e240 : decide ((c0.toNat : Int) < 240) = true := decide_eq_true (by omega)
    have hj := box (jSize_k (c := c0) (t := t) (k := 3) (base := 224) (by omega))
    have hb0 : 0 ≤ (c0.toNat : Int) - 224 ∧ (c0.toNat : Int) - 224 ≤ 31 := by omega
    have hb1 : 224 ≤ c0.toNat := by omega
    replace k1 := box k1
    replace k2 := box k2
    replace k3 := box k3
    replace k4 := box k4
    replace k5 := box k5
    by_cases hshort : n < 3
    · have hend : Box (jSize (c0 :: t) = 0) := box (by rw [hj.out, if_neg (by have := hl.out; omega)])
      have hn1 : (n : Int) < 3 := by omega
      go_enter Tryd.func59, Tryd.ntmps59
      go_wp2_with (first | (with_reducible refine lst (by with_unfolding_all rfl) (wp_indexAddr T_u8 hr (by with_unfolding_all exact ⟨_, _, _, _, rfl, rfl, rfl⟩) (by omega) (by omega) ?_)) | (with_reducible refine lst (by with_unfolding_all rfl) (wp_loadC hr hc0 Tryd.underlying5 rfl (by with_unfolding_all exact ⟨_, rfl, rfl⟩) (by first | (simp; done) | (simp; omega) | omega) ?_)))
      go_ret
      exact ⟨by rw [hend.out]; rfl, rfl⟩
    have hn1 : ¬ (n : Int) < 3 := by omega
    replace hshort := box hshort
    go_enter Tryd.func59, Tryd.ntmps59
    go_wp2_with (first | (with_reducible refine lst (by with_unfolding_all rfl) (wp_indexAddr T_u8 hr (by with_unfolding_all exact ⟨_, _, _, _, rfl, rfl, rfl⟩) (by omega) (by omega) ?_)) | (with_reducible refine lst (by with_unfolding_all rfl) (wp_loadC hr hc0 Tryd.underlying5 rfl (by with_unfolding_all exact ⟨_, rfl, rfl⟩) (by first | (simp; done) | (simp; omega) | omega) ?_)))
    go_loopg [4, 5] 2 (fun gk a b wr => ∃ (i : Nat) (m : Int), 1 ≤ i ∧ i ≤ 3 ∧ Box (gk = 3 - i) ∧ a = .int .i64 m ∧ b = .int .i64 (i : Int) ∧ Box (m = szv ((c0.toNat : Int) - (224 : Nat)) (t.take (i - 1))) ∧ Box ((t.take (i - 1)).all jCont = true) ∧ 0 ≤ m ∧ m ≤ 8388607 ∧ Box ((i = 1 → m ≤ 31) ∧ (i = 2 → m ≤ 2047) ∧ (i = 3 → m ≤ 131071)) ∧ wr = w)
    case atStart => exact ⟨1, (c0.toNat : Int) - 224, by omega, by omega, box rfl, by go_num, rfl, box rfl, box rfl, by omega, by omega, box ⟨fun _ => by omega, fun h => by omega, fun h => by omega⟩, rfl⟩
    case round =>
      obtain ⟨i, m, hi1, hi, hk, rfl, rfl, hm, hco, hm0, hm1, hmb, rfl⟩ := hrel
      by_cases hlt : i < 3
      · obtain ⟨x, hx'⟩ : ∃ x, t[i - 1]? = some x := ⟨t[i - 1]'(by have := hl.out; omega), by simp⟩
        have hx : Box ((c0 :: t)[i]? = some x) := box (by obtain ⟨j, rfl⟩ : ∃ j, i = j + 1 := ⟨i - 1, by omega⟩; simpa using hx')
        have hm2 : m ≤ 131071 := by have h := hmb.out; rcases (by omega : i = 1 ∨ i = 2 ∨ i = 3) with h1 | h1 | h1; exact Int.le_trans (h.1 h1) (by omega); exact Int.le_trans (h.2.1 h1) (by omega); exact h.2.2 h1
        have hxl := x.toNat_lt
        have hsn : Box (t.take i = t.take (i - 1) ++ [x]) := box (by obtain ⟨j, rfl⟩ : ∃ j, i = j + 1 := ⟨i - 1, by omega⟩; rw [List.take_add_one]; simp only [Nat.add_sub_cancel] at hx' ⊢; rw [hx']; rfl)
        replace hx' := box hx'
        by_cases hc : 128 ≤ x.toNat ∧ x.toNat ≤ 191
        · have f1 : decide ((x.toNat : Int) < 128) = false := decide_eq_false (by omega)
          have f2 : decide ((191 : Int) < (x.toNat : Int)) = false := decide_eq_false (by omega)
          go_wp2_with (first | (with_reducible refine lst (by with_unfolding_all rfl) (wp_indexAddr T_u8 hr (by with_unfolding_all exact ⟨_, _, _, _, rfl, rfl, rfl⟩) (by omega) (by omega) ?_)) | (with_reducible refine lst (by with_unfolding_all rfl) (wp_loadC hr hc0 Tryd.underlying5 rfl (by with_unfolding_all exact ⟨_, rfl, rfl⟩) (by first | (simp; done) | (simp; omega) | omega) ?_)) | (with_reducible refine lst (by with_unfolding_all rfl) (wp_loadC hr hx Tryd.underlying5 rfl (by with_unfolding_all exact ⟨_, rfl, rfl⟩) (by first | (simp; done) | (simp; omega) | omega) ?_)))
          go_roundg (3 - (i + 1))
          case rel => exact ⟨i + 1, m * 64 + (x.toNat : Int) - 128, by omega, by omega, box rfl, by go_num, by go_num, box (by rw [Nat.add_sub_cancel, hsn.out, szv_snoc, hm.out]), box (by rw [Nat.add_sub_cancel, hsn.out, List.all_append, hco.out]; simp only [List.all_cons, List.all_nil, Bool.and_true, Bool.true_and]; exact (cont_eq x).2 hc), by omega, by omega, box (by have h := hmb.out; refine ⟨fun h1 => by omega, fun h1 => ?_, fun h1 => ?_⟩; have := h.1 (by omega); omega; have := h.2.1 (by omega); omega), rfl⟩
          case measure => have := hk.out; omega
        · have hend : Box (jSize (c0 :: t) = 0) := box (by
            rw [hj.out, if_neg]
            intro h
            have h2 := h.2.1
            have h3 : x ∈ t.take (3 - 1) := by
              refine List.mem_of_getElem? (i := i - 1) ?_
              rw [List.getElem?_take, if_pos (by omega)]; exact hx'.out
            have := (cont_eq x).1 (List.all_eq_true.1 h2 x h3)
            exact hc this)
          by_cases hc2 : x.toNat < 128
          · have f1 : decide ((x.toNat : Int) < 128) = true := decide_eq_true (by omega)
            go_wp2_with (first | (with_reducible refine lst (by with_unfolding_all rfl) (wp_indexAddr T_u8 hr (by with_unfolding_all exact ⟨_, _, _, _, rfl, rfl, rfl⟩) (by omega) (by omega) ?_)) | (with_reducible refine lst (by with_unfolding_all rfl) (wp_loadC hr hc0 Tryd.underlying5 rfl (by with_unfolding_all exact ⟨_, rfl, rfl⟩) (by first | (simp; done) | (simp; omega) | omega) ?_)) | (with_reducible refine lst (by with_unfolding_all rfl) (wp_loadC hr hx Tryd.underlying5 rfl (by with_unfolding_all exact ⟨_, rfl, rfl⟩) (by first | (simp; done) | (simp; omega) | omega) ?_)))
            go_ret
            exact ⟨by rw [hend.out]; rfl, rfl⟩
          · have f1 : decide ((x.toNat : Int) < 128) = false := decide_eq_false (by omega)
            have f2 : decide ((191 : Int) < (x.toNat : Int)) = true := decide_eq_true (by omega)
            go_wp2_with (first | (with_reducible refine lst (by with_unfolding_all rfl) (wp_indexAddr T_u8 hr (by with_unfolding_all exact ⟨_, _, _, _, rfl, rfl, rfl⟩) (by omega) (by omega) ?_)) | (with_reducible refine lst (by with_unfolding_all rfl) (wp_loadC hr hc0 Tryd.underlying5 rfl (by with_unfolding_all exact ⟨_, rfl, rfl⟩) (by first | (simp; done) | (simp; omega) | omega) ?_)) | (with_reducible refine lst (by with_unfolding_all rfl) (wp_loadC hr hx Tryd.underlying5 rfl (by with_unfolding_all exact ⟨_, rfl, rfl⟩) (by first | (simp; done) | (simp; omega) | omega) ?_)))
            go_ret
            exact ⟨by rw [hend.out]; rfl, rfl⟩
      · obtain rfl : i = 3 := by omega
        by_cases b1 : m < 2048
        · have hend : Box (jSize (c0 :: t) = 0) := box (by rw [hj.out, if_neg]; intro hh; have h3 := hh.2.2.1 rfl; have := hm.out; simp only [Nat.add_one_sub_one] at this; rw [← this] at h3; omega)
          have f1 : decide (m < 2048) = true := decide_eq_true b1
          go_wp2
          go_ret
          exact ⟨by rw [hend.out]; rfl, rfl⟩
        have f1 : decide (m < 2048) = false := decide_eq_false b1
        by_cases b2 : 55296 ≤ m
        · have f2 : decide ((55296 : Int) ≤ m) = true := decide_eq_true b2
          by_cases b3 : m < 57344
          · have hend : Box (jSize (c0 :: t) = 0) := box (by rw [hj.out, if_neg]; intro hh; have h3 := hh.2.2.1 rfl; have := hm.out; simp only [Nat.add_one_sub_one] at this; rw [← this] at h3; omega)
            have f3 : decide (m < 57344) = true := decide_eq_true b3
            go_wp2
            go_ret
            exact ⟨by rw [hend.out]; rfl, rfl⟩
          · have hend : Box (jSize (c0 :: t) = 3) := box (by rw [hj.out, if_pos]; refine ⟨by have := hl.out; have := hshort.out; omega, hco.out, ?_, ?_⟩ <;> (intro hh; first | omega | (have := hm.out; simp only [Nat.add_one_sub_one] at this; rw [← this]; omega)))
            have f3 : decide (m < 57344) = false := decide_eq_false b3
            go_wp2
            go_ret
            exact ⟨by rw [hend.out]; rfl, rfl⟩
        · have hend : Box (jSize (c0 :: t) = 3) := box (by rw [hj.out, if_pos]; refine ⟨by have := hl.out; have := hshort.out; omega, hco.out, ?_, ?_⟩ <;> (intro hh; first | omega | (have := hm.out; simp only [Nat.add_one_sub_one] at this; rw [← this]; omega)))
          have f2 : decide ((55296 : Int) ≤ m) = false := decide_eq_false b2
          go_wp2
          go_ret
          exact ⟨by rw [hend.out]; rfl, rfl⟩
  have e240 : decide ((c0.toNat : Int) < 240) = false := decide_eq_false (by omega)
  have d240 : decide ((240 : Int) ≤ (c0.toNat : Int)) = true := decide_eq_true (by omega)
  have e245 : decide ((c0.toNat : Int) < 245) = true := decide_eq_true (by omega)
  have hj := box (jSize_k (c := c0) (t := t) (k := 4) (base := 240) (by omega))
  have hb0 : 0 ≤ (c0.toNat : Int) - 240 ∧ (c0.toNat : Int) - 240 ≤ 31 := by omega
  have hb1 : 240 ≤ c0.toNat := by omega
  replace k1 := box k1
  replace k2 := box k2
  replace k3 := box k3
  replace k4 := box k4
  replace k5 := box k5
  by_cases hshort : n < 4
  · have hend : Box (jSize (c0 :: t) = 0) := box (by rw [hj.out, if_neg (by have := hl.out; omega)])
    have hn1 : (n : Int) < 4 := by omega
    go_enter Tryd.func59, Tryd.ntmps59
    go_wp2_with (first | (with_reducible refine lst (by with_unfolding_all rfl) (wp_indexAddr T_u8 hr (by with_unfolding_all exact ⟨_, _, _, _, rfl, rfl, rfl⟩) (by omega) (by omega) ?_)) | (with_reducible refine lst (by with_unfolding_all rfl) (wp_loadC hr hc0 Tryd.underlying5 rfl (by with_unfolding_all exact ⟨_, rfl, rfl⟩) (by first | (simp; done) | (simp; omega) | omega) ?_)))
    go_ret
    exact ⟨by rw [hend.out]; rfl, rfl⟩
  have hn1 : ¬ (n : Int) < 4 := by omega
  replace hshort := box hshort
  go_enter Tryd.func59, Tryd.ntmps59
  go_wp2_with (first | (with_reducible refine lst (by with_unfolding_all rfl) (wp_indexAddr T_u8 hr (by with_unfolding_all exact ⟨_, _, _, _, rfl, rfl, rfl⟩) (by omega) (by omega) ?_)) | (with_reducible refine lst (by with_unfolding_all rfl) (wp_loadC hr hc0 Tryd.underlying5 rfl (by with_unfolding_all exact ⟨_, rfl, rfl⟩) (by first | (simp; done) | (simp; omega) | omega) ?_)))
  go_loopg [4, 5] 3 (fun gk a b wr => ∃ (i : Nat) (m : Int), 1 ≤ i ∧ i ≤ 4 ∧ Box (gk = 4 - i) ∧ a = .int .i64 m ∧ b = .int .i64 (i : Int) ∧ Box (m = szv ((c0.toNat : Int) - (240 : Nat)) (t.take (i - 1))) ∧ Box ((t.take (i - 1)).all jCont = true) ∧ 0 ≤ m ∧ m ≤ 8388607 ∧ Box ((i = 1 → m ≤ 31) ∧ (i = 2 → m ≤ 2047) ∧ (i = 3 → m ≤ 131071)) ∧ wr = w)
  case atStart => exact ⟨1, (c0.toNat : Int) - 240, by omega, by omega, box rfl, by go_num, rfl, box rfl, box rfl, by omega, by omega, box ⟨fun _ => by omega, fun h => by omega, fun h => by omega⟩, rfl⟩
  case round =>
    obtain ⟨i, m, hi1, hi, hk, rfl, rfl, hm, hco, hm0, hm1, hmb, rfl⟩ := hrel
    by_cases hlt : i < 4
    · obtain ⟨x, hx'⟩ : ∃ x, t[i - 1]? = some x := ⟨t[i - 1]'(by have := hl.out; omega), by simp⟩
      have hx : Box ((c0 :: t)[i]? = some x) := box (by obtain ⟨j, rfl⟩ : ∃ j, i = j + 1 := ⟨i - 1, by omega⟩; simpa using hx')
      have hm2 : m ≤ 131071 := by have h := hmb.out; rcases (by omega : i = 1 ∨ i = 2 ∨ i = 3) with h1 | h1 | h1; exact Int.le_trans (h.1 h1) (by omega); exact Int.le_trans (h.2.1 h1) (by omega); exact h.2.2 h1
      have hxl := x.toNat_lt
      have hsn : Box (t.take i = t.take (i - 1) ++ [x]) := box (by obtain ⟨j, rfl⟩ : ∃ j, i = j + 1 := ⟨i - 1, by omega⟩; rw [List.take_add_one]; simp only [Nat.add_sub_cancel] at hx' ⊢; rw [hx']; rfl)
      replace hx' := box hx'
      by_cases hc : 128 ≤ x.toNat ∧ x.toNat ≤ 191
      · have f1 : decide ((x.toNat : Int) < 128) = false := decide_eq_false (by omega)
        have f2 : decide ((191 : Int) < (x.toNat : Int)) = false := decide_eq_false (by omega)
        go_wp2_with (first | (with_reducible refine lst (by with_unfolding_all rfl) (wp_indexAddr T_u8 hr (by with_unfolding_all exact ⟨_, _, _, _, rfl, rfl, rfl⟩) (by omega) (by omega) ?_)) | (with_reducible refine lst (by with_unfolding_all rfl) (wp_loadC hr hc0 Tryd.underlying5 rfl (by with_unfolding_all exact ⟨_, rfl, rfl⟩) (by first | (simp; done) | (simp; omega) | omega) ?_)) | (with_reducible refine lst (by with_unfolding_all rfl) (wp_loadC hr hx Tryd.underlying5 rfl (by with_unfolding_all exact ⟨_, rfl, rfl⟩) (by first | (simp; done) | (simp; omega) | omega) ?_)))
        go_roundg (4 - (i + 1))
        case rel => exact ⟨i + 1, m * 64 + (x.toNat : Int) - 128, by omega, by omega, box rfl, by go_num, by go_num, box (by rw [Nat.add_sub_cancel, hsn.out, szv_snoc, hm.out]), box (by rw [Nat.add_sub_cancel, hsn.out, List.all_append, hco.out]; simp only [List.all_cons, List.all_nil, Bool.and_true, Bool.true_and]; exact (cont_eq x).2 hc), by omega, by omega, box (by have h := hmb.out; refine ⟨fun h1 => by omega, fun h1 => ?_, fun h1 => ?_⟩; have := h.1 (by omega); omega; have := h.2.1 (by omega); omega), rfl⟩
        case measure => have := hk.out; omega
      · have hend : Box (jSize (c0 :: t) = 0) := box (by
          rw [hj.out, if_neg]
          intro h
          have h2 := h.2.1
          have h3 : x ∈ t.take (4 - 1) := by
            refine List.mem_of_getElem? (i := i - 1) ?_
            rw [List.getElem?_take, if_pos (by omega)]; exact hx'.out
          have := (cont_eq x).1 (List.all_eq_true.1 h2 x h3)
          exact hc this)
        by_cases hc2 : x.toNat < 128
        · have f1 : decide ((x.toNat : Int) < 128) = true := decide_eq_true (by omega)
          go_wp2_with (first | (with_reducible refine lst (by with_unfolding_all rfl) (wp_indexAddr T_u8 hr (by with_unfolding_all exact ⟨_, _, _, _, rfl, rfl, rfl⟩) (by omega) (by omega) ?_)) | (with_reducible refine lst (by with_unfolding_all rfl) (wp_loadC hr hc0 Tryd.underlying5 rfl (by with_unfolding_all exact ⟨_, rfl, rfl⟩) (by first | (simp; done) | (simp; omega) | omega) ?_)) | (with_reducible refine lst (by with_unfolding_all rfl) (wp_loadC hr hx Tryd.underlying5 rfl (by with_unfolding_all exact ⟨_, rfl, rfl⟩) (by first | (simp; done) | (simp; omega) | omega) ?_)))
          go_ret
          exact ⟨by rw [hend.out]; rfl, rfl⟩
        · have f1 : decide ((x.toNat : Int) < 128) = false := decide_eq_false (by omega)
          have f2 : decide ((191 : Int) < (x.toNat : Int)) = true := decide_eq_true (by omega)
          go_wp2_with (first | (with_reducible refine lst (by with_unfolding_all rfl) (wp_indexAddr T_u8 hr (by with_unfolding_all exact ⟨_, _, _, _, rfl, rfl, rfl⟩) (by omega) (by omega) ?_)) | (with_reducible refine lst (by with_unfolding_all rfl) (wp_loadC hr hc0 Tryd.underlying5 rfl (by with_unfolding_all exact ⟨_, rfl, rfl⟩) (by first | (simp; done) | (simp; omega) | omega) ?_)) | (with_reducible refine lst (by with_unfolding_all rfl) (wp_loadC hr hx Tryd.underlying5 rfl (by with_unfolding_all exact ⟨_, rfl, rfl⟩) (by first | (simp; done) | (simp; omega) | omega) ?_)))
          go_ret
          exact ⟨by rw [hend.out]; rfl, rfl⟩
    · obtain rfl : i = 4 := by omega
      by_cases b1 : m < 65536
      · have hend : Box (jSize (c0 :: t) = 0) := box (by rw [hj.out, if_neg]; intro hh; have h3 := hh.2.2.2 rfl; have := hm.out; simp only [Nat.add_one_sub_one] at this; rw [← this] at h3; omega)
        have f1 : decide (m < 65536) = true := decide_eq_true b1
        go_wp2
        go_ret
        exact ⟨by rw [hend.out]; rfl, rfl⟩
      have f1 : decide (m < 65536) = false := decide_eq_false b1
      by_cases b2 : 1114111 < m
      · have hend : Box (jSize (c0 :: t) = 0) := box (by rw [hj.out, if_neg]; intro hh; have h3 := hh.2.2.2 rfl; have := hm.out; simp only [Nat.add_one_sub_one] at this; rw [← this] at h3; omega)
        have f2 : decide ((1114111 : Int) < m) = true := decide_eq_true b2
        go_wp2
        go_ret
        exact ⟨by rw [hend.out]; rfl, rfl⟩
      · have hend : Box (jSize (c0 :: t) = 4) := box (by rw [hj.out, if_pos]; refine ⟨by have := hl.out; have := hshort.out; omega, hco.out, ?_, ?_⟩ <;> (intro hh; first | omega | (have := hm.out; simp only [Nat.add_one_sub_one] at this; rw [← this]; omega)))
        have f2 : decide ((1114111 : Int) < m) = false := decide_eq_false b2
        go_wp2
        go_ret
        exact ⟨by rw [hend.out]; rfl, rfl⟩

theorem rsize_any (A : Option Addr) (n c : Nat) (l : List UInt8) (w : World) (S : Nat → Prop) (hn : n ≤ 140737488355328) (hr : Rd w S A 1 n (l.map bv)) :
    Calls Tryd.prog 59 #[.slice A n c] w fun e w' => e = .returned (.int .i64 (jSize l : Int)) ∧ w = w' := by
  cases l with
  | cons c0 t => exact rsize_pos A n c c0 t w S hn hr
  | nil =>
    have hl := hr.bytes_len
    obtain rfl : 0 = n := hl
    go_enter Tryd.func59, Tryd.ntmps59
    go_wp2
    go_ret
    exact ⟨rfl, rfl⟩

end Go.Proofs.YtdekogmegdhjoaaDoor

namespace Go.Proofs.YtdekogmegdhjoaaDoor
open Go.RowKit
set_option linter.unusedSimpArgs false

/-- The reading of a text stands so: it is what the rest of the text says; or a fault stands in the reader. -/
def TxI (J : JR (List UInt8 × Nat)) (b : List UInt8) (n m p f wh m' : Nat) (out : List UInt8) : Prop :=
  (0 = f ∧ 0 = wh ∧ m = m' ∧ p ≤ n ∧ out.length ≤ 4 * p ∧ J = jTextL b (n + 1 - p) p out) ∨ (f ≠ 0 ∧ J = .error (wh, f))
def txM (f n p : Nat) : Nat := if f = 0 then n + 2 - p else 0
theorem txM_ok {n p : Nat} : txM 0 n p = n + 2 - p := by unfold txM; rw [if_pos rfl]
theorem txM_bad {f n p : Nat} (h : f ≠ 0) : txM f n p = 0 := by unfold txM; rw [if_neg h]

/-- What a text tells. -/
def RTxt (w : World) (g : Nat) (A : Option Addr) (n c m : Nat) (J : JR (List UInt8 × Nat)) (e : Ending) (w' : World) : Prop :=
  match J with
  | .ok r => e = .returned (.string ⟨r.1.toArray⟩) ∧ Fr [g] w w' [.blk g 68 (rrL A n c r.2 0 0 m)]
  | .error x => ∃ s p' m', e = .returned (.string s) ∧ Fr [g] w w' [.blk g 68 (rrL A n c p' x.2 x.1 m')]
theorem rescape_any (g : Nat) (A : Option Addr) (n c p m B : Nat) (b : List UInt8) (w : World) (hh : w.heap[g]? = some (.cells (rrL A n c p 0 0 m).toArray 68 (0, 0))) (hg : B ≤ g) (hB : B ≤ w.heap.size) (hn : n ≤ 65536) (hp : p ≤ n) (hr : Rd w (· < B) A 1 n (b.map bv)) :
    Calls Tryd.prog 58 #[.pointer (some ⟨g, 0, none⟩)] w (REsc w g A n c m (jEscape b p)) := by
  cases hx : b[p + 1]? with
  | none => exact rescape_end g A n c p m B b w hx hh hg hB hn hp hr
  | some x => exact rescape_in g A n c p m B b x w hx hh hg hB hn hr
theorem rtext_start {g : Nat} {A : Option Addr} {n c p m : Nat} {b : List UInt8} {w w1 : World} (hl : b.length = n) (h : RSt w g A n c m (jWord b [34] p) w1) : ∃ p' f wh m', Box (TxI (jText b p) b n m p' f wh m' []) ∧ Fr [g] w w1 [.blk g 68 (rrL A n c p' f wh m')] := by
  have hT : jText b p = match jWord b [34] p with
    | .error x => .error x
    | .ok q => jTextL b (b.length + 1 - q) q [] := rfl
  cases hW : jWord b [34] p with
  | error z =>
    rw [hW] at hT h
    obtain ⟨p', m', hF⟩ := h
    exact ⟨p', z.2, z.1, m', box (.inr ⟨jWord_er _ _ _ _ hW, hT⟩), hF⟩
  | ok q =>
    rw [hW] at hT h
    have hq := (jWord_le hW).2.resolve_left (by simp)
    rw [hl] at hq hT
    exact ⟨q, 0, 0, m, box (.inl ⟨rfl, rfl, rfl, hq, by simp, hT⟩), h⟩
set_option maxRecDepth 20000 in
set_option maxHeartbeats 12800000 in
theorem rtext_ok (g : Nat) (A : Option Addr) (n c p m B : Nat) (b : List UInt8) (w : World) (hh : w.heap[g]? = some (.cells (rrL A n c p 0 0 m).toArray 68 (0, 0))) (hg : B ≤ g) (hB : B ≤ w.heap.size) (hn : n ≤ 65536) (hnc : n ≤ c) (hp : p ≤ n) (hr : Rd w (· < B) A 1 n (b.map bv)) :
    Calls Tryd.prog 45 #[.pointer (some ⟨g, 0, none⟩)] w (RTxt w g A n c m (jText b p)) := by
  have hl := box hr.bytes_len
  have hF0 := Fr.one hh
  have hwd := box (rword_ok g A n c p m B b ⟨#[34]⟩ w hh hg hB (by omega) hp (by decide) hr)
  rw [show ((⟨#[34]⟩ : ByteArray).data.toList) = [34] from rfl] at hwd
  have hs := box (fun w1 h => rtext_start (g := g) (A := A) (c := c) (p := p) (m := m) (w := w) (w1 := w1) hl.out h)
  obtain ⟨J, hJ⟩ : ∃ J, J = jText b p := ⟨_, rfl⟩
  rw [← hJ] at hs ⊢
  clear hh hJ
  go_enter Tryd.func45, Tryd.ntmps45
  go_wp2_with fail
  refine hwd.out.mono ?_
  rintro e w1 ⟨rfl, hw1⟩
  obtain ⟨p1, f1, wh1, m1, hI1, hF1⟩ := hs.out _ hw1
  clear hwd hs hw1 hF0
  go_wp2_with fail
  go_loopg [3] (txM f1 n p1) (fun k v wr => ∃ (out : List UInt8) (p' f wh m' : Nat), Box (k = txM f n p') ∧ Box (TxI J b n m p' f wh m' out) ∧ Fr [g] w wr [Ent.bytes w.heap.size 5 v out, .blk g 68 (rrL A n c p' f wh m')])
  case atStart => exact ⟨[], p1, f1, wh1, m1, box rfl, hI1, hF1.pushNil _⟩
  case round =>
    clear hF1 hI1
    obtain ⟨out, p', f, wh, m', hk, hI, hF⟩ := hrel
    obtain ⟨Ao, co, rfl, hco, hro⟩ := (hF.own (i := 0) rfl).arg
    rcases hI.out with ⟨rfl, rfl, rfl, hpn, hol, hJ⟩ | ⟨hf, hJ⟩
    rotate_left
    · have hf0 : ((f : Int) == 0) = false := by rw [beq_eq_false_iff_ne]; omega
      replace hf := box hf
      replace hJ := box hJ
      go_wp2_with (first | (with_reducible refine lst (by with_unfolding_all rfl) (wp_fld1 hF Tryd.underlying3 rfl (by with_unfolding_all exact ⟨_, rfl, rfl⟩) rfl ?_)) | (with_reducible refine lst (by with_unfolding_all rfl) (wp_fld1 hF Tryd.underlying22 rfl (by with_unfolding_all exact ⟨_, rfl, rfl⟩) rfl ?_)) | (with_reducible refine lst (by with_unfolding_all rfl) (wp_b2s T_u8 Tryd.underlying5 Tryd.underlying9 (hF.rdOwn (i := 0) rfl) (by with_unfolding_all exact ⟨_, rfl, rfl⟩) ?_)))
      go_ret
      unfold RTxt
      rw [hJ.out]
      exact ⟨_, _, _, rfl, hF.tail⟩
    replace hJ := box hJ
    replace hol := box hol
    have hkg : Box (gk = n + 2 - p') := box (by rw [hk.out, txM_ok])
    clear hk hI
    cases hx : b[p']? with
    | none =>
      have hend : Box (J = .error (n, 9)) := box (by
        rw [hJ.out]
        have := List.getElem?_eq_none_iff.1 hx
        rw [hl.out] at this
        rw [show n + 1 - p' = 0 + 1 by omega, jTextL, hx, hl.out])
      have hx := box hx
      go_wp2_with (first | (with_reducible refine lst (by with_unfolding_all rfl) (wp_fld1 hF Tryd.underlying3 rfl (by with_unfolding_all exact ⟨_, rfl, rfl⟩) rfl ?_)) | (with_reducible refine lst (by with_unfolding_all rfl) (wp_fld1 hF Tryd.underlying22 rfl (by with_unfolding_all exact ⟨_, rfl, rfl⟩) rfl ?_)))
      refine (rwant_end hx.out (hF.blk (i := 1) rfl) (hF.rdB hg hB hr)).mono ?_
      rintro e w2 ⟨rfl, h2⟩
      have hF2 := hF.putF (i := 1) rfl h2
      simp only [List.set_cons_zero, List.set_cons_succ] at hF2
      go_wp2_with (first | (with_reducible refine lst (by with_unfolding_all rfl) (wp_b2s T_u8 Tryd.underlying5 Tryd.underlying9 (hF2.rdOwn (i := 0) rfl) (by with_unfolding_all exact ⟨_, rfl, rfl⟩) ?_)))
      go_ret
      unfold RTxt
      rw [hend.out]
      exact ⟨_, _, _, rfl, hF2.tail⟩
    | some x =>
      have hxb := x.toNat_lt
      have hplt := (List.getElem?_eq_some_iff.1 hx).1
      have hstep := jText_step (out := out) hplt
      rw [hx] at hstep
      rw [hl.out] at hplt hstep
      simp only [] at hstep
      replace hx := box hx
      by_cases h34 : x = 34
      · subst h34
        rw [if_pos rfl] at hstep
        have hend := box (hJ.out.trans hstep)
        clear hstep
        go_wp2_with (first | (with_reducible refine lst (by with_unfolding_all rfl) (wp_fld1 hF Tryd.underlying3 rfl (by with_unfolding_all exact ⟨_, rfl, rfl⟩) rfl ?_)) | (with_reducible refine lst (by with_unfolding_all rfl) (wp_fld1 hF Tryd.underlying22 rfl (by with_unfolding_all exact ⟨_, rfl, rfl⟩) rfl ?_)))
        refine (rwant_in hx.out (hF.blk (i := 1) rfl) (hF.rdB hg hB hr)).mono ?_
        rintro e w2 ⟨rfl, h2⟩
        have hF2 := hF.putF (i := 1) rfl h2
        simp only [List.set_cons_zero, List.set_cons_succ] at hF2
        go_wp2_with (first | (with_reducible refine lst (by with_unfolding_all rfl) (wp_fld1 hF2 Tryd.underlying3 rfl (by with_unfolding_all exact ⟨_, rfl, rfl⟩) rfl ?_)) | (with_reducible refine lst (by with_unfolding_all rfl) (wp_fld1 hF2 Tryd.underlying22 rfl (by with_unfolding_all exact ⟨_, rfl, rfl⟩) rfl ?_)) | ((with_reducible refine lst (by with_unfolding_all rfl) (wp_fst1 hF2 (by with_unfolding_all exact ⟨_, _, rfl, rfl, rfl⟩) (by kernel_rfl) rfl rfl (by rw [rrL_len]; decide) (rrL_at (v := (p' : Int) + 1) (q := p' + 1) (by omega)) ?_)); intro w3 hF3 hz3) | (with_reducible refine lst (by with_unfolding_all rfl) (wp_b2s T_u8 Tryd.underlying5 Tryd.underlying9 (hF3.rdOwn (i := 0) rfl) (by with_unfolding_all exact ⟨_, rfl, rfl⟩) ?_)))
        go_ret
        unfold RTxt
        rw [hend.out]
        exact ⟨rfl, hF3.tail⟩
      have n34 : ((x.toNat : Int) == 34) = false := u8_ne h34
      rw [if_neg h34] at hstep
      by_cases h92 : x = 92
      · subst h92
        rw [if_pos rfl] at hstep
        have hes := box (fun w' (hF : Fr [g] w w' [Ent.bytes w.heap.size 5 (.slice Ao out.length co) out, .blk g 68 (rrL A n c p' 0 0 m)]) => rescape_any g A n c p' m B b w' (hF.blk (i := 1) rfl) hg (Nat.le_trans hB hF.size) hn hpn (hF.rdB hg hB hr))
        have her := jEscape_er b p'
        cases he : jEscape b p' with
        | error z =>
          rw [he] at hstep hes
          have hend := box (hJ.out.trans hstep)
          have hz2 := box (her _ he)
          unfold REsc at hes
          simp only [] at hes hend
          clear hstep her he
          go_wp2_with (first | (with_reducible refine lst (by with_unfolding_all rfl) (wp_fld1 hF Tryd.underlying3 rfl (by with_unfolding_all exact ⟨_, rfl, rfl⟩) rfl ?_)) | (with_reducible refine lst (by with_unfolding_all rfl) (wp_fld1 hF Tryd.underlying22 rfl (by with_unfolding_all exact ⟨_, rfl, rfl⟩) rfl ?_)))
          refine (rwant_in hx.out (hF.blk (i := 1) rfl) (hF.rdB hg hB hr)).mono ?_
          rintro e w2 ⟨rfl, h2⟩
          have hF2 := hF.putF (i := 1) rfl h2
          simp only [List.set_cons_zero, List.set_cons_succ] at hF2
          go_wp2_with fail
          refine (hes.out _ hF2).mono ?_
          rintro e w3 ⟨he3, p3, m3, h3⟩
          obtain ⟨mz, Az, cz, hmz, hAz⟩ : ∃ (mz : Nat) (Az : Option Addr) (cz : Nat), mz = 0 ∧ Value.slice none 0 0 = .slice Az mz cz := ⟨_, _, _, rfl, rfl⟩
          rw [hAz] at he3
          subst he3
          clear hAz
          have hF3 := hF2.putF (i := 1) rfl h3
          simp only [List.set_cons_zero, List.set_cons_succ] at hF3
          have hrn := box (fun w => (hmz ▸ Rd.nil w (fun _ => True) Az 1 : Rd w (fun _ => True) Az 1 mz (([] : List UInt8).map bv)))
          have room : out.length + mz ≤ 140737488355328 := by have := hol.out; omega
          replace hmz := box hmz
          go_wp2_with (first | ((with_reducible refine lst (by with_unfolding_all rfl) (wp_fapp0 T_u8 hF3 (Nat.le_refl _) (hrn.out w3) (by with_unfolding_all exact ⟨_, _, rfl, rfl, rfl⟩) room ?_)); intro v4 w4 hF4 hz4))
          go_roundg (txM z.2 n p3)
          case rel => exact ⟨out, p3, z.2, z.1, m3, box rfl, box (.inr ⟨hz2.out, hend.out⟩), by rw [List.append_nil] at hF4; exact hF4⟩
          case measure => have := hkg.out; rw [txM_bad hz2.out]; omega
        | ok r =>
          obtain ⟨e, q'⟩ := r
          obtain ⟨he1, he2, he3⟩ := jEscape_len he
          rw [he] at hstep hes
          have hgo := box (hJ.out.trans hstep)
          unfold REsc at hes
          simp only [] at hes hgo
          rw [hl.out] at he3
          have hol2 := hol.out
          have room : out.length + e.length ≤ 140737488355328 := by omega
          clear hstep her he
          go_wp2_with (first | (with_reducible refine lst (by with_unfolding_all rfl) (wp_fld1 hF Tryd.underlying3 rfl (by with_unfolding_all exact ⟨_, rfl, rfl⟩) rfl ?_)) | (with_reducible refine lst (by with_unfolding_all rfl) (wp_fld1 hF Tryd.underlying22 rfl (by with_unfolding_all exact ⟨_, rfl, rfl⟩) rfl ?_)))
          refine (rwant_in hx.out (hF.blk (i := 1) rfl) (hF.rdB hg hB hr)).mono ?_
          rintro e w2 ⟨rfl, h2⟩
          have hF2 := hF.putF (i := 1) rfl h2
          simp only [List.set_cons_zero, List.set_cons_succ] at hF2
          go_wp2_with fail
          refine (hes.out _ hF2).mono ?_
          rintro e w3 ⟨v3, bb, rfl, h3⟩
          obtain ⟨A3, c3, rfl, _, _⟩ := (h3.own (i := 0) rfl).arg
          have hF3 := (hF2.putG (i := 1) rfl (h3.perm (List.Perm.swap _ _ _))).perm List.perm_append_comm
          simp only [List.set_cons_zero, List.set_cons_succ, List.cons_append, List.nil_append] at hF3
          go_wp2_with (first | ((with_reducible refine lst (by with_unfolding_all rfl) (wp_fapp1 T_u8 hF3 (Nat.le_refl _) (hF3.rdOwn (i := 0) rfl) (by with_unfolding_all exact ⟨_, _, rfl, rfl, rfl⟩) room ?_)); intro v4 w4 hF4 hz4))
          go_roundg (txM 0 n q')
          case rel => exact ⟨_, q', 0, 0, m, box rfl, box (.inl ⟨rfl, rfl, rfl, he3, by rw [List.length_append]; omega, hgo.out⟩), hF4.tail⟩
          case measure => have := hkg.out; rw [txM_ok]; omega
      have n92 : ((x.toNat : Int) == 92) = false := u8_ne h92
      rw [if_neg h92] at hstep
      by_cases h32 : x.toNat < 32
      · rw [if_pos h32] at hstep
        have hend := box (hJ.out.trans hstep)
        have hd : decide ((x.toNat : Int) < 32) = true := decide_eq_true (by omega)
        clear hstep h34 h92 h32
        go_wp2_with (first | (with_reducible refine lst (by with_unfolding_all rfl) (wp_fld1 hF Tryd.underlying3 rfl (by with_unfolding_all exact ⟨_, rfl, rfl⟩) rfl ?_)) | (with_reducible refine lst (by with_unfolding_all rfl) (wp_fld1 hF Tryd.underlying22 rfl (by with_unfolding_all exact ⟨_, rfl, rfl⟩) rfl ?_)))
        refine (rwant_in hx.out (hF.blk (i := 1) rfl) (hF.rdB hg hB hr)).mono ?_
        rintro e w2 ⟨rfl, h2⟩
        have hF2 := hF.putF (i := 1) rfl h2
        simp only [List.set_cons_zero, List.set_cons_succ] at hF2
        go_wp2_with (first | (with_reducible refine lst (by with_unfolding_all rfl) (wp_fld1 hF2 Tryd.underlying3 rfl (by with_unfolding_all exact ⟨_, rfl, rfl⟩) rfl ?_)) | (with_reducible refine lst (by with_unfolding_all rfl) (wp_fld1 hF2 Tryd.underlying22 rfl (by with_unfolding_all exact ⟨_, rfl, rfl⟩) rfl ?_)))
        refine (rfail_ok g A n c p' m (p', 60) _ (hF2.blk (i := 1) rfl)).mono ?_
        rintro e w3 ⟨rfl, h3⟩
        have hF3 := hF2.putF (i := 1) rfl h3
        simp only [List.set_cons_zero, List.set_cons_succ] at hF3
        go_wp2_with (first | (with_reducible refine lst (by with_unfolding_all rfl) (wp_b2s T_u8 Tryd.underlying5 Tryd.underlying9 (hF3.rdOwn (i := 0) rfl) (by with_unfolding_all exact ⟨_, rfl, rfl⟩) ?_)))
        go_ret
        unfold RTxt
        rw [hend.out]
        exact ⟨_, _, _, rfl, hF3.tail⟩
      rw [if_neg h32] at hstep
      have hd : decide ((x.toNat : Int) < 32) = false := decide_eq_false (by omega)
      have hbl : (b.drop p').length = n - p' := by rw [List.length_drop, hl.out]
      obtain ⟨hs1, hs2⟩ := jSize_le (b.drop p')
      have htl : ((b.drop p').take (jSize (b.drop p'))).length = jSize (b.drop p') := by rw [List.length_take]; omega
      have hrc := box (fun w' (hF : Fr [g] w w' [Ent.bytes w.heap.size 5 (.slice Ao out.length co) out, .blk g 68 (rrL A n c p' 0 0 m)]) => by
        have h := cut_rd (m := c) (hF.rdB hg hB hr) (show p' ≤ n by omega) (Nat.le_refl n) hnc
        rw [List.take_of_length_le (by have := hl.out; omega)] at h
        exact (rsize_any (cutA A p' c) (n - p') (c - p') (b.drop p') w' _ (by omega) h).mono (fun e w2 h2 => (⟨h2.1, h2.2 ▸ Below.refl _ _⟩ : e = .returned (.int .i64 (jSize (b.drop p') : Int)) ∧ Below w'.heap.size w' w2)))
      rw [hbl] at hs1
      generalize hsz : jSize (b.drop p') = sz at *
      replace hstep := box (hJ.out.trans hstep)
      replace hbl := box hbl
      clear h34 h92 h32 hJ
      go_wp2_with (first | (with_reducible refine lst (by with_unfolding_all rfl) (wp_fld1 hF Tryd.underlying3 rfl (by with_unfolding_all exact ⟨_, rfl, rfl⟩) rfl ?_)) | (with_reducible refine lst (by with_unfolding_all rfl) (wp_fld1 hF Tryd.underlying22 rfl (by with_unfolding_all exact ⟨_, rfl, rfl⟩) rfl ?_)))
      refine (rwant_in hx.out (hF.blk (i := 1) rfl) (hF.rdB hg hB hr)).mono ?_
      rintro e w2 ⟨rfl, h2⟩
      have hF2 := hF.putF (i := 1) rfl h2
      simp only [List.set_cons_zero, List.set_cons_succ] at hF2
      have hrk := box (fun w' (hF : Fr [g] w w' [Ent.bytes w.heap.size 5 (.slice Ao out.length co) out, .blk g 68 (rrL A n c p' 0 0 m)]) => hF.rdB hg hB hr)
      clear hF
      go_upto_region 12 with fail
      have hFd := hF2.drew
      clear hF2
      refine wp_region_held (S := fun w' => w'.heap[g]? = some (.cells (List.toArray (rrL A n c p' 0 0 m)) 68 (0, 0))) (by kernel_rfl) ?_
      change wpAnyH _ _ _ _ _ _ _ _ (World.drew _)
      refine tkp 0 (hFd.blk (i := 1) rfl) ?_
      (try simp only [Act.put, List.setIfInBounds_toArray, List.set_cons_zero, List.set_cons_succ])
      refine tkp 1 (hFd.blk (i := 1) rfl) ?_
      (try simp only [Act.put, List.setIfInBounds_toArray, List.set_cons_zero, List.set_cons_succ])
      refine tkp 2 (hFd.blk (i := 1) rfl) ?_
      (try simp only [Act.put, List.setIfInBounds_toArray, List.set_cons_zero, List.set_cons_succ])
      refine tky 3 (y := yi_fld (by with_unfolding_all rfl) (fun _ h => h) Tryd.underlying22 rfl (by with_unfolding_all exact ⟨_, rfl, rfl⟩) rfl) (s := (hFd.blk (i := 1) rfl)) (h := ?_)
      (try simp only [Act.put, List.setIfInBounds_toArray, List.set_cons_zero, List.set_cons_succ])
      refine tkp 4 (hFd.blk (i := 1) rfl) ?_
      (try simp only [Act.put, List.setIfInBounds_toArray, List.set_cons_zero, List.set_cons_succ])
      refine tkp 5 (hFd.blk (i := 1) rfl) ?_
      (try simp only [Act.put, List.setIfInBounds_toArray, List.set_cons_zero, List.set_cons_succ])
      refine tkp 6 (hFd.blk (i := 1) rfl) ?_
      (try simp only [Act.put, List.setIfInBounds_toArray, List.set_cons_zero, List.set_cons_succ])
      refine tky 7 (y := yi_fld (by with_unfolding_all rfl) (fun _ h => h) Tryd.underlying3 rfl (by with_unfolding_all exact ⟨_, rfl, rfl⟩) rfl) (s := (hFd.blk (i := 1) rfl)) (h := ?_)
      (try simp only [Act.put, List.setIfInBounds_toArray, List.set_cons_zero, List.set_cons_succ])
      refine tky 8 (y := yi_cut (by with_unfolding_all rfl) T_u8 (lo := some (p' : Int)) (hi := none) (mx := none) (l := p') (h := n) (m := c) (by with_unfolding_all exact ⟨_, _, _, _, .i64, .i64, .i64, rfl, rfl, rfl, rfl, rfl⟩) (by simp; done) (by simp; done) (by simp; done) (by simp) (by omega) (by omega) (by omega) (by omega)) (s := (hFd.blk (i := 1) rfl)) (h := ?_)
      (try simp only [Act.put, List.setIfInBounds_toArray, List.set_cons_zero, List.set_cons_succ])
      refine rdy1 9 (fun K hK => ?_)
      refine stp (by with_unfolding_all rfl) (wp_call Tryd.func59 rfl (by with_unfolding_all rfl) (by with_unfolding_all rfl) (by with_unfolding_all rfl) (hrc.out _ hFd) ?_)
      rintro e w21 ⟨rfl, hb21⟩
      refine ⟨_, rfl, ?_⟩
      have hF21 := hFd.call hb21
      refine hK.out _ _ ((hF21.blk (i := 1) rfl)) (fun _ => ?_)
      clear hK K
      (try simp only [Act.put, List.setIfInBounds_toArray, List.set_cons_zero, List.set_cons_succ])
      refine tkp 10 (hF21.blk (i := 1) rfl) ?_
      (try simp only [Act.put, List.setIfInBounds_toArray, List.set_cons_zero])
      refine wpAnyH_done (by kernel_rfl) ?_ _
      by_cases hz : sz = 0
      · have hst := hstep.out
        rw [if_pos hz] at hst
        have hend := box hst
        have hz0 : ((sz : Int) == 0) = true := by rw [hz]; rfl
        have hd0 : decide (0 < sz) = false := decide_eq_false (by omega)
        have hps : p' + sz ≤ n := by omega
        clear hst hrc htl
        replace hz := box hz
        go_wp2_with (first | (with_reducible refine lst (by with_unfolding_all rfl) (wp_fld1 hF21 Tryd.underlying3 rfl (by with_unfolding_all exact ⟨_, rfl, rfl⟩) rfl ?_)) | (with_reducible refine lst (by with_unfolding_all rfl) (wp_fld1 hF21 Tryd.underlying22 rfl (by with_unfolding_all exact ⟨_, rfl, rfl⟩) rfl ?_)))
        refine (rfail_ok g A n c p' m (p', 61) _ (hF21.blk (i := 1) rfl)).mono ?_
        rintro e w40 ⟨rfl, h40⟩
        have hF40 := hF21.putF (i := 1) rfl h40
        simp only [List.set_cons_zero, List.set_cons_succ] at hF40
        go_wp2_with fail
        go_loopg [3, 6] 0 (fun k v i wr => v = .slice Ao out.length co ∧ i = .int .i64 0 ∧ wr = w40)
        case atStart => exact ⟨rfl, rfl, rfl⟩
        case round =>
          obtain ⟨rfl, rfl, rfl⟩ := hrel
          go_wp2_with (first | (with_reducible refine lst (by with_unfolding_all rfl) (wp_fld1 hF40 Tryd.underlying3 rfl (by with_unfolding_all exact ⟨_, rfl, rfl⟩) rfl ?_)) | (with_reducible refine lst (by with_unfolding_all rfl) (wp_fld1 hF40 Tryd.underlying22 rfl (by with_unfolding_all exact ⟨_, rfl, rfl⟩) rfl ?_)) | ((with_reducible refine lst (by with_unfolding_all rfl) (wp_fst1 hF40 (by with_unfolding_all exact ⟨_, _, rfl, rfl, rfl⟩) (by kernel_rfl) rfl rfl (by rw [rrL_len]; decide) (rrL_at (v := (p' : Int) + (sz : Int)) (q := p' + sz) (by omega)) ?_)); intro w41 hF41 hz41))
          go_roundg (txM 61 n (p' + sz))
          case rel => exact ⟨out, p' + sz, 61, p', m, box rfl, box (.inr ⟨by decide, hend.out⟩), hF41⟩
          case measure => have := hkg.out; rw [txM_bad (by decide)]; omega
      have hst := hstep.out
      rw [if_neg hz] at hst
      have hgo := box hst
      have hz0 : ((sz : Int) == 0) = false := by rw [beq_eq_false_iff_ne]; omega
      have hps : p' + sz ≤ n := by omega
      have hol2 := hol.out
      clear hst hrc
      replace hz := box hz
      go_wp2_with fail
      go_loopg [3, 6] sz (fun k v i wr => ∃ (j : Nat) (L : List UInt8), j ≤ sz ∧ Box (k = sz - j) ∧ i = .int .i64 (j : Int) ∧ L.length ≤ out.length + j ∧ Box (L = out ++ (b.drop p').take j) ∧ Fr [g] w wr [Ent.bytes w.heap.size 5 v L, .blk g 68 (rrL A n c p' 0 0 m)])
      case atStart => exact ⟨0, out, by omega, box rfl, rfl, by omega, box (by rw [List.take_zero, List.append_nil]), hF21⟩
      case round =>
        clear hF21
        obtain ⟨j, L, hj, hkj, rfl, hjl, hLe, hF⟩ := hrel
        have hkk : Box (_ = sz - j) := hkj
        clear hkj
        obtain ⟨Aj, cj, rfl, hcj, hrj⟩ := (hF.own (i := 0) rfl).arg
        by_cases hlt : j < sz
        · obtain ⟨y, hy⟩ : ∃ y, b[p' + j]? = some y := ⟨b[p' + j]'(by rw [hl.out]; omega), by simp⟩
          have hyv : Box ((b.map bv)[(p' + j) * 1]? = some (bv y)) := box (by rw [Nat.mul_one, List.getElem?_map, hy]; rfl)
          have hta : Box ((b.drop p').take j ++ [y] = (b.drop p').take (j + 1)) := box (by rw [List.take_add_one, List.getElem?_drop, hy]; rfl)
          have hw1 : IntKind.i64.wrap ((p' : Int) + (j : Int)) = (p' : Int) + (j : Int) := IntWalk.i64_in _ (by omega)
          have hpj : p' + j < n := by omega
          clear hy
          go_upto_region 18 with fail
          have hFe := hF.drew
          clear hF
          refine wp_region_held (S := fun w' => w'.heap[g]? = some (.cells (List.toArray (rrL A n c p' 0 0 m)) 68 (0, 0)) ∧ Rd w' (· < B) A 1 n (b.map bv)) (by kernel_rfl) ?_
          change wpAnyH _ _ _ _ _ _ _ _ (World.drew _)
          refine tkp 0 ⟨hFe.blk (i := 1) rfl, hFe.rdB hg hB hr⟩ ?_
          (try simp only [Act.put, List.setIfInBounds_toArray, List.set_cons_zero, List.set_cons_succ])
          refine tkp 1 ⟨hFe.blk (i := 1) rfl, hFe.rdB hg hB hr⟩ ?_
          (try simp only [Act.put, List.setIfInBounds_toArray, List.set_cons_zero, List.set_cons_succ])
          refine tkp 2 ⟨hFe.blk (i := 1) rfl, hFe.rdB hg hB hr⟩ ?_
          (try simp only [Act.put, List.setIfInBounds_toArray, List.set_cons_zero, List.set_cons_succ])
          refine tkp 3 ⟨hFe.blk (i := 1) rfl, hFe.rdB hg hB hr⟩ ?_
          (try simp only [Act.put, List.setIfInBounds_toArray, List.set_cons_zero, List.set_cons_succ])
          refine tky 4 (y := yi_fld (by with_unfolding_all rfl) (fun _ h => h.1) Tryd.underlying22 rfl (by with_unfolding_all exact ⟨_, rfl, rfl⟩) rfl) (s := ⟨hFe.blk (i := 1) rfl, hFe.rdB hg hB hr⟩) (h := ?_)
          (try simp only [Act.put, List.setIfInBounds_toArray, List.set_cons_zero, List.set_cons_succ])
          refine tkp 5 ⟨hFe.blk (i := 1) rfl, hFe.rdB hg hB hr⟩ ?_
          (try simp only [Act.put, List.setIfInBounds_toArray, List.set_cons_zero, List.set_cons_succ])
          refine tkp 6 ⟨hFe.blk (i := 1) rfl, hFe.rdB hg hB hr⟩ ?_
          (try simp only [Act.put, List.setIfInBounds_toArray, List.set_cons_zero, List.set_cons_succ])
          refine tkp 7 ⟨hFe.blk (i := 1) rfl, hFe.rdB hg hB hr⟩ ?_
          (try simp only [Act.put, List.setIfInBounds_toArray, List.set_cons_zero, List.set_cons_succ])
          refine tky 8 (y := yi_fld (by with_unfolding_all rfl) (fun _ h => h.1) Tryd.underlying3 rfl (by with_unfolding_all exact ⟨_, rfl, rfl⟩) rfl) (s := ⟨hFe.blk (i := 1) rfl, hFe.rdB hg hB hr⟩) (h := ?_)
          (try simp only [Act.put, List.setIfInBounds_toArray, List.set_cons_zero, List.set_cons_succ])
          refine tkp 9 ⟨hFe.blk (i := 1) rfl, hFe.rdB hg hB hr⟩ ?_
          (try simp only [Act.put, List.setIfInBounds_toArray, List.set_cons_zero, List.set_cons_succ])
          refine tkp 10 ⟨hFe.blk (i := 1) rfl, hFe.rdB hg hB hr⟩ ?_
          (try simp only [Act.put, List.setIfInBounds_toArray, List.set_cons_zero, List.set_cons_succ])
          refine tky 11 (y := yi_ix (by with_unfolding_all rfl) T_u8 (fun h => hr.some_ h) (k := p' + j) (by with_unfolding_all exact ⟨_, _, _, _, rfl, rfl, rfl⟩) (by first | rfl | omega) (by omega)) (s := ⟨hFe.blk (i := 1) rfl, hFe.rdB hg hB hr⟩) (h := ?_)
          (try simp only [Act.put, List.setIfInBounds_toArray, List.set_cons_zero, List.set_cons_succ])
          refine tky 12 (y := yi_ld (by with_unfolding_all rfl) (j := (p' + j) * 1) (fun _ h => h.2) Tryd.underlying5 rfl (by with_unfolding_all exact ⟨_, rfl, rfl⟩) hyv.out) (s := ⟨hFe.blk (i := 1) rfl, hFe.rdB hg hB hr⟩) (h := ?_)
          (try simp only [Act.put, List.setIfInBounds_toArray, List.set_cons_zero, List.set_cons_succ])
          refine rdy1 13 (fun K hK => ?_)
          refine stp (by with_unfolding_all rfl) (wp_fbsl T_u8 hFe (vs := [bv y]) (by with_unfolding_all rfl) (by with_unfolding_all rfl) (by with_unfolding_all rfl) (by decide) (by simp [bv, Value.cells]) ?_)
          intro w61 g61 hF61 hz61
          replace hF61 : Fr _ _ w61 (Ent.bytes _ 5 (.slice (some ⟨g61, 0, none⟩) 1 1) [y] :: _) := hF61
          refine hK.out _ _ (⟨hF61.blk (i := 2) rfl, hF61.rdB hg hB hr⟩) (fun _ => ?_)
          clear hK K
          (try simp only [Act.put, List.setIfInBounds_toArray, List.set_cons_zero, List.set_cons_succ])
          refine rdy1 14 (fun K hK => ?_)
          refine stp (by with_unfolding_all rfl) (wp_fapp T_u8 hF61 (i := 1) (l := L) rfl (Nat.le_refl _) (hF61.rdOwn (i := 0) rfl) (by with_unfolding_all exact ⟨_, _, rfl, rfl, rfl⟩) (by omega) ?_)
          intro v62 w62 hF62 hz62
          refine hK.out _ _ (⟨hF62.blk (i := 2) rfl, hF62.rdB hg hB hr⟩) (fun _ => ?_)
          clear hK K
          (try simp only [Act.put, List.setIfInBounds_toArray, List.set_cons_zero, List.set_cons_succ])
          refine tkp 15 ⟨hF62.blk (i := 2) rfl, hF62.rdB hg hB hr⟩ ?_
          (try simp only [Act.put, List.setIfInBounds_toArray, List.set_cons_zero])
          refine wpAnyH_done (by kernel_rfl) ?_ _
          go_wp2_with fail
          go_roundg (sz - (j + 1))
          case rel => exact ⟨j + 1, L ++ [y], by omega, box rfl, by go_num, by rw [List.length_append]; simp only [List.length_cons, List.length_nil]; omega, box (by rw [hLe.out, List.append_assoc, hta.out]), hF62.tail⟩
          case measure => have := hkk.out; omega
        · obtain rfl : sz = j := by omega
          go_wp2_with (first | (with_reducible refine lst (by with_unfolding_all rfl) (wp_fld1 hF Tryd.underlying3 rfl (by with_unfolding_all exact ⟨_, rfl, rfl⟩) rfl ?_)) | (with_reducible refine lst (by with_unfolding_all rfl) (wp_fld1 hF Tryd.underlying22 rfl (by with_unfolding_all exact ⟨_, rfl, rfl⟩) rfl ?_)) | ((with_reducible refine lst (by with_unfolding_all rfl) (wp_fst1 hF (by with_unfolding_all exact ⟨_, _, rfl, rfl, rfl⟩) (by kernel_rfl) rfl rfl (by rw [rrL_len]; decide) (rrL_at (v := (p' : Int) + (sz : Int)) (q := p' + sz) (by omega)) ?_)); intro w41 hF41 hz41))
          go_roundg (txM 0 n (p' + sz))
          case rel => exact ⟨L, p' + sz, 0, 0, m, box rfl, box (.inl ⟨rfl, rfl, rfl, by omega, by omega, by rw [hLe.out]; exact hgo.out⟩), hF41⟩
          case measure => have := hkg.out; have := hz.out; rw [txM_ok]; omega

end Go.Proofs.YtdekogmegdhjoaaDoor
