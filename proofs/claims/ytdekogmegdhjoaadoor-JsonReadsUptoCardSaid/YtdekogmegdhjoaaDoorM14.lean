/-
  Layer 6: the document's reader: four digits of an escape; a sign in UTF-8.
  Layer 6: the document's Sign.
-/
import Derived.Test.YtdekogmegdhjoaaDoorM13
import Derived.Test.YtdekogmegdhjoaaDoorM04
namespace Go.Proofs.YtdekogmegdhjoaaDoor
open Go.RowKit
set_option linter.unusedSimpArgs false

theorem jUnit_go {b : List UInt8} {s k a p d : Nat} {x : UInt8} (hx : b[p]? = some x) (h : jHex x = some d) : jUnit b s (k + 1) a p = jUnit b s k (16 * a + d) (p + 1) := by rw [jUnit, hx]; simp only [h]
theorem jUnit_no {b : List UInt8} {s k a p : Nat} {x : UInt8} (hx : b[p]? = some x) (h : jHex x = none) : jUnit b s (k + 1) a p = .error (s, 62) := by rw [jUnit, hx]; simp only [h]
theorem jUnit_end {b : List UInt8} {s k a p : Nat} (hx : b[p]? = none) : jUnit b s (k + 1) a p = .error (b.length, 9) := by rw [jUnit, hx]

/-- What four digits tell. -/
def RDig (w : World) (g : Nat) (A : Option Addr) (n c p m : Nat) (J : JR Nat) (e : Ending) (w' : World) : Prop :=
  ∃ z : Int, e = .returned (.int .i64 z) ∧ match J with
      | .ok u => z = (u : Int) ∧ p + 4 ≤ n ∧ Fr [g] w w' [.blk g 68 (rrL A n c (p + 4) 0 0 m)]
      | .error x => ∃ p' m', Fr [g] w w' [.blk g 68 (rrL A n c p' x.2 x.1 m')]
set_option maxRecDepth 20000 in
set_option maxHeartbeats 12800000 in
theorem rdigits_ok (g : Nat) (A : Option Addr) (n c p m s B : Nat) (b : List UInt8) (w : World) (hh : w.heap[g]? = some (.cells (rrL A n c p 0 0 m).toArray 68 (0, 0))) (hg : B ≤ g) (hB : B ≤ w.heap.size) (hn : n ≤ 65536) (hp : p ≤ n) (hr : Rd w (· < B) A 1 n (b.map bv)) :
    Calls Tryd.prog 70 #[.pointer (some ⟨g, 0, none⟩), .int .i64 (s : Int)] w (RDig w g A n c p m (jUnit b s 4 0 p)) := by
  have hl := box hr.bytes_len
  have hF0 := Fr.one hh
  clear hh
  obtain ⟨J, hJ⟩ : ∃ J, J = jUnit b s 4 0 p := ⟨_, rfl⟩
  rw [← hJ]
  replace hJ := box hJ
  go_enter Tryd.func70, Tryd.ntmps70
  go_wp2_with fail
  go_loopg [5, 6] 4 (fun gk av iv wr => ∃ i : Nat, i ≤ 4 ∧ Box (gk = 4 - i) ∧ iv = .int .i64 (i : Int) ∧ ((∃ a p' : Nat, p' ≤ n ∧ p' = p + i ∧ av = .int .i64 (a : Int) ∧ Box (a < 16 ^ i) ∧ Box (J = jUnit b s (4 - i) a p') ∧ Fr [g] w wr [.blk g 68 (rrL A n c p' 0 0 m)]) ∨ (∃ (z : Int) (x : Nat × Nat) (p' m' : Nat), av = .int .i64 z ∧ Box (J = .error x) ∧ x.2 ≠ 0 ∧ Fr [g] w wr [.blk g 68 (rrL A n c p' x.2 x.1 m')])))
  case atStart => exact ⟨0, by omega, box rfl, rfl, .inl ⟨0, p, hp, rfl, rfl, box (by decide), hJ, hF0⟩⟩
  case round =>
    clear hF0
    obtain ⟨i, hi, hk, rfl, hst⟩ := hrel
    have hkf : Box (gk = 4 - i) := hk
    clear hk
    rcases hst with ⟨a, p', hp', hpi, rfl, hA, hJ', hF⟩ | ⟨z, x, p', m', rfl, hJx, hx2, hF⟩
    · replace hpi := box hpi
      by_cases hlt : i < 4
      · have ha : a ≤ 4095 := by
          have h := hA.out
          rcases (by omega : i = 0 ∨ i = 1 ∨ i = 2 ∨ i = 3) with h1 | h1 | h1 | h1 <;> (rw [h1] at h; omega)
        by_cases hpn : p' < n
        · obtain ⟨x, hx'⟩ : ∃ x, b[p']? = some x := ⟨b[p']'(by rw [hl.out]; exact hpn), by simp⟩
          have hx := box hx'
          have hxl := x.toNat_lt
          have hwa := rwant_in hx' (hF.blk (i := 0) rfl) (hF.rdB hg hB hr)
          obtain ⟨C, hC⟩ : ∃ C, C = x.toNat := ⟨_, rfl⟩
          rw [← hC] at hwa hxl
          replace hC := box hC
          clear hx'
          go_wp2_with (first | (with_reducible refine lst (by with_unfolding_all rfl) (wp_fld0 hF Tryd.underlying3 rfl (by with_unfolding_all exact ⟨_, rfl, rfl⟩) rfl ?_)) | (with_reducible refine lst (by with_unfolding_all rfl) (wp_fld0 hF Tryd.underlying22 rfl (by with_unfolding_all exact ⟨_, rfl, rfl⟩) rfl ?_)))
          refine hwa.mono ?_
          rintro e w1 ⟨rfl, h1⟩
          have hF1 := hF.putF (i := 0) rfl h1
          simp only [List.set_cons_zero] at hF1
          clear hwa h1
          by_cases h47 : C ≤ 47
          · skip
            have d48 : decide ((48 : Int) ≤ (C : Int)) = false := decide_eq_false (by omega)
            have e57 : decide ((C : Int) ≤ 57) = true := decide_eq_true (by omega)
            have d97 : decide ((97 : Int) ≤ (C : Int)) = false := decide_eq_false (by omega)
            have e102 : decide ((C : Int) ≤ 102) = true := decide_eq_true (by omega)
            have d65 : decide ((65 : Int) ≤ (C : Int)) = false := decide_eq_false (by omega)
            have e70 : decide ((C : Int) ≤ 70) = true := decide_eq_true (by omega)
            have hjx : jHex x = none := by unfold jHex; rw [if_neg (by have := hC.out; omega), if_neg (by have := hC.out; omega), if_neg (by have := hC.out; omega)]
            have hJn : Box (J = .error (s, 62)) := box (by rw [hJ'.out, show 4 - i = 4 - (i + 1) + 1 by omega, jUnit_no hx.out hjx])
            clear hjx
            go_wp2_with (first | (with_reducible refine lst (by with_unfolding_all rfl) (wp_fld0 hF1 Tryd.underlying3 rfl (by with_unfolding_all exact ⟨_, rfl, rfl⟩) rfl ?_)) | (with_reducible refine lst (by with_unfolding_all rfl) (wp_fld0 hF1 Tryd.underlying22 rfl (by with_unfolding_all exact ⟨_, rfl, rfl⟩) rfl ?_)))
            refine (rfail_ok g A n c p' m (s, 62) _ (hF1.blk (i := 0) rfl)).mono ?_
            rintro e w2 ⟨rfl, h2⟩
            have hF2 := hF1.putF (i := 0) rfl h2
            simp only [List.set_cons_zero] at hF2
            go_wp2_with (first | (with_reducible refine lst (by with_unfolding_all rfl) (wp_fld0 hF2 Tryd.underlying3 rfl (by with_unfolding_all exact ⟨_, rfl, rfl⟩) rfl ?_)) | (with_reducible refine lst (by with_unfolding_all rfl) (wp_fld0 hF2 Tryd.underlying22 rfl (by with_unfolding_all exact ⟨_, rfl, rfl⟩) rfl ?_)) | ((with_reducible refine lst (by with_unfolding_all rfl) (wp_fst0 hF2 (by with_unfolding_all exact ⟨_, _, rfl, rfl, rfl⟩) (by kernel_rfl) rfl rfl (by rw [rrL_len]; decide) (rrL_at (v := (p' : Int) + 1) (q := p' + 1) (by omega)) ?_)); intro w9 hF9 hz9))
            go_roundg (4 - (i + 1))
            case rel => exact ⟨i + 1, by omega, box rfl, by go_num, .inr ⟨_, _, _, _, rfl, hJn, Nat.succ_ne_zero _, hF9⟩⟩
            case measure => have := hkf.out; omega
          by_cases h57 : C ≤ 57
          · skip
            have d48 : decide ((48 : Int) ≤ (C : Int)) = true := decide_eq_true (by omega)
            have e57 : decide ((C : Int) ≤ 57) = true := decide_eq_true (by omega)
            have d97 : decide ((97 : Int) ≤ (C : Int)) = false := decide_eq_false (by omega)
            have e102 : decide ((C : Int) ≤ 102) = true := decide_eq_true (by omega)
            have d65 : decide ((65 : Int) ≤ (C : Int)) = false := decide_eq_false (by omega)
            have e70 : decide ((C : Int) ≤ 70) = true := decide_eq_true (by omega)
            have e0 : decide ((C : Int) - 48 < 0) = false := decide_eq_false (by omega)
            have hjx : jHex x = some (C - 48) := by rw [hC.out]; unfold jHex; rw [if_pos (by have := hC.out; omega)]
            have hJn : Box (J = jUnit b s (4 - (i + 1)) (16 * a + (C - 48)) (p' + 1)) := box (by rw [hJ'.out, show 4 - i = 4 - (i + 1) + 1 by omega, jUnit_go hx.out hjx])
            clear hjx
            go_wp2_with (first | (with_reducible refine lst (by with_unfolding_all rfl) (wp_fld0 hF1 Tryd.underlying3 rfl (by with_unfolding_all exact ⟨_, rfl, rfl⟩) rfl ?_)) | (with_reducible refine lst (by with_unfolding_all rfl) (wp_fld0 hF1 Tryd.underlying22 rfl (by with_unfolding_all exact ⟨_, rfl, rfl⟩) rfl ?_)) | ((with_reducible refine lst (by with_unfolding_all rfl) (wp_fst0 hF1 (by with_unfolding_all exact ⟨_, _, rfl, rfl, rfl⟩) (by kernel_rfl) rfl rfl (by rw [rrL_len]; decide) (rrL_at (v := (p' : Int) + 1) (q := p' + 1) (by omega)) ?_)); intro w9 hF9 hz9))
            go_roundg (4 - (i + 1))
            case rel => exact ⟨i + 1, by omega, box rfl, by go_num, .inl ⟨16 * a + (C - 48), p' + 1, by omega, by have := hpi.out; omega, by congr 1; omega, box (by rw [Nat.pow_succ]; have := hA.out; omega), hJn, hF9⟩⟩
            case measure => have := hkf.out; omega
          by_cases h64 : C ≤ 64
          · skip
            have d48 : decide ((48 : Int) ≤ (C : Int)) = true := decide_eq_true (by omega)
            have e57 : decide ((C : Int) ≤ 57) = false := decide_eq_false (by omega)
            have d97 : decide ((97 : Int) ≤ (C : Int)) = false := decide_eq_false (by omega)
            have e102 : decide ((C : Int) ≤ 102) = true := decide_eq_true (by omega)
            have d65 : decide ((65 : Int) ≤ (C : Int)) = false := decide_eq_false (by omega)
            have e70 : decide ((C : Int) ≤ 70) = true := decide_eq_true (by omega)
            have hjx : jHex x = none := by unfold jHex; rw [if_neg (by have := hC.out; omega), if_neg (by have := hC.out; omega), if_neg (by have := hC.out; omega)]
            have hJn : Box (J = .error (s, 62)) := box (by rw [hJ'.out, show 4 - i = 4 - (i + 1) + 1 by omega, jUnit_no hx.out hjx])
            clear hjx
            go_wp2_with (first | (with_reducible refine lst (by with_unfolding_all rfl) (wp_fld0 hF1 Tryd.underlying3 rfl (by with_unfolding_all exact ⟨_, rfl, rfl⟩) rfl ?_)) | (with_reducible refine lst (by with_unfolding_all rfl) (wp_fld0 hF1 Tryd.underlying22 rfl (by with_unfolding_all exact ⟨_, rfl, rfl⟩) rfl ?_)))
            refine (rfail_ok g A n c p' m (s, 62) _ (hF1.blk (i := 0) rfl)).mono ?_
            rintro e w2 ⟨rfl, h2⟩
            have hF2 := hF1.putF (i := 0) rfl h2
            simp only [List.set_cons_zero] at hF2
            go_wp2_with (first | (with_reducible refine lst (by with_unfolding_all rfl) (wp_fld0 hF2 Tryd.underlying3 rfl (by with_unfolding_all exact ⟨_, rfl, rfl⟩) rfl ?_)) | (with_reducible refine lst (by with_unfolding_all rfl) (wp_fld0 hF2 Tryd.underlying22 rfl (by with_unfolding_all exact ⟨_, rfl, rfl⟩) rfl ?_)) | ((with_reducible refine lst (by with_unfolding_all rfl) (wp_fst0 hF2 (by with_unfolding_all exact ⟨_, _, rfl, rfl, rfl⟩) (by kernel_rfl) rfl rfl (by rw [rrL_len]; decide) (rrL_at (v := (p' : Int) + 1) (q := p' + 1) (by omega)) ?_)); intro w9 hF9 hz9))
            go_roundg (4 - (i + 1))
            case rel => exact ⟨i + 1, by omega, box rfl, by go_num, .inr ⟨_, _, _, _, rfl, hJn, Nat.succ_ne_zero _, hF9⟩⟩
            case measure => have := hkf.out; omega
          by_cases h70 : C ≤ 70
          · skip
            have d48 : decide ((48 : Int) ≤ (C : Int)) = true := decide_eq_true (by omega)
            have e57 : decide ((C : Int) ≤ 57) = false := decide_eq_false (by omega)
            have d97 : decide ((97 : Int) ≤ (C : Int)) = false := decide_eq_false (by omega)
            have e102 : decide ((C : Int) ≤ 102) = true := decide_eq_true (by omega)
            have d65 : decide ((65 : Int) ≤ (C : Int)) = true := decide_eq_true (by omega)
            have e70 : decide ((C : Int) ≤ 70) = true := decide_eq_true (by omega)
            have e0 : decide ((C : Int) - 65 + 10 < 0) = false := decide_eq_false (by omega)
            have hjx : jHex x = some (C - 55) := by rw [hC.out]; unfold jHex; rw [if_neg (by have := hC.out; omega), if_neg (by have := hC.out; omega), if_pos (by have := hC.out; omega)]
            have hJn : Box (J = jUnit b s (4 - (i + 1)) (16 * a + (C - 55)) (p' + 1)) := box (by rw [hJ'.out, show 4 - i = 4 - (i + 1) + 1 by omega, jUnit_go hx.out hjx])
            clear hjx
            go_wp2_with (first | (with_reducible refine lst (by with_unfolding_all rfl) (wp_fld0 hF1 Tryd.underlying3 rfl (by with_unfolding_all exact ⟨_, rfl, rfl⟩) rfl ?_)) | (with_reducible refine lst (by with_unfolding_all rfl) (wp_fld0 hF1 Tryd.underlying22 rfl (by with_unfolding_all exact ⟨_, rfl, rfl⟩) rfl ?_)) | ((with_reducible refine lst (by with_unfolding_all rfl) (wp_fst0 hF1 (by with_unfolding_all exact ⟨_, _, rfl, rfl, rfl⟩) (by kernel_rfl) rfl rfl (by rw [rrL_len]; decide) (rrL_at (v := (p' : Int) + 1) (q := p' + 1) (by omega)) ?_)); intro w9 hF9 hz9))
            go_roundg (4 - (i + 1))
            case rel => exact ⟨i + 1, by omega, box rfl, by go_num, .inl ⟨16 * a + (C - 55), p' + 1, by omega, by have := hpi.out; omega, by congr 1; omega, box (by rw [Nat.pow_succ]; have := hA.out; omega), hJn, hF9⟩⟩
            case measure => have := hkf.out; omega
          by_cases h96 : C ≤ 96
          · skip
            have d48 : decide ((48 : Int) ≤ (C : Int)) = true := decide_eq_true (by omega)
            have e57 : decide ((C : Int) ≤ 57) = false := decide_eq_false (by omega)
            have d97 : decide ((97 : Int) ≤ (C : Int)) = false := decide_eq_false (by omega)
            have e102 : decide ((C : Int) ≤ 102) = true := decide_eq_true (by omega)
            have d65 : decide ((65 : Int) ≤ (C : Int)) = true := decide_eq_true (by omega)
            have e70 : decide ((C : Int) ≤ 70) = false := decide_eq_false (by omega)
            have hjx : jHex x = none := by unfold jHex; rw [if_neg (by have := hC.out; omega), if_neg (by have := hC.out; omega), if_neg (by have := hC.out; omega)]
            have hJn : Box (J = .error (s, 62)) := box (by rw [hJ'.out, show 4 - i = 4 - (i + 1) + 1 by omega, jUnit_no hx.out hjx])
            clear hjx
            go_wp2_with (first | (with_reducible refine lst (by with_unfolding_all rfl) (wp_fld0 hF1 Tryd.underlying3 rfl (by with_unfolding_all exact ⟨_, rfl, rfl⟩) rfl ?_)) | (with_reducible refine lst (by with_unfolding_all rfl) (wp_fld0 hF1 Tryd.underlying22 rfl (by with_unfolding_all exact ⟨_, rfl, rfl⟩) rfl ?_)))
            refine (rfail_ok g A n c p' m (s, 62) _ (hF1.blk (i := 0) rfl)).mono ?_
            rintro e w2 ⟨rfl, h2⟩
            have hF2 := hF1.putF (i := 0) rfl h2
            simp only [List.set_cons_zero] at hF2
            go_wp2_with (first | (with_reducible refine lst (by with_unfolding_all rfl) (wp_fld0 hF2 Tryd.underlying3 rfl (by with_unfolding_all exact ⟨_, rfl, rfl⟩) rfl ?_)) | (with_reducible refine lst (by with_unfolding_all rfl) (wp_fld0 hF2 Tryd.underlying22 rfl (by with_unfolding_all exact ⟨_, rfl, rfl⟩) rfl ?_)) | ((with_reducible refine lst (by with_unfolding_all rfl) (wp_fst0 hF2 (by with_unfolding_all exact ⟨_, _, rfl, rfl, rfl⟩) (by kernel_rfl) rfl rfl (by rw [rrL_len]; decide) (rrL_at (v := (p' : Int) + 1) (q := p' + 1) (by omega)) ?_)); intro w9 hF9 hz9))
            go_roundg (4 - (i + 1))
            case rel => exact ⟨i + 1, by omega, box rfl, by go_num, .inr ⟨_, _, _, _, rfl, hJn, Nat.succ_ne_zero _, hF9⟩⟩
            case measure => have := hkf.out; omega
          by_cases h102 : C ≤ 102
          · skip
            have d48 : decide ((48 : Int) ≤ (C : Int)) = true := decide_eq_true (by omega)
            have e57 : decide ((C : Int) ≤ 57) = false := decide_eq_false (by omega)
            have d97 : decide ((97 : Int) ≤ (C : Int)) = true := decide_eq_true (by omega)
            have e102 : decide ((C : Int) ≤ 102) = true := decide_eq_true (by omega)
            have d65 : decide ((65 : Int) ≤ (C : Int)) = true := decide_eq_true (by omega)
            have e70 : decide ((C : Int) ≤ 70) = false := decide_eq_false (by omega)
            have e0 : decide ((C : Int) - 97 + 10 < 0) = false := decide_eq_false (by omega)
            have hjx : jHex x = some (C - 87) := by rw [hC.out]; unfold jHex; rw [if_neg (by have := hC.out; omega), if_pos (by have := hC.out; omega)]
            have hJn : Box (J = jUnit b s (4 - (i + 1)) (16 * a + (C - 87)) (p' + 1)) := box (by rw [hJ'.out, show 4 - i = 4 - (i + 1) + 1 by omega, jUnit_go hx.out hjx])
            clear hjx
            go_wp2_with (first | (with_reducible refine lst (by with_unfolding_all rfl) (wp_fld0 hF1 Tryd.underlying3 rfl (by with_unfolding_all exact ⟨_, rfl, rfl⟩) rfl ?_)) | (with_reducible refine lst (by with_unfolding_all rfl) (wp_fld0 hF1 Tryd.underlying22 rfl (by with_unfolding_all exact ⟨_, rfl, rfl⟩) rfl ?_)) | ((with_reducible refine lst (by with_unfolding_all rfl) (wp_fst0 hF1 (by with_unfolding_all exact ⟨_, _, rfl, rfl, rfl⟩) (by kernel_rfl) rfl rfl (by rw [rrL_len]; decide) (rrL_at (v := (p' : Int) + 1) (q := p' + 1) (by omega)) ?_)); intro w9 hF9 hz9))
            go_roundg (4 - (i + 1))
            case rel => exact ⟨i + 1, by omega, box rfl, by go_num, .inl ⟨16 * a + (C - 87), p' + 1, by omega, by have := hpi.out; omega, by congr 1; omega, box (by rw [Nat.pow_succ]; have := hA.out; omega), hJn, hF9⟩⟩
            case measure => have := hkf.out; omega
          have d48 : decide ((48 : Int) ≤ (C : Int)) = true := decide_eq_true (by omega)
          have e57 : decide ((C : Int) ≤ 57) = false := decide_eq_false (by omega)
          have d97 : decide ((97 : Int) ≤ (C : Int)) = true := decide_eq_true (by omega)
          have e102 : decide ((C : Int) ≤ 102) = false := decide_eq_false (by omega)
          have d65 : decide ((65 : Int) ≤ (C : Int)) = true := decide_eq_true (by omega)
          have e70 : decide ((C : Int) ≤ 70) = false := decide_eq_false (by omega)
          have hjx : jHex x = none := by unfold jHex; rw [if_neg (by have := hC.out; omega), if_neg (by have := hC.out; omega), if_neg (by have := hC.out; omega)]
          have hJn : Box (J = .error (s, 62)) := box (by rw [hJ'.out, show 4 - i = 4 - (i + 1) + 1 by omega, jUnit_no hx.out hjx])
          clear hjx
          go_wp2_with (first | (with_reducible refine lst (by with_unfolding_all rfl) (wp_fld0 hF1 Tryd.underlying3 rfl (by with_unfolding_all exact ⟨_, rfl, rfl⟩) rfl ?_)) | (with_reducible refine lst (by with_unfolding_all rfl) (wp_fld0 hF1 Tryd.underlying22 rfl (by with_unfolding_all exact ⟨_, rfl, rfl⟩) rfl ?_)))
          refine (rfail_ok g A n c p' m (s, 62) _ (hF1.blk (i := 0) rfl)).mono ?_
          rintro e w2 ⟨rfl, h2⟩
          have hF2 := hF1.putF (i := 0) rfl h2
          simp only [List.set_cons_zero] at hF2
          go_wp2_with (first | (with_reducible refine lst (by with_unfolding_all rfl) (wp_fld0 hF2 Tryd.underlying3 rfl (by with_unfolding_all exact ⟨_, rfl, rfl⟩) rfl ?_)) | (with_reducible refine lst (by with_unfolding_all rfl) (wp_fld0 hF2 Tryd.underlying22 rfl (by with_unfolding_all exact ⟨_, rfl, rfl⟩) rfl ?_)) | ((with_reducible refine lst (by with_unfolding_all rfl) (wp_fst0 hF2 (by with_unfolding_all exact ⟨_, _, rfl, rfl, rfl⟩) (by kernel_rfl) rfl rfl (by rw [rrL_len]; decide) (rrL_at (v := (p' : Int) + 1) (q := p' + 1) (by omega)) ?_)); intro w9 hF9 hz9))
          go_roundg (4 - (i + 1))
          case rel => exact ⟨i + 1, by omega, box rfl, by go_num, .inr ⟨_, _, _, _, rfl, hJn, Nat.succ_ne_zero _, hF9⟩⟩
          case measure => have := hkf.out; omega
        · have hx : Box (b[p']? = none) := box (List.getElem?_eq_none (by rw [hl.out]; omega))
          have hJn : Box (J = .error (n, 9)) := box (by rw [hJ'.out, show 4 - i = 4 - (i + 1) + 1 by omega, jUnit_end hx.out, hl.out])
          go_wp2_with (first | (with_reducible refine lst (by with_unfolding_all rfl) (wp_fld0 hF Tryd.underlying3 rfl (by with_unfolding_all exact ⟨_, rfl, rfl⟩) rfl ?_)) | (with_reducible refine lst (by with_unfolding_all rfl) (wp_fld0 hF Tryd.underlying22 rfl (by with_unfolding_all exact ⟨_, rfl, rfl⟩) rfl ?_)))
          refine (rwant_end hx.out (hF.blk (i := 0) rfl) (hF.rdB hg hB hr)).mono ?_
          rintro e w1 ⟨rfl, h1⟩
          have hF1 := hF.putF (i := 0) rfl h1
          simp only [List.set_cons_zero] at hF1
          go_wp2_with (first | (with_reducible refine lst (by with_unfolding_all rfl) (wp_fld0 hF1 Tryd.underlying3 rfl (by with_unfolding_all exact ⟨_, rfl, rfl⟩) rfl ?_)) | (with_reducible refine lst (by with_unfolding_all rfl) (wp_fld0 hF1 Tryd.underlying22 rfl (by with_unfolding_all exact ⟨_, rfl, rfl⟩) rfl ?_)))
          refine (rfail_bad g A n c p' 9 n m _ _ _ (by decide) (hF1.blk (i := 0) rfl)).mono ?_
          rintro e w2 ⟨rfl, h2⟩
          have hF2 := hF1.putF (i := 0) rfl h2
          simp only [List.set_cons_zero] at hF2
          go_wp2_with (first | (with_reducible refine lst (by with_unfolding_all rfl) (wp_fld0 hF2 Tryd.underlying3 rfl (by with_unfolding_all exact ⟨_, rfl, rfl⟩) rfl ?_)) | (with_reducible refine lst (by with_unfolding_all rfl) (wp_fld0 hF2 Tryd.underlying22 rfl (by with_unfolding_all exact ⟨_, rfl, rfl⟩) rfl ?_)) | ((with_reducible refine lst (by with_unfolding_all rfl) (wp_fst0 hF2 (by with_unfolding_all exact ⟨_, _, rfl, rfl, rfl⟩) (by kernel_rfl) rfl rfl (by rw [rrL_len]; decide) (rrL_at (v := (p' : Int) + 1) (q := p' + 1) (by omega)) ?_)); intro w9 hF9 hz9))
          go_roundg (4 - (i + 1))
          case rel => exact ⟨i + 1, by omega, box rfl, by go_num, .inr ⟨_, _, _, _, rfl, hJn, Nat.succ_ne_zero _, hF9⟩⟩
          case measure => have := hkf.out; omega
      · obtain rfl : 4 = i := by omega
        have hJe : Box (J = .ok a) := box (by rw [hJ'.out]; rfl)
        have hpe := hpi.out
        go_wp2_with (first | (with_reducible refine lst (by with_unfolding_all rfl) (wp_fld0 hF Tryd.underlying3 rfl (by with_unfolding_all exact ⟨_, rfl, rfl⟩) rfl ?_)) | (with_reducible refine lst (by with_unfolding_all rfl) (wp_fld0 hF Tryd.underlying22 rfl (by with_unfolding_all exact ⟨_, rfl, rfl⟩) rfl ?_)))
        go_ret
        unfold RDig
        rw [hJe.out]
        refine ⟨_, rfl, ?_⟩
        exact ⟨rfl, by omega, by rw [← hpe]; exact hF⟩
    · have hf0 : ((x.2 : Int) == 0) = false := by rw [beq_eq_false_iff_ne]; omega
      replace hx2 := box hx2
      by_cases hlt : i < 4
      · go_wp2_with (first | (with_reducible refine lst (by with_unfolding_all rfl) (wp_fld0 hF Tryd.underlying3 rfl (by with_unfolding_all exact ⟨_, rfl, rfl⟩) rfl ?_)) | (with_reducible refine lst (by with_unfolding_all rfl) (wp_fld0 hF Tryd.underlying22 rfl (by with_unfolding_all exact ⟨_, rfl, rfl⟩) rfl ?_)))
        go_ret
        unfold RDig
        rw [hJx.out]
        exact ⟨_, rfl, _, _, hF⟩
      · go_wp2_with (first | (with_reducible refine lst (by with_unfolding_all rfl) (wp_fld0 hF Tryd.underlying3 rfl (by with_unfolding_all exact ⟨_, rfl, rfl⟩) rfl ?_)) | (with_reducible refine lst (by with_unfolding_all rfl) (wp_fld0 hF Tryd.underlying22 rfl (by with_unfolding_all exact ⟨_, rfl, rfl⟩) rfl ?_)))
        go_ret
        unfold RDig
        rw [hJx.out]
        exact ⟨_, rfl, _, _, hF⟩

end Go.Proofs.YtdekogmegdhjoaaDoor

namespace Go.Proofs.YtdekogmegdhjoaaDoor
open Go.RowKit
set_option linter.unusedSimpArgs false

section
variable {P : Program} {o : Oper} {a : Act} {K : Act → World → Prop} {Q : Exit → Act → World → Prop} {X : List Nat} {w0 w : World} {es : List Ent} {sl e : TypeId}
theorem wp_fb2 (T : SlT P sl e 1 1 (.int .u8 0)) (hF : Fr X w0 w es) {p0 p1 : Operand} (ho : o.op = .buildSlice sl 2 #[(0, p0), (1, p1)]) {z0 z1 : Int} {c0 c1 : UInt8} (h0 : z0 = (c0.toNat : Int)) (h1 : z1 = (c1.toNat : Int)) (v0 : a.eval p0 = .int .u8 z0) (v1 : a.eval p1 = .int .u8 z1)
    (k : ∀ w' g, Fr X w0 w' (Ent.bytes w0.heap.size e (.slice (some ⟨g, 0, none⟩) 2 2) [c0, c1] :: es) → w'.heap.size = w.heap.size + 1 → K (a.put o.dst (.slice (some ⟨g, 0, none⟩) 2 2)) w') : o.wp P a w K Q := by
  subst h0 h1
  exact wp_fbsl T hF ho (vs := [bv c0, bv c1]) (by simp [v0, v1, parts, bv]) rfl (by decide) (by simp [bv, Value.cells]) k
theorem wp_fb3 (T : SlT P sl e 1 1 (.int .u8 0)) (hF : Fr X w0 w es) {p0 p1 p2 : Operand} (ho : o.op = .buildSlice sl 3 #[(0, p0), (1, p1), (2, p2)]) {z0 z1 z2 : Int} {c0 c1 c2 : UInt8} (h0 : z0 = (c0.toNat : Int)) (h1 : z1 = (c1.toNat : Int)) (h2 : z2 = (c2.toNat : Int)) (v0 : a.eval p0 = .int .u8 z0) (v1 : a.eval p1 = .int .u8 z1) (v2 : a.eval p2 = .int .u8 z2)
    (k : ∀ w' g, Fr X w0 w' (Ent.bytes w0.heap.size e (.slice (some ⟨g, 0, none⟩) 3 3) [c0, c1, c2] :: es) → w'.heap.size = w.heap.size + 1 → K (a.put o.dst (.slice (some ⟨g, 0, none⟩) 3 3)) w') : o.wp P a w K Q := by
  subst h0 h1 h2
  exact wp_fbsl T hF ho (vs := [bv c0, bv c1, bv c2]) (by simp [v0, v1, v2, parts, bv]) rfl (by decide) (by simp [bv, Value.cells]) k
theorem wp_fb4 (T : SlT P sl e 1 1 (.int .u8 0)) (hF : Fr X w0 w es) {p0 p1 p2 p3 : Operand} (ho : o.op = .buildSlice sl 4 #[(0, p0), (1, p1), (2, p2), (3, p3)]) {z0 z1 z2 z3 : Int} {c0 c1 c2 c3 : UInt8} (h0 : z0 = (c0.toNat : Int)) (h1 : z1 = (c1.toNat : Int)) (h2 : z2 = (c2.toNat : Int)) (h3 : z3 = (c3.toNat : Int)) (v0 : a.eval p0 = .int .u8 z0) (v1 : a.eval p1 = .int .u8 z1) (v2 : a.eval p2 = .int .u8 z2) (v3 : a.eval p3 = .int .u8 z3)
    (k : ∀ w' g, Fr X w0 w' (Ent.bytes w0.heap.size e (.slice (some ⟨g, 0, none⟩) 4 4) [c0, c1, c2, c3] :: es) → w'.heap.size = w.heap.size + 1 → K (a.put o.dst (.slice (some ⟨g, 0, none⟩) 4 4)) w') : o.wp P a w K Q := by
  subst h0 h1 h2 h3
  exact wp_fbsl T hF ho (vs := [bv c0, bv c1, bv c2, bv c3]) (by simp [v0, v1, v2, v3, parts, bv]) rfl (by decide) (by simp [bv, Value.cells]) k
end

set_option maxRecDepth 20000 in
set_option maxHeartbeats 3200000 in
theorem rsign_any (u : Nat) (w : World) (hu : u < 1114112) :
    Calls Tryd.prog 71 #[.int .i64 (u : Int)] w fun e w' => ∃ v, e = .returned v ∧ Fr [] w w' [Ent.bytes w.heap.size 5 v (jSign u)] := by
  have hF0 := Fr.nil w
  by_cases h1 : u < 128
  · have d1 : decide ((u : Int) < 128) = true := decide_eq_true (by omega)
    obtain ⟨c0, hc0⟩ : ∃ c, c = UInt8.ofNat (u) := ⟨_, rfl⟩
    have hz0 : Box ((u : Int) = (c0.toNat : Int)) := box (by rw [hc0, UInt8.toNat_ofNat']; omega)
    have hjs : Box (jSign u = [c0]) := box (by unfold jSign; rw [if_pos (by omega)]; rw [hc0])
    replace hc0 := box hc0
    go_enter Tryd.func71, Tryd.ntmps71
    go_wp2_with (first | ((with_reducible refine lst (by with_unfolding_all rfl) (wp_fb1 T_u8 hF0 rfl hz0.out (by with_unfolding_all rfl) ?_)); intro w2 g2 hF2 hz2))
    go_ret
    exact ⟨_, rfl, by rw [hjs.out]; exact hF2⟩
  have d1 : decide ((u : Int) < 128) = false := decide_eq_false (by omega)
  by_cases h2 : u < 2048
  · have d2 : decide ((u : Int) < 2048) = true := decide_eq_true (by omega)
    obtain ⟨c0, hc0⟩ : ∃ c, c = UInt8.ofNat (192 + u / 64) := ⟨_, rfl⟩
    have hz0 : Box (192 + (u : Int) / 64 = (c0.toNat : Int)) := box (by rw [hc0, UInt8.toNat_ofNat']; omega)
    obtain ⟨c1, hc1⟩ : ∃ c, c = UInt8.ofNat (128 + u % 64) := ⟨_, rfl⟩
    have hz1 : Box (128 + (u : Int) % 64 = (c1.toNat : Int)) := box (by rw [hc1, UInt8.toNat_ofNat']; omega)
    have hjs : Box (jSign u = [c0, c1]) := box (by unfold jSign; rw [if_neg (by omega), if_pos (by omega)]; rw [hc0, hc1])
    replace hc0 := box hc0
    replace hc1 := box hc1
    go_enter Tryd.func71, Tryd.ntmps71
    go_wp2_with (first | ((with_reducible refine lst (by with_unfolding_all rfl) (wp_fb2 T_u8 hF0 rfl hz0.out hz1.out (by with_unfolding_all rfl) (by with_unfolding_all rfl) ?_)); intro w2 g2 hF2 hz2))
    go_ret
    exact ⟨_, rfl, by rw [hjs.out]; exact hF2⟩
  have d2 : decide ((u : Int) < 2048) = false := decide_eq_false (by omega)
  by_cases h3 : u < 65536
  · have d3 : decide ((u : Int) < 65536) = true := decide_eq_true (by omega)
    obtain ⟨c0, hc0⟩ : ∃ c, c = UInt8.ofNat (224 + u / 4096) := ⟨_, rfl⟩
    have hz0 : Box (224 + (u : Int) / 4096 = (c0.toNat : Int)) := box (by rw [hc0, UInt8.toNat_ofNat']; omega)
    obtain ⟨c1, hc1⟩ : ∃ c, c = UInt8.ofNat (128 + u / 64 % 64) := ⟨_, rfl⟩
    have hz1 : Box (128 + (u : Int) / 64 % 64 = (c1.toNat : Int)) := box (by rw [hc1, UInt8.toNat_ofNat']; omega)
    obtain ⟨c2, hc2⟩ : ∃ c, c = UInt8.ofNat (128 + u % 64) := ⟨_, rfl⟩
    have hz2 : Box (128 + (u : Int) % 64 = (c2.toNat : Int)) := box (by rw [hc2, UInt8.toNat_ofNat']; omega)
    have hjs : Box (jSign u = [c0, c1, c2]) := box (by unfold jSign; rw [if_neg (by omega), if_neg (by omega), if_pos (by omega)]; rw [hc0, hc1, hc2])
    replace hc0 := box hc0
    replace hc1 := box hc1
    replace hc2 := box hc2
    go_enter Tryd.func71, Tryd.ntmps71
    go_wp2_with (first | ((with_reducible refine lst (by with_unfolding_all rfl) (wp_fb3 T_u8 hF0 rfl hz0.out hz1.out hz2.out (by with_unfolding_all rfl) (by with_unfolding_all rfl) (by with_unfolding_all rfl) ?_)); intro w2 g2 hF2 hz2))
    go_ret
    exact ⟨_, rfl, by rw [hjs.out]; exact hF2⟩
  have d3 : decide ((u : Int) < 65536) = false := decide_eq_false (by omega)
  obtain ⟨c0, hc0⟩ : ∃ c, c = UInt8.ofNat (240 + u / 262144) := ⟨_, rfl⟩
  have hz0 : Box (240 + (u : Int) / 262144 = (c0.toNat : Int)) := box (by rw [hc0, UInt8.toNat_ofNat']; omega)
  obtain ⟨c1, hc1⟩ : ∃ c, c = UInt8.ofNat (128 + u / 4096 % 64) := ⟨_, rfl⟩
  have hz1 : Box (128 + (u : Int) / 4096 % 64 = (c1.toNat : Int)) := box (by rw [hc1, UInt8.toNat_ofNat']; omega)
  obtain ⟨c2, hc2⟩ : ∃ c, c = UInt8.ofNat (128 + u / 64 % 64) := ⟨_, rfl⟩
  have hz2 : Box (128 + (u : Int) / 64 % 64 = (c2.toNat : Int)) := box (by rw [hc2, UInt8.toNat_ofNat']; omega)
  obtain ⟨c3, hc3⟩ : ∃ c, c = UInt8.ofNat (128 + u % 64) := ⟨_, rfl⟩
  have hz3 : Box (128 + (u : Int) % 64 = (c3.toNat : Int)) := box (by rw [hc3, UInt8.toNat_ofNat']; omega)
  have hjs : Box (jSign u = [c0, c1, c2, c3]) := box (by unfold jSign; rw [if_neg (by omega), if_neg (by omega), if_neg (by omega)]; rw [hc0, hc1, hc2, hc3])
  replace hc0 := box hc0
  replace hc1 := box hc1
  replace hc2 := box hc2
  replace hc3 := box hc3
  go_enter Tryd.func71, Tryd.ntmps71
  go_wp2_with (first | ((with_reducible refine lst (by with_unfolding_all rfl) (wp_fb4 T_u8 hF0 rfl hz0.out hz1.out hz2.out hz3.out (by with_unfolding_all rfl) (by with_unfolding_all rfl) (by with_unfolding_all rfl) (by with_unfolding_all rfl) ?_)); intro w2 g2 hF2 hz2))
  go_ret
  exact ⟨_, rfl, by rw [hjs.out]; exact hF2⟩

end Go.Proofs.YtdekogmegdhjoaaDoor
