/-
  Layer 6: the document's reader: an escape.
  Layer 6: the document's Size and Valid, walked.
-/
import Derived.Test.YtdekogmegdhjoaaDoorM14
import Derived.Test.YtdekogmegdhjoaaDoorM04
import Derived.Test.YtdekogmegdhjoaaDoorM05
import Derived.Test.YtdekogmegdhjoaaDoorM11
import Derived.Lib.ValidLaws
namespace Go.Proofs.YtdekogmegdhjoaaDoor
open Go.RowKit
set_option linter.unusedSimpArgs false

theorem T_ints : SlT Tryd.prog 110 3 1 8 (.int .i64 0) := ⟨Tryd.underlying110, by kernel_rfl, rfl, by decide⟩
theorem jUnit_err {b : List UInt8} {s : Nat} : ∀ {k a p : Nat} {x : Nat × Nat}, jUnit b s k a p = .error x → x.2 ≠ 0
  | 0, a, p, x, h => by rw [jUnit] at h; cases h
  | k + 1, a, p, x, h => by
    rw [jUnit] at h
    cases hx : b[p]? with
    | none => rw [hx] at h; cases h; exact Nat.succ_ne_zero _
    | some c =>
      rw [hx] at h
      simp only [] at h
      cases hc : jHex c with
      | none => rw [hc] at h; cases h; exact Nat.succ_ne_zero _
      | some d => rw [hc] at h; exact jUnit_err h
theorem jEscape_short {b : List UInt8} {p i : Nat} {K M x : UInt8} (hx : b[p + 1]? = some x) (hK : ([34, 92, 47, 98, 102, 110, 114, 116] : List UInt8)[i]? = some K) (hM : ([34, 92, 47, 8, 12, 10, 13, 9] : List UInt8)[i]? = some M) (h : x = K) : jEscape b p = .ok ([M], p + 2) := by
  subst h
  unfold jEscape
  rw [hx]
  match i, hK, hM with
  | 0, hK, hM => obtain rfl := Option.some.inj hK; obtain rfl := Option.some.inj hM; rfl
  | 1, hK, hM => obtain rfl := Option.some.inj hK; obtain rfl := Option.some.inj hM; rfl
  | 2, hK, hM => obtain rfl := Option.some.inj hK; obtain rfl := Option.some.inj hM; rfl
  | 3, hK, hM => obtain rfl := Option.some.inj hK; obtain rfl := Option.some.inj hM; rfl
  | 4, hK, hM => obtain rfl := Option.some.inj hK; obtain rfl := Option.some.inj hM; rfl
  | 5, hK, hM => obtain rfl := Option.some.inj hK; obtain rfl := Option.some.inj hM; rfl
  | 6, hK, hM => obtain rfl := Option.some.inj hK; obtain rfl := Option.some.inj hM; rfl
  | 7, hK, hM => obtain rfl := Option.some.inj hK; obtain rfl := Option.some.inj hM; rfl
  | k + 8, hK, _ => simp at hK
theorem jEscape_no {b : List UInt8} {p : Nat} {x : UInt8} (hx : b[p + 1]? = some x) (hno : ∀ (j : Nat) (K : UInt8), j < 8 → ([34, 92, 47, 98, 102, 110, 114, 116] : List UInt8)[j]? = some K → x ≠ K) (h : x ≠ 117) : jEscape b p = .error (p, 62) := by
  have h0 := hno 0 34 (by omega) rfl
  have h1 := hno 1 92 (by omega) rfl
  have h2 := hno 2 47 (by omega) rfl
  have h3 := hno 3 98 (by omega) rfl
  have h4 := hno 4 102 (by omega) rfl
  have h5 := hno 5 110 (by omega) rfl
  have h6 := hno 6 114 (by omega) rfl
  have h7 := hno 7 116 (by omega) rfl
  unfold jEscape
  rw [hx]
  simp [h0, h1, h2, h3, h4, h5, h6, h7, h]
theorem jEscape_err {b : List UInt8} {p : Nat} {z : Nat × Nat} (h : jEscape b p = .error z) : z.2 ≠ 0 := by
  unfold jEscape at h
  cases hx : b[p + 1]? with
  | none => rw [hx] at h; cases h; exact Nat.succ_ne_zero _
  | some x =>
    by_cases hu : x = 117
    · subst hu
      change jEscape b p = .error z at h
      rw [jEscape_u hx] at h
      cases hU : jUnit b p 4 0 (p + 2) with
      | error y => rw [hU] at h; cases h; exact jUnit_err hU
      | ok N =>
        rw [hU] at h
        simp only [] at h
        split at h
        · unfold jEsc0 at h
          cases h6 : b[p + 6]? with
          | none => rw [h6] at h; cases h; exact Nat.succ_ne_zero _
          | some y =>
            rw [h6] at h
            simp only [] at h
            split at h
            · cases h; exact Nat.succ_ne_zero _
            · unfold jEsc1 at h
              cases h7 : b[p + 7]? with
              | none => rw [h7] at h; cases h; exact Nat.succ_ne_zero _
              | some y7 =>
                rw [h7] at h
                simp only [] at h
                split at h
                · cases h; exact Nat.succ_ne_zero _
                · unfold jEsc2 at h
                  cases hM : jUnit b p 4 0 (p + 8) with
                  | error y => rw [hM] at h; cases h; exact jUnit_err hM
                  | ok M =>
                    rw [hM] at h
                    simp only [] at h
                    split at h
                    · cases h
                    · cases h; exact Nat.succ_ne_zero _
        · split at h
          · cases h; exact Nat.succ_ne_zero _
          · cases h
    · rw [hx] at h
      simp only [] at h
      repeat (first | (split at h; · cases h))
      first | (rw [if_neg hu] at h; cases h; exact Nat.succ_ne_zero _) | (cases h; exact Nat.succ_ne_zero _)

/-- What an escape tells. -/
def REsc (w : World) (g : Nat) (A : Option Addr) (n c m : Nat) (J : JR (List UInt8 × Nat)) (e : Ending) (w' : World) : Prop :=
  match J with
  | .ok r => ∃ v bb, e = .returned v ∧ Fr [g] w w' [Ent.bytes bb 5 v r.1, .blk g 68 (rrL A n c r.2 0 0 m)]
  | .error x => e = .returned (.slice none 0 0) ∧ ∃ p' m', Fr [g] w w' [.blk g 68 (rrL A n c p' x.2 x.1 m')]
set_option maxRecDepth 20000 in
set_option maxHeartbeats 3200000 in
theorem rescape_end (g : Nat) (A : Option Addr) (n c p m B : Nat) (b : List UInt8) (w : World) (hx : b[p + 1]? = none) (hh : w.heap[g]? = some (.cells (rrL A n c p 0 0 m).toArray 68 (0, 0))) (hg : B ≤ g) (hB : B ≤ w.heap.size) (hn : n ≤ 65536) (hp : p ≤ n) (hr : Rd w (· < B) A 1 n (b.map bv)) :
    Calls Tryd.prog 58 #[.pointer (some ⟨g, 0, none⟩)] w (REsc w g A n c m (jEscape b p)) := by
  have hje : jEscape b p = .error (b.length, 9) := by unfold jEscape; rw [hx]
  have hl := box hr.bytes_len
  have hF0 := Fr.one hh
  clear hh
  replace hje := box hje
  go_enter Tryd.func58, Tryd.ntmps58
  go_wp2_with (first | (with_reducible refine lst (by with_unfolding_all rfl) (wp_fld0 hF0 Tryd.underlying3 rfl (by with_unfolding_all exact ⟨_, rfl, rfl⟩) rfl ?_)) | (with_reducible refine lst (by with_unfolding_all rfl) (wp_fld0 hF0 Tryd.underlying22 rfl (by with_unfolding_all exact ⟨_, rfl, rfl⟩) rfl ?_)) | ((with_reducible refine lst (by with_unfolding_all rfl) (wp_fst0 hF0 (by with_unfolding_all exact ⟨_, _, rfl, rfl, rfl⟩) (by kernel_rfl) rfl rfl (by rw [rrL_len]; decide) (rrL_at (v := (p : Int) + 1) (q := p + 1) (by omega)) ?_)); intro w1 hF1 hz1))
  refine (rwant_end hx (hF1.blk (i := 0) rfl) (hF1.rdB hg hB hr)).mono ?_
  rintro e w2 ⟨rfl, h2⟩
  have hF2 := hF1.putF (i := 0) rfl h2
  simp only [List.set_cons_zero] at hF2
  go_wp2_with (first | (with_reducible refine lst (by with_unfolding_all rfl) (wp_fld0 hF2 Tryd.underlying3 rfl (by with_unfolding_all exact ⟨_, rfl, rfl⟩) rfl ?_)) | (with_reducible refine lst (by with_unfolding_all rfl) (wp_fld0 hF2 Tryd.underlying22 rfl (by with_unfolding_all exact ⟨_, rfl, rfl⟩) rfl ?_)))
  go_ret
  unfold REsc
  rw [hje.out, hl.out]
  exact ⟨rfl, _, _, hF2⟩

set_option maxRecDepth 20000 in
set_option maxHeartbeats 12800000 in
theorem rescape_in (g : Nat) (A : Option Addr) (n c p m B : Nat) (b : List UInt8) (x : UInt8) (w : World) (hx' : b[p + 1]? = some x) (hh : w.heap[g]? = some (.cells (rrL A n c p 0 0 m).toArray 68 (0, 0))) (hg : B ≤ g) (hB : B ≤ w.heap.size) (hn : n ≤ 65536) (hr : Rd w (· < B) A 1 n (b.map bv)) :
    Calls Tryd.prog 58 #[.pointer (some ⟨g, 0, none⟩)] w (REsc w g A n c m (jEscape b p)) := by
  have hl := box hr.bytes_len
  have hpl := (List.getElem?_eq_some_iff.1 hx').1
  rw [hl.out] at hpl
  have hF0 := Fr.one hh
  have hx := box hx'
  have hwa := box (fun w' (hF : Fr [g] w w' [.blk g 68 (rrL A n c (p + 1) 0 0 m)]) => rwant_in hx' (hF.blk (i := 0) rfl) (hF.rdB hg hB hr))
  have hxl := x.toNat_lt
  clear hh hx'
  go_enter Tryd.func58, Tryd.ntmps58
  go_wp2_with (first | (with_reducible refine lst (by with_unfolding_all rfl) (wp_fld0 hF0 Tryd.underlying3 rfl (by with_unfolding_all exact ⟨_, rfl, rfl⟩) rfl ?_)) | (with_reducible refine lst (by with_unfolding_all rfl) (wp_fld0 hF0 Tryd.underlying22 rfl (by with_unfolding_all exact ⟨_, rfl, rfl⟩) rfl ?_)) | ((with_reducible refine lst (by with_unfolding_all rfl) (wp_fst0 hF0 (by with_unfolding_all exact ⟨_, _, rfl, rfl, rfl⟩) (by kernel_rfl) rfl rfl (by rw [rrL_len]; decide) (rrL_at (v := (p : Int) + 1) (q := p + 1) (by omega)) ?_)); intro w1 hF1 hz1))
  refine (hwa.out _ hF1).mono ?_
  rintro e w2 ⟨rfl, h2⟩
  have hF2 := hF1.putF (i := 0) rfl h2
  simp only [List.set_cons_zero] at hF2
  clear hwa
  go_wp2_with (first | (with_reducible refine lst (by with_unfolding_all rfl) (wp_fld0 hF2 Tryd.underlying3 rfl (by with_unfolding_all exact ⟨_, rfl, rfl⟩) rfl ?_)) | (with_reducible refine lst (by with_unfolding_all rfl) (wp_fld0 hF2 Tryd.underlying22 rfl (by with_unfolding_all exact ⟨_, rfl, rfl⟩) rfl ?_)) | ((with_reducible refine lst (by with_unfolding_all rfl) (wp_fst0 hF2 (by with_unfolding_all exact ⟨_, _, rfl, rfl, rfl⟩) (by kernel_rfl) rfl rfl (by rw [rrL_len]; decide) (rrL_at (v := (p + 1 : Int) + 1) (q := p + 2) (by omega)) ?_)); intro w3 hF3 hz3))
  clear hF0 hF1 hF2
  go_loopg [7] 8 (fun gk iv wr => ∃ i : Nat, i ≤ 8 ∧ Box (gk = 8 - i) ∧ iv = .int .i64 (i : Int) ∧ Box (∀ (j : Nat) (K : UInt8), j < i → ([34, 92, 47, 98, 102, 110, 114, 116] : List UInt8)[j]? = some K → x ≠ K) ∧ Fr [g] w wr [.blk g 68 (rrL A n c (p + 2) 0 0 m)])
  case atStart => exact ⟨0, by omega, box rfl, rfl, box (fun j K h => absurd h (by omega)), hF3⟩
  case round =>
    obtain ⟨i, hi, hk, rfl, hno, hF⟩ := hrel
    have hkf : Box (gk = 8 - i) := hk
    clear hk hF3
    by_cases hlt : i < 8
    · obtain ⟨K, hK⟩ : ∃ K, ([34, 92, 47, 98, 102, 110, 114, 116] : List UInt8)[i]? = some K := ⟨([34, 92, 47, 98, 102, 110, 114, 116] : List UInt8)[i]'(by simpa using hlt), by simp⟩
      obtain ⟨M, hM⟩ : ∃ K, ([34, 92, 47, 8, 12, 10, 13, 9] : List UInt8)[i]? = some K := ⟨([34, 92, 47, 8, 12, 10, 13, 9] : List UInt8)[i]'(by simpa using hlt), by simp⟩
      have hsK : Box ((ByteArray.mk #[34, 92, 47, 98, 102, 110, 114, 116]).data.toList[i]? = some K) := box hK
      have hsM : Box ((ByteArray.mk #[34, 92, 47, 8, 12, 10, 13, 9]).data.toList[i]? = some M) := box hM
      by_cases hxK : x = K
      · have hq : ((x.toNat : Int) == wrap64 (K.toNat : Int)) = true := by rw [hxK, (show wrap64 (K.toNat : Int) = (K.toNat : Int) by have := K.toNat_lt; unfold wrap64; omega)]; simp
        have hJ := box (jEscape_short hx.out hK hM hxK)
        clear hK hM
        replace hxK := box hxK
        go_wp2_with (first | ((with_reducible refine lst (by with_unfolding_all rfl) (wp_sidx Tryd.underlying9 (k := i) rfl hsK.out (by with_unfolding_all exact ⟨_, _, _, rfl, rfl, rfl⟩) ?_))) | ((with_reducible refine lst (by with_unfolding_all rfl) (wp_sidx Tryd.underlying9 (k := i) rfl hsM.out (by with_unfolding_all exact ⟨_, _, _, rfl, rfl, rfl⟩) ?_))) | ((with_reducible refine lst (by with_unfolding_all rfl) (wp_fbsl T_u8 hF (vs := [bv M]) (by with_unfolding_all rfl) (by with_unfolding_all rfl) (by with_unfolding_all rfl) (by decide) (by simp [bv, Value.cells]) ?_)); intro w5 g5 hF5 hz5; have hr5 : Rd w5 (· < w5.heap.size) (some ⟨g5, 0, none⟩) 1 1 ([M].map bv) := hF5.rdOwn0; replace hF5 : Fr _ _ w5 (Ent.bytes _ 5 (.slice (some ⟨g5, 0, none⟩) 1 1) [M] :: _) := hF5))
        go_ret
        unfold REsc
        rw [hJ.out]
        exact ⟨_, _, rfl, hF5⟩
      · have hq : ((x.toNat : Int) == wrap64 (K.toNat : Int)) = false := by
          rw [(show wrap64 (K.toNat : Int) = (K.toNat : Int) by have := K.toNat_lt; unfold wrap64; omega), beq_eq_false_iff_ne]; intro h; exact hxK (UInt8.toNat_inj.1 (by omega))
        have hno' : Box (∀ (j : Nat) (K : UInt8), j < i + 1 → ([34, 92, 47, 98, 102, 110, 114, 116] : List UInt8)[j]? = some K → x ≠ K) := box (by
          intro j K' hj hK'
          rcases Nat.lt_succ_iff_lt_or_eq.1 hj with h | h
          · exact hno.out j K' h hK'
          · rw [h, hK] at hK'; rw [← Option.some.inj hK']; exact hxK)
        clear hK hM
        replace hxK := box hxK
        go_wp2_with (first | ((with_reducible refine lst (by with_unfolding_all rfl) (wp_sidx Tryd.underlying9 (k := i) rfl hsK.out (by with_unfolding_all exact ⟨_, _, _, rfl, rfl, rfl⟩) ?_))))
        go_roundg (8 - (i + 1))
        case rel => exact ⟨i + 1, by omega, box rfl, by go_num, hno', hF⟩
        case measure => have := hkf.out; omega
    · obtain rfl : 8 = i := by omega
      by_cases h117 : x = 117
      · subst h117
        have hj := jEscape_u hx.out
        have hdg := box (rdigits_ok g A n c (p + 2) m p B b wr (hF.blk (i := 0) rfl) hg (Nat.le_trans hB hF.size) hn (by omega) (hF.rdB hg hB hr))
        cases hU : jUnit b p 4 0 (p + 2) with
        | error z =>
          have hz2 := jUnit_err hU
          rw [hU] at hj hdg
          replace hj := box hj
          have hz1 : ((z.2 : Int) != 0) = true := by rw [bne_iff_ne]; omega
          replace hz2 := box hz2
          clear hU
          go_wp2_with fail
          refine hdg.out.mono ?_
          rintro e w4 ⟨zz, rfl, p4, m4, h4⟩
          have hF4 := hF.putF (i := 0) rfl h4
          simp only [List.set_cons_zero] at hF4
          go_wp2_with (first | (with_reducible refine lst (by with_unfolding_all rfl) (wp_fld0 hF4 Tryd.underlying3 rfl (by with_unfolding_all exact ⟨_, rfl, rfl⟩) rfl ?_)) | (with_reducible refine lst (by with_unfolding_all rfl) (wp_fld0 hF4 Tryd.underlying22 rfl (by with_unfolding_all exact ⟨_, rfl, rfl⟩) rfl ?_)))
          go_ret
          unfold REsc
          rw [hj.out]
          exact ⟨rfl, _, _, hF4⟩
        | ok N =>
          have hN1 := jUnit_lt (N := 0) (j := 0) (by decide) hU
          have hN65 : N < 65536 := hN1.1
          rw [hU] at hj hdg
          simp only [] at hj
          replace hj := box hj
          clear hU hN1
          go_wp2_with fail
          refine hdg.out.mono ?_
          rintro e w4 ⟨zz, rfl, rfl, hp6', h4⟩
          have hF5 := hF.putF (i := 0) rfl h4
          simp only [List.set_cons_zero] at hF5
          have hp6 : p + 6 ≤ n := by omega
          clear hp6' hdg
          by_cases h1 : N < 55296
          · have hJ : Box (jEscape b p = .ok (jSign N, p + 6)) := box (by rw [hj.out, if_neg (by omega), if_neg (by omega)])
            have hd1 : decide ((N : Int) < 55296) = true := decide_eq_true (by omega)
            have hsg := box (fun w => rsign_any N w (by omega))
            clear hN65
            go_wp2_with (first | (with_reducible refine lst (by with_unfolding_all rfl) (wp_fld0 hF5 Tryd.underlying3 rfl (by with_unfolding_all exact ⟨_, rfl, rfl⟩) rfl ?_)) | (with_reducible refine lst (by with_unfolding_all rfl) (wp_fld0 hF5 Tryd.underlying22 rfl (by with_unfolding_all exact ⟨_, rfl, rfl⟩) rfl ?_)))
            refine (hsg.out _).mono ?_
            rintro e w6 ⟨v6, rfl, hS⟩
            have hF6 := hF5.join hS
            go_wp2_with fail
            go_ret
            unfold REsc
            rw [hJ.out]
            exact ⟨_, _, rfl, hF6⟩
          by_cases h2 : 57344 ≤ N
          · have hJ : Box (jEscape b p = .ok (jSign N, p + 6)) := box (by rw [hj.out, if_neg (by omega), if_neg (by omega)])
            have hd1 : decide ((N : Int) < 55296) = false := decide_eq_false (by omega)
            have hd2 : decide ((57344 : Int) ≤ (N : Int)) = true := decide_eq_true (by omega)
            have hsg := box (fun w => rsign_any N w (by omega))
            clear hN65
            go_wp2_with (first | (with_reducible refine lst (by with_unfolding_all rfl) (wp_fld0 hF5 Tryd.underlying3 rfl (by with_unfolding_all exact ⟨_, rfl, rfl⟩) rfl ?_)) | (with_reducible refine lst (by with_unfolding_all rfl) (wp_fld0 hF5 Tryd.underlying22 rfl (by with_unfolding_all exact ⟨_, rfl, rfl⟩) rfl ?_)))
            refine (hsg.out _).mono ?_
            rintro e w6 ⟨v6, rfl, hS⟩
            have hF6 := hF5.join hS
            go_wp2_with fail
            go_ret
            unfold REsc
            rw [hJ.out]
            exact ⟨_, _, rfl, hF6⟩
          by_cases h3 : 56320 ≤ N
          · have hJ : Box (jEscape b p = .error (p, 62)) := box (by rw [hj.out, if_neg (by omega), if_pos (by omega)])
            have hd1 : decide ((N : Int) < 55296) = false := decide_eq_false (by omega)
            have hd2 : decide ((57344 : Int) ≤ (N : Int)) = false := decide_eq_false (by omega)
            have hd3 : decide ((56320 : Int) ≤ (N : Int)) = true := decide_eq_true (by omega)
            clear hN65
            go_wp2_with (first | (with_reducible refine lst (by with_unfolding_all rfl) (wp_fld0 hF5 Tryd.underlying3 rfl (by with_unfolding_all exact ⟨_, rfl, rfl⟩) rfl ?_)) | (with_reducible refine lst (by with_unfolding_all rfl) (wp_fld0 hF5 Tryd.underlying22 rfl (by with_unfolding_all exact ⟨_, rfl, rfl⟩) rfl ?_)))
            refine (rfail_ok g A n c (p + 6) m (p, 62) _ (hF5.blk (i := 0) rfl)).mono ?_
            rintro e w6 ⟨rfl, h6⟩
            have hF6 := hF5.putF (i := 0) rfl h6
            simp only [List.set_cons_zero] at hF6
            go_wp2_with fail
            go_ret
            unfold REsc
            rw [hJ.out]
            exact ⟨rfl, _, _, hF6⟩
          have hJ0 : Box (jEscape b p = jEsc0 b p N) := box (by rw [hj.out, if_pos (by omega)])
          have hd1 : decide ((N : Int) < 55296) = false := decide_eq_false (by omega)
          have hd2 : decide ((57344 : Int) ≤ (N : Int)) = false := decide_eq_false (by omega)
          have hd3 : decide ((56320 : Int) ≤ (N : Int)) = false := decide_eq_false (by omega)
          clear hj
          replace h1 := box h1
          replace h3 := box h3
          go_wp2_with (first | (with_reducible refine lst (by with_unfolding_all rfl) (wp_fld0 hF5 Tryd.underlying3 rfl (by with_unfolding_all exact ⟨_, rfl, rfl⟩) rfl ?_)) | (with_reducible refine lst (by with_unfolding_all rfl) (wp_fld0 hF5 Tryd.underlying22 rfl (by with_unfolding_all exact ⟨_, rfl, rfl⟩) rfl ?_)) | ((with_reducible refine lst (by with_unfolding_all rfl) (wp_fbsl T_ints hF5 (vs := [.int .i64 92, .int .i64 117]) (by with_unfolding_all rfl) (by with_unfolding_all rfl) (by with_unfolding_all rfl) (by decide) (by simp [Value.cells]) ?_)); intro w6 g6 hF6 hz6))
          clear hF5 hd1 hd2 hd3
          replace h2 := box h2
          go_loopg [10] 2 (fun gk iv wr => ∃ j : Nat, j ≤ 2 ∧ Box (gk = 2 - j) ∧ iv = .int .i64 (j : Int) ∧ p + 6 + j ≤ n ∧ Box (jEscape b p = jEscJ b p N j) ∧ Fr [g] w wr [.own w.heap.size 3 1 (.slice (some ⟨g6, 0, none⟩) 2 2) 2 [.int .i64 92, .int .i64 117], .blk g 68 (rrL A n c (p + 6 + j) 0 0 m)])
          case atStart => exact ⟨0, by omega, box rfl, rfl, hp6, hJ0, hF6⟩
          case round =>
            obtain ⟨j, hj2, hkj, rfl, hpn, hJj, hF⟩ := hrel
            have hkg : Box (gk = 2 - j) := hkj
            clear hkj hF6
            by_cases hjlt : j < 2
            · obtain ⟨K, hK⟩ : ∃ K : UInt8, ([92, 117] : List UInt8)[j]? = some K := ⟨[92, 117][j]'(by simpa using hjlt), by simp⟩
              have hKi : Box (([.int .i64 92, .int .i64 117] : List Value)[j]? = some (.int .i64 (K.toNat : Int))) := box (by match j, hjlt, hK with | 0, _, h => obtain rfl := Option.some.inj h; rfl | 1, _, h => obtain rfl := Option.some.inj h; rfl)
              cases hy' : b[p + 6 + j]? with
              | some y =>
                have hyl := y.toNat_lt
                have hwa := box (rwant_in hy' (hF.blk (i := 1) rfl) (hF.rdB hg hB hr))
                have hplt := (List.getElem?_eq_some_iff.1 hy').1
                rw [hl.out] at hplt
                by_cases hyK : y = K
                · have hq : ((y.toNat : Int) != (K.toNat : Int)) = false := by rw [hyK]; simp
                  have hgo : Box (jEscape b p = jEscJ b p N (j + 1)) := box (by rw [hJj.out, jEscJ_step hjlt hK hy', if_pos hyK])
                  clear hy' hK
                  replace hyK := box hyK
                  go_wp2_with fail
                  refine hwa.out.mono ?_
                  rintro e w7 ⟨rfl, h7⟩
                  have hF7 := hF.putF (i := 1) rfl h7
                  simp only [List.set_cons_zero, List.set_cons_succ] at hF7
                  go_wp2_with (first | (with_reducible refine lst (by with_unfolding_all rfl) (wp_fld1 hF7 Tryd.underlying3 rfl (by with_unfolding_all exact ⟨_, rfl, rfl⟩) rfl ?_)) | (with_reducible refine lst (by with_unfolding_all rfl) (wp_indexAddr T_ints (hF7.rdOwn (i := 0) rfl) (by with_unfolding_all exact ⟨_, _, _, _, rfl, rfl, rfl⟩) (by omega) (by omega) ?_)) | (with_reducible refine lst (by with_unfolding_all rfl) (wp_load1C (hF7.rdOwn (i := 0) rfl) hKi Tryd.underlying3 rfl (by with_unfolding_all exact ⟨_, rfl, rfl⟩) (by first | (simp; done) | (simp; omega) | omega) ?_)) | ((with_reducible refine lst (by with_unfolding_all rfl) (wp_fst1 hF7 (by with_unfolding_all exact ⟨_, _, rfl, rfl, rfl⟩) (by kernel_rfl) rfl rfl (by rw [rrL_len]; decide) (rrL_at (v := (p + 6 + j : Int) + 1) (q := p + 6 + (j + 1)) (by omega)) ?_)); intro w8 hF8 hz8))
                  go_roundg (2 - (j + 1))
                  case rel => exact ⟨j + 1, by omega, box rfl, by go_num, by omega, hgo, hF8⟩
                  case measure => have := hkg.out; omega
                · have hq : ((y.toNat : Int) != (K.toNat : Int)) = true := by rw [bne_iff_ne]; intro h; exact hyK (UInt8.toNat_inj.1 (by omega))
                  have hend : Box (jEscape b p = .error (p, 62)) := box (by rw [hJj.out, jEscJ_step hjlt hK hy', if_neg hyK])
                  clear hy' hK
                  replace hyK := box hyK
                  go_wp2_with fail
                  refine hwa.out.mono ?_
                  rintro e w7 ⟨rfl, h7⟩
                  have hF7 := hF.putF (i := 1) rfl h7
                  simp only [List.set_cons_zero, List.set_cons_succ] at hF7
                  go_wp2_with (first | (with_reducible refine lst (by with_unfolding_all rfl) (wp_fld1 hF7 Tryd.underlying3 rfl (by with_unfolding_all exact ⟨_, rfl, rfl⟩) rfl ?_)) | (with_reducible refine lst (by with_unfolding_all rfl) (wp_indexAddr T_ints (hF7.rdOwn (i := 0) rfl) (by with_unfolding_all exact ⟨_, _, _, _, rfl, rfl, rfl⟩) (by omega) (by omega) ?_)) | (with_reducible refine lst (by with_unfolding_all rfl) (wp_load1C (hF7.rdOwn (i := 0) rfl) hKi Tryd.underlying3 rfl (by with_unfolding_all exact ⟨_, rfl, rfl⟩) (by first | (simp; done) | (simp; omega) | omega) ?_)))
                  refine (rfail_ok g A n c (p + 6 + j) m (p, 62) _ (hF7.blk (i := 1) rfl)).mono ?_
                  rintro e w8 ⟨rfl, h8⟩
                  have hF8 := hF7.putF (i := 1) rfl h8
                  simp only [List.set_cons_zero, List.set_cons_succ] at hF8
                  go_wp2_with fail
                  go_ret
                  unfold REsc
                  rw [hend.out]
                  exact ⟨rfl, _, _, hF8.tail⟩
              | none =>
                have hend : Box (jEscape b p = .error (n, 9)) := box (by rw [hJj.out, jEscJ_none hjlt hy', hl.out])
                have hwa := box (rwant_end hy' (hF.blk (i := 1) rfl) (hF.rdB hg hB hr))
                clear hy' hK
                go_wp2_with fail
                refine hwa.out.mono ?_
                rintro e w7 ⟨rfl, h7⟩
                have hF7 := hF.putF (i := 1) rfl h7
                simp only [List.set_cons_zero, List.set_cons_succ] at hF7
                go_wp2_with (first | (with_reducible refine lst (by with_unfolding_all rfl) (wp_fld1 hF7 Tryd.underlying3 rfl (by with_unfolding_all exact ⟨_, rfl, rfl⟩) rfl ?_)))
                go_ret
                unfold REsc
                rw [hend.out]
                exact ⟨rfl, _, _, hF7.tail⟩
            · obtain rfl : j = 2 := by omega
              have hJ2 : jEscape b p = jEsc2 b p N := hJj.out
              unfold jEsc2 at hJ2
              have hdg2 := box (rdigits_ok g A n c (p + 6 + 2) m p B b wr (hF.blk (i := 1) rfl) hg (Nat.le_trans hB hF.size) hn hpn (hF.rdB hg hB hr))
              rw [show p + 6 + 2 = p + 8 by omega] at hdg2
              cases hM : jUnit b p 4 0 (p + 8) with
              | error z =>
                have hz2 := jUnit_err hM
                rw [hM] at hJ2 hdg2
                simp only [] at hJ2
                replace hJ2 := box hJ2
                have hz0 : ((z.2 : Int) == 0) = false := by rw [beq_eq_false_iff_ne]; omega
                have hz1 : ((z.2 : Int) != 0) = true := by rw [bne_iff_ne]; omega
                replace hz2 := box hz2
                clear hM
                go_wp2_with fail
                refine hdg2.out.mono ?_
                rintro e w7 ⟨zz, rfl, p7, m7, h7⟩
                have hF7 := hF.putF (i := 1) rfl h7
                simp only [List.set_cons_zero, List.set_cons_succ] at hF7
                go_wp2_with (first | (with_reducible refine lst (by with_unfolding_all rfl) (wp_fld1 hF7 Tryd.underlying3 rfl (by with_unfolding_all exact ⟨_, rfl, rfl⟩) rfl ?_)))
                go_ret
                unfold REsc
                rw [hJ2.out]
                exact ⟨rfl, _, _, hF7.tail⟩
              | ok M =>
                have hM1 := jUnit_lt (N := 0) (j := 0) (by decide) hM
                have hM65 : M < 65536 := hM1.1
                rw [hM] at hJ2 hdg2
                simp only [] at hJ2
                clear hM hM1
                by_cases h4 : M < 56320
                · skip
                  have hJ3 : Box (jEscape b p = .error (p, 62)) := box (by rw [hJ2, if_neg (by omega)])
                  have hd4 : decide ((M : Int) < 56320) = true := decide_eq_true (by omega)
                  clear hJ2 hM65
                  go_wp2_with fail
                  refine hdg2.out.mono ?_
                  rintro e w7 ⟨zz, rfl, rfl, hp12, h7⟩
                  have hF7 := hF.putF (i := 1) rfl h7
                  simp only [List.set_cons_zero, List.set_cons_succ] at hF7
                  replace hp12 := box hp12
                  go_wp2_with (first | (with_reducible refine lst (by with_unfolding_all rfl) (wp_fld1 hF7 Tryd.underlying3 rfl (by with_unfolding_all exact ⟨_, rfl, rfl⟩) rfl ?_)))
                  refine (rfail_ok g A n c (p + 8 + 4) m (p, 62) _ (hF7.blk (i := 1) rfl)).mono ?_
                  rintro e w8 ⟨rfl, h8⟩
                  have hF8 := hF7.putF (i := 1) rfl h8
                  simp only [List.set_cons_zero, List.set_cons_succ] at hF8
                  go_wp2_with (first | (with_reducible refine lst (by with_unfolding_all rfl) (wp_fld1 hF8 Tryd.underlying3 rfl (by with_unfolding_all exact ⟨_, rfl, rfl⟩) rfl ?_)))
                  go_ret
                  unfold REsc
                  rw [hJ3.out]
                  exact ⟨rfl, _, _, hF8.tail⟩
                have hd4 : decide ((M : Int) < 56320) = false := decide_eq_false (by omega)
                by_cases h5 : 57344 ≤ M
                · skip
                  have hJ3 : Box (jEscape b p = .error (p, 62)) := box (by rw [hJ2, if_neg (by omega)])
                  have hd5 : decide ((57344 : Int) ≤ (M : Int)) = true := decide_eq_true (by omega)
                  clear hJ2 hM65
                  go_wp2_with fail
                  refine hdg2.out.mono ?_
                  rintro e w7 ⟨zz, rfl, rfl, hp12, h7⟩
                  have hF7 := hF.putF (i := 1) rfl h7
                  simp only [List.set_cons_zero, List.set_cons_succ] at hF7
                  replace hp12 := box hp12
                  go_wp2_with (first | (with_reducible refine lst (by with_unfolding_all rfl) (wp_fld1 hF7 Tryd.underlying3 rfl (by with_unfolding_all exact ⟨_, rfl, rfl⟩) rfl ?_)))
                  refine (rfail_ok g A n c (p + 8 + 4) m (p, 62) _ (hF7.blk (i := 1) rfl)).mono ?_
                  rintro e w8 ⟨rfl, h8⟩
                  have hF8 := hF7.putF (i := 1) rfl h8
                  simp only [List.set_cons_zero, List.set_cons_succ] at hF8
                  go_wp2_with (first | (with_reducible refine lst (by with_unfolding_all rfl) (wp_fld1 hF8 Tryd.underlying3 rfl (by with_unfolding_all exact ⟨_, rfl, rfl⟩) rfl ?_)))
                  go_ret
                  unfold REsc
                  rw [hJ3.out]
                  exact ⟨rfl, _, _, hF8.tail⟩
                have hd5 : decide ((57344 : Int) ≤ (M : Int)) = false := decide_eq_false (by omega)
                obtain ⟨u, hu⟩ : ∃ u, u = 65536 + (N - 55296) * 1024 + (M - 56320) := ⟨_, rfl⟩
                have hJ3 : Box (jEscape b p = .ok (jSign u, p + 8 + 4)) := box (by rw [hJ2, if_pos (by omega), hu])
                have h1o := h1.out
                have h3o := h3.out
                have hui : (65536 : Int) + ((N - 55296 : Nat) : Int) * 1024 + ((M - 56320 : Nat) : Int) = (u : Int) := by omega
                have hsg := box (fun w (z : Int) (hz : z = (u : Int)) => hz ▸ rsign_any u w (by omega))
                clear hJ2
                go_wp2_with fail
                refine hdg2.out.mono ?_
                rintro e w7 ⟨zz, rfl, rfl, hp12, h7⟩
                have hF7 := hF.putF (i := 1) rfl h7
                simp only [List.set_cons_zero, List.set_cons_succ] at hF7
                replace hp12 := box hp12
                go_wp2_with (first | (with_reducible refine lst (by with_unfolding_all rfl) (wp_fld1 hF7 Tryd.underlying3 rfl (by with_unfolding_all exact ⟨_, rfl, rfl⟩) rfl ?_)))
                refine (hsg.out _ _ ?_).mono ?_
                · clear hF hF7 hsg h7; omega
                rintro e w8 ⟨v8, rfl, hS⟩
                have hF8 := hF7.tail.join hS
                go_wp2_with fail
                go_ret
                unfold REsc
                rw [hJ3.out]
                exact ⟨_, _, rfl, hF8⟩
      · have hq : ((x.toNat : Int) != 117) = true := u8_ne' h117
        have hJ := box (jEscape_no hx.out hno.out h117)
        replace h117 := box h117
        go_wp2_with fail
        refine (rfail_ok g A n c (p + 2) m (p, 62) _ (hF.blk (i := 0) rfl)).mono ?_
        rintro e w4 ⟨rfl, h4⟩
        have hF4 := hF.putF (i := 0) rfl h4
        simp only [List.set_cons_zero] at hF4
        go_wp2_with fail
        go_ret
        unfold REsc
        rw [hJ.out]
        exact ⟨rfl, _, _, hF4⟩

end Go.Proofs.YtdekogmegdhjoaaDoor

namespace Go.Proofs.YtdekogmegdhjoaaDoor
open Go.RowKit Go.Lib
set_option linter.unusedSimpArgs false

/-- The number that a sign's bytes make, behind its first. -/
def szv (n : Int) (xs : List UInt8) : Int := xs.foldl (fun n x => n * 64 + (x.toNat : Int) - 128) n
theorem szv_snoc (n : Int) (xs : List UInt8) (x : UInt8) : szv n (xs ++ [x]) = szv n xs * 64 + (x.toNat : Int) - 128 := by unfold szv; rw [List.foldl_append]; rfl
theorem jSize1 {c : UInt8} {t : List UInt8} (h : c.toNat < 128) : jSize (c :: t) = 1 := by rw [jSize.eq_def]; simp only []; rw [if_pos h]
theorem jSize0 {c : UInt8} {t : List UInt8} (h : 128 ≤ c.toNat ∧ c.toNat < 194 ∨ 245 ≤ c.toNat) : jSize (c :: t) = 0 := by
  rw [jSize.eq_def]
  simp only []
  rw [if_neg (by omega)]
  by_cases h1 : c.toNat < 194
  · rw [if_pos h1]
  · rw [if_neg h1, if_neg (by omega), if_neg (by omega), if_neg (by omega)]
theorem cont_eq (x : UInt8) : jCont x = true ↔ 128 ≤ x.toNat ∧ x.toNat ≤ 191 := by unfold jCont; rw [Bool.and_eq_true, decide_eq_true_eq, decide_eq_true_eq]
/-- What is told of a sign of k bytes of which the first is c. -/
def szOk (k : Nat) (base : Nat) (c : UInt8) (xs : List UInt8) : Prop :=
  xs.all jCont = true ∧ (k = 3 → ¬ (szv ((c.toNat : Int) - base) xs < 2048 ∨ 55296 ≤ szv ((c.toNat : Int) - base) xs ∧ szv ((c.toNat : Int) - base) xs < 57344)) ∧ (k = 4 → ¬ (szv ((c.toNat : Int) - base) xs < 65536 ∨ 1114111 < szv ((c.toNat : Int) - base) xs))
instance (k base : Nat) (c : UInt8) (xs : List UInt8) : Decidable (szOk k base c xs) := by unfold szOk; exact inferInstance
theorem jSize_k {c : UInt8} {t : List UInt8} {k base : Nat} (h : k = 2 ∧ base = 192 ∧ 194 ≤ c.toNat ∧ c.toNat < 224 ∨ k = 3 ∧ base = 224 ∧ 224 ≤ c.toNat ∧ c.toNat < 240 ∨ k = 4 ∧ base = 240 ∧ 240 ≤ c.toNat ∧ c.toNat < 245) :
    jSize (c :: t) = if k ≤ t.length + 1 ∧ szOk k base c (t.take (k - 1)) then k else 0 := by
  rw [jSize.eq_def]
  simp only []
  rw [if_neg (by omega), if_neg (by omega)]
  rcases h with ⟨rfl, rfl, h1, h2⟩ | ⟨rfl, rfl, h1, h2⟩ | ⟨rfl, rfl, h1, h2⟩
  · rw [if_pos h2]
    match t with
    | [] => simp
    | x :: t => simp [szOk]
  · rw [if_neg (by omega), if_pos h2]
    match t with
    | [] => simp
    | [x] => simp
    | x :: y :: t =>
      simp only [List.length_cons, szOk, szv, List.take_succ_cons, List.take_zero, List.all_cons, List.all_nil, Bool.and_true, Bool.and_eq_true, List.foldl_cons, List.foldl_nil]
      by_cases hx : jCont x = true
      · by_cases hy : jCont y = true
        · have h3 := (cont_eq x).1 hx
          have h4 := (cont_eq y).1 hy
          congr 1
          simp only [hx, hy, true_and, eq_iff_iff]
          constructor
          · intro h; refine ⟨by omega, fun _ => by omega, fun h => by omega⟩
          · intro h; have := h.2.1 trivial; omega
        · simp [hy]
      · simp [hx]
  · rw [if_neg (by omega), if_neg (by omega), if_pos h2]
    match t with
    | [] => simp
    | [x] => simp
    | [x, y] => simp
    | x :: y :: z :: t =>
      simp only [List.length_cons, szOk, szv, List.take_succ_cons, List.take_zero, List.all_cons, List.all_nil, Bool.and_true, Bool.and_eq_true, List.foldl_cons, List.foldl_nil]
      by_cases hx : jCont x = true
      · by_cases hy : jCont y = true
        · by_cases hz : jCont z = true
          · have h3 := (cont_eq x).1 hx
            have h4 := (cont_eq y).1 hy
            have h5 := (cont_eq z).1 hz
            congr 1
            simp only [hx, hy, hz, true_and, eq_iff_iff]
            constructor
            · intro h; refine ⟨by omega, fun h => by omega, fun _ => by omega⟩
            · intro h; have := h.2.2 trivial; omega
          · simp [hz]
        · simp [hy]
      · simp [hx]
end Go.Proofs.YtdekogmegdhjoaaDoor
