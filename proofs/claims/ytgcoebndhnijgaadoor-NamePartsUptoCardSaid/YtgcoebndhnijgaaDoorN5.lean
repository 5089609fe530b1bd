/-
  Layer 7: the walks of IsTag, both texts.
-/
import Derived.Test.YtgcoebndhnijgaaDoorN1
import Derived.Test.YtgcoebndhnijgaaDoorNSpec2
namespace Go.Proofs.YtgcoebndhnijgaaDoor
open Go.RowKit

set_option maxRecDepth 20000 in
set_option maxHeartbeats 3200000 in
theorem tag_any (s : ByteArray) (w : World) (hs : s.size ≤ 9223372036854775807) : Calls Tryd.prog 13 #[.string s] w fun e w' => e = .returned (.bool (tagB s.data.toList)) ∧ w = w' := by
  have hlb := box (str_len s)
  generalize hR : tagB s.data.toList = R
  replace hR := box hR
  by_cases h0 : s.size = 0
  · have hno : Box (R = false) := box (by rw [← hR.out]; unfold tagB; rw [decide_eq_false (by rw [str_len]; omega)]; rfl)
    obtain rfl : s = ByteArray.empty := by apply ByteArray.ext; apply Array.eq_empty_of_size_eq_zero; exact h0
    go_enter Tryd.func13, Tryd.ntmps13
    go_wp2
    go_ret
    exact ⟨by rw [hno.out]; rfl, rfl⟩
  · obtain ⟨c0, hc0⟩ := str_at (s := s) (j := 0) (by omega)
    have hE : s.toList.isEmpty = false := by rw [ByteArray.toList_eq]; cases hq : s.data.toList with
      | nil => rw [hq] at hc0; simp at hc0
      | cons a b => rfl
    have hix0 : ∀ W, (Instr.index 9 (.string s) (.int .i64 0)).run Tryd.prog W = .ok (.int .u8 (c0.toNat : Int)) W := fun W => run_strIx (P := Tryd.prog) Tryd.underlying9 hc0 (i := ((0 : Nat) : Int)) rfl .i64 W
    by_cases hle : s.size ≤ 128
    · have hh : headOk s.data.toList = (c0 != 46 && c0 != 45) := by cases hq : s.data.toList with
        | nil => rw [hq] at hc0; simp at hc0
        | cons a b => rw [hq] at hc0; simp at hc0; subst hc0; rfl
      by_cases h46 : c0 = 46
      · subst h46
        have hno : Box (R = false) := box (by rw [← hR.out]; unfold tagB; rw [hh]; simp)
        replace hc0 := box hc0
        replace hh := box hh
        replace hix0 : ∀ W, (Instr.index 9 (.string s) (.int .i64 0)).run Tryd.prog W = .ok (.int .u8 46) W := hix0
        go_enter Tryd.func13, Tryd.ntmps13
        go_wp2
        go_ret
        exact ⟨by rw [hno.out]; rfl, rfl⟩
      · skip
        by_cases h45 : c0 = 45
        · subst h45
          have hno : Box (R = false) := box (by rw [← hR.out]; unfold tagB; rw [hh]; simp)
          replace hc0 := box hc0
          replace hh := box hh
          replace hix0 : ∀ W, (Instr.index 9 (.string s) (.int .i64 0)).run Tryd.prog W = .ok (.int .u8 45) W := hix0
          go_enter Tryd.func13, Tryd.ntmps13
          go_wp2
          go_ret
          exact ⟨by rw [hno.out]; rfl, rfl⟩
        · have e46 : ((c0.toNat : Int) == 46) = false := u8_ne (d := 46) h46
          have e45 : ((c0.toNat : Int) == 45) = false := u8_ne (d := 45) h45
          have hRt : Box (R = s.data.toList.all tagA) := box (by
            rw [← hR.out]; unfold tagB
            rw [hh, decide_eq_true (by rw [str_len]; omega), decide_eq_true (by rw [str_len]; omega), bne_iff_ne.2 h46, bne_iff_ne.2 h45]; rfl)
          clear h46 h45 hh hR
          replace hc0 := box hc0
          go_enter Tryd.func13, Tryd.ntmps13
          go_wp2
          clear hix0 e46 e45
          go_loop [23] (fun i => ∃ k : Nat, k ≤ s.size ∧ i = .int .i64 k ∧ Box (∀ (j : Nat) c, j < k → s.data.toList[j]? = some c → tagA c = true)) (fun i => s.size - (intOf i).toNat)
          case atStart => exact ⟨0, by omega, rfl, box fun j c h => absurd h (by omega)⟩
          case round =>
            obtain ⟨k, hk, rfl, hall⟩ := hrel
            by_cases hlt : k < s.size
            · obtain ⟨d, hd⟩ := str_at hlt
              have hix := fun W => run_strIx (P := Tryd.prog) Tryd.underlying9 hd (i := (k : Int)) rfl .i64 W
              have hgo : Box (tagA d = true → ∀ (j : Nat) c, j < k + 1 → s.data.toList[j]? = some c → tagA c = true) := box fun hta j c hj hc => by
                rcases Nat.lt_or_ge j k with h | h
                · exact hall.out j c h hc
                · obtain rfl : j = k := by omega
                  rw [hd] at hc; injection hc with hc; subst hc; exact hta
              have hst : Box (tagA d = false → R = false) := box fun h => by rw [hRt.out]; exact all_not hd h
              clear hall
              replace hd := box hd
              cases hsg : signB d with
              | true =>
                have hta : Box (tagA d = true) := box (by unfold tagA; rw [hsg]; rfl)
                go_wp2_with (refine (sign_any d _ rfl _).mono ?_; rintro e w' ⟨rfl, rfl⟩)
                go_round
                case rel => exact ⟨k + 1, by omega, by go_num, box (hgo.out hta.out)⟩
                case measure => simp [intOf]; omega
              | false =>
                by_cases h95 : d = 95
                · subst h95
                  replace hix : ∀ W, (Instr.index 9 (.string s) (.int .i64 (k : Int))).run Tryd.prog W = .ok (.int .u8 95) W := hix
                  go_wp2_with (refine (sign_any 95 _ rfl _).mono ?_; rintro e w' ⟨rfl, rfl⟩)
                  go_round
                  case rel => exact ⟨k + 1, by omega, by go_num, box (hgo.out (by decide))⟩
                  case measure => simp [intOf]; omega
                have n95 : ((d.toNat : Int) != 95) = true := u8_ne' (d := 95) h95
                by_cases h46 : d = 46
                · subst h46
                  replace hix : ∀ W, (Instr.index 9 (.string s) (.int .i64 (k : Int))).run Tryd.prog W = .ok (.int .u8 46) W := hix
                  go_wp2_with (refine (sign_any 46 _ rfl _).mono ?_; rintro e w' ⟨rfl, rfl⟩)
                  go_round
                  case rel => exact ⟨k + 1, by omega, by go_num, box (hgo.out (by decide))⟩
                  case measure => simp [intOf]; omega
                have n46 : ((d.toNat : Int) != 46) = true := u8_ne' (d := 46) h46
                by_cases h45 : d = 45
                · subst h45
                  replace hix : ∀ W, (Instr.index 9 (.string s) (.int .i64 (k : Int))).run Tryd.prog W = .ok (.int .u8 45) W := hix
                  go_wp2_with (refine (sign_any 45 _ rfl _).mono ?_; rintro e w' ⟨rfl, rfl⟩)
                  go_round
                  case rel => exact ⟨k + 1, by omega, by go_num, box (hgo.out (by decide))⟩
                  case measure => simp [intOf]; omega
                have n45 : ((d.toNat : Int) != 45) = true := u8_ne' (d := 45) h45
                have hta : Box (tagA d = false) := box (by unfold tagA; rw [hsg, beq_eq_false_iff_ne.2 h95, beq_eq_false_iff_ne.2 h46, beq_eq_false_iff_ne.2 h45]; rfl)
                clear h95 h46 h45
                go_wp2_with (refine (sign_any d _ rfl _).mono ?_; rintro e w' ⟨rfl, rfl⟩)
                go_ret
                exact ⟨by rw [hst.out hta.out]; rfl, rfl⟩
            · have hfin : Box (R = true) := box (by rw [hRt.out]; exact all_at fun j c hc => hall.out j c (by have h1 := (List.getElem?_eq_some_iff.1 hc).1; have := hlb.out; omega) hc)
              clear hall
              go_wp2
              go_ret
              exact ⟨by rw [hfin.out]; rfl, rfl⟩
    · have hno : Box (R = false) := box (by rw [← hR.out]; unfold tagB; rw [decide_eq_false (p := s.data.toList.length ≤ 128) (by rw [str_len]; omega)]; simp)
      replace hc0 := box hc0
      go_enter Tryd.func13, Tryd.ntmps13
      go_wp2
      go_ret
      exact ⟨by rw [hno.out]; rfl, rfl⟩

set_option maxRecDepth 20000 in
set_option maxHeartbeats 3200000 in
theorem tagF_any (s : ByteArray) (w : World) (hs : s.size ≤ 9223372036854775807) : Calls Tryd.prog 14 #[.string s] w fun e w' => e = .returned (.bool (tagB s.data.toList)) ∧ w = w' := by
  have hlb := box (str_len s)
  generalize hR : tagB s.data.toList = R
  replace hR := box hR
  go_enter Tryd.func14, Tryd.ntmps14
  go_wp2
  go_loop [3] (fun i => ∃ k : Nat, k ≤ s.size ∧ i = .int .i64 k ∧ Box (∀ (j : Nat) c, j < k → s.data.toList[j]? = some c → tagC j c = true)) (fun i => s.size - (intOf i).toNat)
  case atStart => exact ⟨0, by omega, rfl, box fun j c h => absurd h (by omega)⟩
  case round =>
    obtain ⟨k, hk, rfl, hall⟩ := hrel
    by_cases hlt : k < s.size
    · obtain ⟨d, hd⟩ := str_at hlt
      have hix := fun W => run_strIx (P := Tryd.prog) Tryd.underlying9 hd (i := (k : Int)) rfl .i64 W
      have hgo : Box (tagC k d = true → ∀ (j : Nat) c, j < k + 1 → s.data.toList[j]? = some c → tagC j c = true) := box fun hta j c hj hc => by
        rcases Nat.lt_or_ge j k with h | h
        · exact hall.out j c h hc
        · obtain rfl : j = k := by omega
          rw [hd] at hc; injection hc with hc; subst hc; exact hta
      have hst : Box (tagC k d = false → R = false) := box fun h => by rw [← hR.out]; exact tag_bad hd h
      clear hall
      replace hd := box hd
      cases hsg : signB d with
      | true =>
        have hta : Box (tagC k d = true) := box (by unfold tagC; rw [hsg]; rfl)
        go_wp2_with (refine (signF_any d _ rfl _).mono ?_; rintro e w' ⟨rfl, rfl⟩)
        go_round
        case rel => exact ⟨k + 1, by omega, by go_num, box (hgo.out hta.out)⟩
        case measure => simp [intOf]; omega
      | false =>
        by_cases h95 : d = 95
        · subst h95
          have hta : Box (tagC k 95 = true) := box (by unfold tagC; rw [hsg]; rfl)
          replace hix : ∀ W, (Instr.index 9 (.string s) (.int .i64 (k : Int))).run Tryd.prog W = .ok (.int .u8 95) W := hix
          go_wp2_with (refine (signF_any 95 _ rfl _).mono ?_; rintro e w' ⟨rfl, rfl⟩)
          go_round
          case rel => exact ⟨k + 1, by omega, by go_num, box (hgo.out hta.out)⟩
          case measure => simp [intOf]; omega
        have n95 : ((d.toNat : Int) == 95) = false := u8_ne (d := 95) h95
        by_cases h46 : d = 46
        · subst h46
          replace hix : ∀ W, (Instr.index 9 (.string s) (.int .i64 (k : Int))).run Tryd.prog W = .ok (.int .u8 46) W := hix
          clear n95
          rcases Nat.eq_zero_or_pos k with hk0 | hk0
          · have hta : Box (tagC k 46 = false) := box (by rw [hk0]; decide)
            have hkd : decide (0 < k) = false := decide_eq_false (by omega)
            clear hk0
            go_wp2_with (refine (signF_any 46 _ rfl _).mono ?_; rintro e w' ⟨rfl, rfl⟩)
            go_ret
            exact ⟨by rw [hst.out hta.out]; rfl, rfl⟩
          · have hta : Box (tagC k 46 = true) := box (by unfold tagC; rw [decide_eq_true hk0]; decide)
            have hkd : decide (0 < k) = true := decide_eq_true hk0
            go_wp2_with (refine (signF_any 46 _ rfl _).mono ?_; rintro e w' ⟨rfl, rfl⟩)
            go_round
            case rel => exact ⟨k + 1, by omega, by go_num, box (hgo.out hta.out)⟩
            case measure => simp [intOf]; omega
        have n46 : ((d.toNat : Int) == 46) = false := u8_ne (d := 46) h46
        by_cases h45 : d = 45
        · subst h45
          replace hix : ∀ W, (Instr.index 9 (.string s) (.int .i64 (k : Int))).run Tryd.prog W = .ok (.int .u8 45) W := hix
          clear n95 n46
          rcases Nat.eq_zero_or_pos k with hk0 | hk0
          · have hta : Box (tagC k 45 = false) := box (by rw [hk0]; decide)
            have hkd : decide (0 < k) = false := decide_eq_false (by omega)
            clear hk0
            go_wp2_with (refine (signF_any 45 _ rfl _).mono ?_; rintro e w' ⟨rfl, rfl⟩)
            go_ret
            exact ⟨by rw [hst.out hta.out]; rfl, rfl⟩
          · have hta : Box (tagC k 45 = true) := box (by unfold tagC; rw [decide_eq_true hk0]; decide)
            have hkd : decide (0 < k) = true := decide_eq_true hk0
            go_wp2_with (refine (signF_any 45 _ rfl _).mono ?_; rintro e w' ⟨rfl, rfl⟩)
            go_round
            case rel => exact ⟨k + 1, by omega, by go_num, box (hgo.out hta.out)⟩
            case measure => simp [intOf]; omega
        have n45 : ((d.toNat : Int) == 45) = false := u8_ne (d := 45) h45
        have hta : Box (tagC k d = false) := box (by unfold tagC; rw [hsg, beq_eq_false_iff_ne.2 h95, beq_eq_false_iff_ne.2 h46, beq_eq_false_iff_ne.2 h45]; simp)
        clear h95 h46 h45
        rcases Nat.eq_zero_or_pos k with hk0 | hk0
        · have hkd : decide (0 < k) = false := decide_eq_false (by omega)
          clear hk0
          go_wp2_with (refine (signF_any d _ rfl _).mono ?_; rintro e w' ⟨rfl, rfl⟩)
          go_ret
          exact ⟨by rw [hst.out hta.out]; rfl, rfl⟩
        · have hkd : decide (0 < k) = true := decide_eq_true hk0
          go_wp2_with (refine (signF_any d _ rfl _).mono ?_; rintro e w' ⟨rfl, rfl⟩)
          go_ret
          exact ⟨by rw [hst.out hta.out]; rfl, rfl⟩
    · have hfin : Box (R = (decide (1 ≤ s.size) && decide (s.size ≤ 128))) := box (by rw [← hR.out]; exact tag_good fun j c hc => hall.out j c (by have h1 := (List.getElem?_eq_some_iff.1 hc).1; have := hlb.out; omega) hc)
      clear hall hR
      by_cases h1 : 1 ≤ s.size
      · have hd1 : decide (1 ≤ s.size) = true := decide_eq_true h1
        by_cases h2 : s.size ≤ 128
        · have hR : Box (R = true) := box (by rw [hfin.out, hd1]; simp; omega)
          clear hd1
          go_wp2
          go_ret
          exact ⟨ret1 (by rw [hR.out]; first | rfl | (simp; omega)), rfl⟩
        · have hR : Box (R = false) := box (by rw [hfin.out, hd1]; simp; omega)
          clear hd1
          go_wp2
          go_ret
          exact ⟨ret1 (by rw [hR.out]; first | rfl | (simp; omega)), rfl⟩
      · have hd1 : decide (1 ≤ s.size) = false := decide_eq_false h1
        have hR : Box (R = false) := box (by rw [hfin.out, hd1]; rfl)
        clear hd1
        go_wp2
        go_ret
        exact ⟨ret1 (by rw [hR.out]; first | rfl | (simp; omega)), rfl⟩
end Go.Proofs.YtgcoebndhnijgaaDoor
