/-
  Layer 7: the walk of the document's IsRepo.
-/
import Derived.Test.YtgcoebndhnijgaaDoorN1
namespace Go.Proofs.YtgcoebndhnijgaaDoor
open Go.RowKit

set_option maxRecDepth 20000 in
set_option maxHeartbeats 6400000 in
theorem repoF_any (s : ByteArray) (w : World) (hs : s.size ≤ 9223372036854775807) : Calls Tryd.prog 12 #[.string s] w fun e w' => e = .returned (.bool (repoB s.data.toList)) ∧ w = w' := by
  have hRB := box (show repoB s.data.toList = (acc 0 s.data.toList && decide (s.size ≤ 128)) from rfl)
  generalize repoB s.data.toList = R at *
  go_enter Tryd.func12, Tryd.ntmps12
  go_wp2
  go_loop [3, 4] (fun st i => ∃ k q : Nat, k ≤ s.size ∧ q ≤ 4 ∧ st = .int .i64 q ∧ i = .int .i64 k ∧ Box (acc 0 s.data.toList = acc q (s.data.toList.drop k))) (fun _ i => s.size - (intOf i).toNat)
  case atStart => exact ⟨0, 0, by omega, by omega, rfl, rfl, box rfl⟩
  case round =>
    obtain ⟨k, q, hk, hq, rfl, rfl, hA⟩ := hrel
    by_cases hlt : k < s.size
    · obtain ⟨c, hc⟩ := str_at hlt
      have hix := fun W => run_strIx (P := Tryd.prog) Tryd.underlying9 hc (i := (k : Int)) rfl .i64 W
      have hstep := box (fun q' (h : step q c = some q') => hA.out.trans (acc_step hc h))
      have hstop := box (fun (h : step q c = none) => hA.out.trans (acc_stop hc h))
      clear hA
      replace hc := box hc
      have hq5 : q = 0 ∨ q = 1 ∨ q = 2 ∨ q = 3 ∨ q = 4 := by omega
      clear hq
      rcases kind c with hsm | rfl | rfl | rfl | rfl | hot
      · have hst := box (fun q => step_small (q := q) hsm)
        go_wp2_with (refine (smallF_any c _ rfl _).mono ?_; rintro e w' ⟨rfl, rfl⟩)
        go_round
        case rel => exact ⟨k + 1, 1, by omega, by omega, rfl, by go_num, box (hstep.out 1 (hst.out q))⟩
        case measure => simp [intOf]; omega
      · have hsm : smallB 47 = false := by decide
        replace hix : ∀ W, (Instr.index 9 (.string s) (.int .i64 (k : Int))).run Tryd.prog W = .ok (.int .u8 47) W := hix
        rcases hq5 with rfl | rfl | rfl | rfl | rfl
        · go_wp2_with (refine (smallF_any 47 _ rfl _).mono ?_; rintro e w' ⟨rfl, rfl⟩)
          go_ret
          exact ⟨retB (by rw [hRB.out, hstop.out rfl]; rfl), rfl⟩
        · go_wp2_with (refine (smallF_any 47 _ rfl _).mono ?_; rintro e w' ⟨rfl, rfl⟩)
          go_round
          case rel => exact ⟨k + 1, 0, by omega, by omega, rfl, by go_num, box (hstep.out 0 rfl)⟩
          case measure => simp [intOf]; omega
        · go_wp2_with (refine (smallF_any 47 _ rfl _).mono ?_; rintro e w' ⟨rfl, rfl⟩)
          go_ret
          exact ⟨retB (by rw [hRB.out, hstop.out rfl]; rfl), rfl⟩
        · go_wp2_with (refine (smallF_any 47 _ rfl _).mono ?_; rintro e w' ⟨rfl, rfl⟩)
          go_ret
          exact ⟨retB (by rw [hRB.out, hstop.out rfl]; rfl), rfl⟩
        · go_wp2_with (refine (smallF_any 47 _ rfl _).mono ?_; rintro e w' ⟨rfl, rfl⟩)
          go_ret
          exact ⟨retB (by rw [hRB.out, hstop.out rfl]; rfl), rfl⟩
      · have hsm : smallB 46 = false := by decide
        replace hix : ∀ W, (Instr.index 9 (.string s) (.int .i64 (k : Int))).run Tryd.prog W = .ok (.int .u8 46) W := hix
        rcases hq5 with rfl | rfl | rfl | rfl | rfl
        · go_wp2_with (refine (smallF_any 46 _ rfl _).mono ?_; rintro e w' ⟨rfl, rfl⟩)
          go_ret
          exact ⟨retB (by rw [hRB.out, hstop.out rfl]; rfl), rfl⟩
        · go_wp2_with (refine (smallF_any 46 _ rfl _).mono ?_; rintro e w' ⟨rfl, rfl⟩)
          go_round
          case rel => exact ⟨k + 1, 2, by omega, by omega, rfl, by go_num, box (hstep.out 2 rfl)⟩
          case measure => simp [intOf]; omega
        · go_wp2_with (refine (smallF_any 46 _ rfl _).mono ?_; rintro e w' ⟨rfl, rfl⟩)
          go_ret
          exact ⟨retB (by rw [hRB.out, hstop.out rfl]; rfl), rfl⟩
        · go_wp2_with (refine (smallF_any 46 _ rfl _).mono ?_; rintro e w' ⟨rfl, rfl⟩)
          go_ret
          exact ⟨retB (by rw [hRB.out, hstop.out rfl]; rfl), rfl⟩
        · go_wp2_with (refine (smallF_any 46 _ rfl _).mono ?_; rintro e w' ⟨rfl, rfl⟩)
          go_ret
          exact ⟨retB (by rw [hRB.out, hstop.out rfl]; rfl), rfl⟩
      · have hsm : smallB 95 = false := by decide
        replace hix : ∀ W, (Instr.index 9 (.string s) (.int .i64 (k : Int))).run Tryd.prog W = .ok (.int .u8 95) W := hix
        rcases hq5 with rfl | rfl | rfl | rfl | rfl
        · go_wp2_with (refine (smallF_any 95 _ rfl _).mono ?_; rintro e w' ⟨rfl, rfl⟩)
          go_ret
          exact ⟨retB (by rw [hRB.out, hstop.out rfl]; rfl), rfl⟩
        · go_wp2_with (refine (smallF_any 95 _ rfl _).mono ?_; rintro e w' ⟨rfl, rfl⟩)
          go_round
          case rel => exact ⟨k + 1, 3, by omega, by omega, rfl, by go_num, box (hstep.out 3 rfl)⟩
          case measure => simp [intOf]; omega
        · go_wp2_with (refine (smallF_any 95 _ rfl _).mono ?_; rintro e w' ⟨rfl, rfl⟩)
          go_ret
          exact ⟨retB (by rw [hRB.out, hstop.out rfl]; rfl), rfl⟩
        · go_wp2_with (refine (smallF_any 95 _ rfl _).mono ?_; rintro e w' ⟨rfl, rfl⟩)
          go_round
          case rel => exact ⟨k + 1, 2, by omega, by omega, rfl, by go_num, box (hstep.out 2 rfl)⟩
          case measure => simp [intOf]; omega
        · go_wp2_with (refine (smallF_any 95 _ rfl _).mono ?_; rintro e w' ⟨rfl, rfl⟩)
          go_ret
          exact ⟨retB (by rw [hRB.out, hstop.out rfl]; rfl), rfl⟩
      · have hsm : smallB 45 = false := by decide
        replace hix : ∀ W, (Instr.index 9 (.string s) (.int .i64 (k : Int))).run Tryd.prog W = .ok (.int .u8 45) W := hix
        rcases hq5 with rfl | rfl | rfl | rfl | rfl
        · go_wp2_with (refine (smallF_any 45 _ rfl _).mono ?_; rintro e w' ⟨rfl, rfl⟩)
          go_ret
          exact ⟨retB (by rw [hRB.out, hstop.out rfl]; rfl), rfl⟩
        · go_wp2_with (refine (smallF_any 45 _ rfl _).mono ?_; rintro e w' ⟨rfl, rfl⟩)
          go_round
          case rel => exact ⟨k + 1, 4, by omega, by omega, rfl, by go_num, box (hstep.out 4 rfl)⟩
          case measure => simp [intOf]; omega
        · go_wp2_with (refine (smallF_any 45 _ rfl _).mono ?_; rintro e w' ⟨rfl, rfl⟩)
          go_ret
          exact ⟨retB (by rw [hRB.out, hstop.out rfl]; rfl), rfl⟩
        · go_wp2_with (refine (smallF_any 45 _ rfl _).mono ?_; rintro e w' ⟨rfl, rfl⟩)
          go_ret
          exact ⟨retB (by rw [hRB.out, hstop.out rfl]; rfl), rfl⟩
        · go_wp2_with (refine (smallF_any 45 _ rfl _).mono ?_; rintro e w' ⟨rfl, rfl⟩)
          go_round
          case rel => exact ⟨k + 1, 4, by omega, by omega, rfl, by go_num, box (hstep.out 4 rfl)⟩
          case measure => simp [intOf]; omega
      · have hsm := hot.1
        have e47 : ((c.toNat : Int) == 47) = false := u8_ne (d := 47) hot.2.1
        have e46 : ((c.toNat : Int) == 46) = false := u8_ne (d := 46) hot.2.2.1
        have e95 : ((c.toNat : Int) == 95) = false := u8_ne (d := 95) hot.2.2.2.1
        have e45 : ((c.toNat : Int) == 45) = false := u8_ne (d := 45) hot.2.2.2.2
        have hst := box (step_other (q := q) hot)
        clear hot
        go_wp2_with (refine (smallF_any c _ rfl _).mono ?_; rintro e w' ⟨rfl, rfl⟩)
        go_ret
        exact ⟨retB (by rw [hRB.out, hstop.out hst.out]; rfl), rfl⟩
    · have hfin : Box (acc 0 s.data.toList = (q == 1)) := box (by rw [hA.out, List.drop_of_length_le (by rw [str_len]; omega)]; rfl)
      clear hA
      cases h1 : (q == 1) with
      | true =>
        obtain rfl : q = 1 := by simpa using h1
        by_cases hle : s.size ≤ 128
        all_goals
          go_wp2
          go_ret
          exact ⟨retB (by rw [hRB.out, hfin.out]; simp; omega), rfl⟩
      | false =>
        have hne : ((q : Int) == 1) = false := by rw [beq_eq_false_iff_ne] at h1 ⊢; omega
        go_wp2
        go_ret
        exact ⟨retB (by rw [hRB.out, hfin.out, h1]; rfl), rfl⟩
end Go.Proofs.YtgcoebndhnijgaaDoor
