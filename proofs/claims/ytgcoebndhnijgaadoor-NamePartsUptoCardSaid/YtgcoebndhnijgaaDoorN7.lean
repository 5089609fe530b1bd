/-
  Layer 7: the walks of the document's find and IsMedia.
-/
import Derived.Test.YtgcoebndhnijgaaDoorN1
import Derived.Test.YtgcoebndhnijgaaDoorNSpec2
namespace Go.Proofs.YtgcoebndhnijgaaDoor
open Go.RowKit

set_option maxRecDepth 20000 in
set_option maxHeartbeats 800000 in
theorem find_any (s : ByteArray) (c : UInt8) (n : Int) (hn : n = (c.toNat : Int)) (w : World) (hs : s.size ≤ 9223372036854775807) : Calls Tryd.prog 29 #[.string s, .int .u8 n] w fun e w' => e = .returned (.int .i64 (findN c s.data.toList)) ∧ w = w' := by
  subst hn
  have hlb := box (str_len s)
  generalize hR : findN c s.data.toList = R
  replace hR := box hR
  go_enter Tryd.func29, Tryd.ntmps29
  go_wp2
  go_loop [5] (fun i => ∃ k : Nat, k ≤ s.size ∧ i = .int .i64 k ∧ Box (∀ (j : Nat) d, j < k → s.data.toList[j]? = some d → d ≠ c)) (fun i => s.size - (intOf i).toNat)
  case atStart => exact ⟨0, by omega, rfl, box fun j d h => absurd h (by omega)⟩
  case round =>
    obtain ⟨k, hk, rfl, hall⟩ := hrel
    by_cases hlt : k < s.size
    · obtain ⟨d, hd⟩ := str_at hlt
      have hix := fun W => run_strIx (P := Tryd.prog) Tryd.underlying9 hd (i := (k : Int)) rfl .i64 W
      by_cases hdc : d = c
      · subst hdc
        have hfin : Box (R = k) := box (by rw [← hR.out]; exact findN_at hd hall.out)
        clear hall hR
        replace hd := box hd
        go_wp2
        go_ret
        exact ⟨by rw [hfin.out]; rfl, rfl⟩
      · have hne : ((d.toNat : Int) == (c.toNat : Int)) = false := u8_ne hdc
        have hall' : Box (∀ (j : Nat) e, j < k + 1 → s.data.toList[j]? = some e → e ≠ c) := box fun j e hj he => by
          rcases Nat.lt_or_ge j k with h | h
          · exact hall.out j e h he
          · obtain rfl : j = k := by omega
            rw [hd] at he; injection he with he; subst he; exact hdc
        clear hall hdc
        replace hd := box hd
        go_wp2
        go_round
        case rel => exact ⟨k + 1, by omega, by go_num, hall'⟩
        case measure => simp [intOf]; omega
    · have hfin : Box (R = s.size) := box (by rw [← hR.out, ← str_len]; exact findN_all fun j d hd => hall.out j d (by have h1 := (List.getElem?_eq_some_iff.1 hd).1; have := hlb.out; omega) hd)
      clear hall hR
      go_wp2
      go_ret
      exact ⟨by rw [hfin.out]; rfl, rfl⟩

theorem macc_step {l : List UInt8} {k h : Nat} {b : Bool} {c : UInt8} (hc : l[k]? = some c) : macc h b (l.drop k) = if c = 47 ∧ b = true then macc (h + 1) false (l.drop (k + 1)) else if (signB c || (b && moreB c)) = true then macc h true (l.drop (k + 1)) else false := by
  obtain ⟨hk, rfl⟩ := List.getElem?_eq_some_iff.1 hc
  rw [List.drop_eq_getElem_cons hk, macc]
theorem any_take {p : UInt8 → Bool} {l : List UInt8} {k : Nat} {c : UInt8} (h : l[k]? = some c) : (l.take (k + 1)).any p = ((l.take k).any p || p c) := by rw [take_snoc h]; simp

set_option maxRecDepth 20000 in
set_option maxHeartbeats 3200000 in
theorem mediaF_any (s : ByteArray) (w : World) (hs : s.size ≤ 4294967281) : Calls Tryd.prog 16 #[.string s] w fun e w' => e = .returned (.bool (mediaB s.data.toList)) ∧ w = w' := by
  have hlb := box (str_len s)
  have hRB : Box (mediaB s.data.toList = (macc 1 false s.data.toList && decide (s.size ≤ 127))) := box (media_macc _)
  generalize mediaB s.data.toList = R at *
  go_enter Tryd.func16, Tryd.ntmps16
  go_wp2
  go_loop [3, 4, 6] (fun x3 x4 x6 => ∃ (k h : Nat) (b : Bool), k ≤ s.size ∧ h ≤ k + 1 ∧ x3 = .int .i64 h ∧ x4 = .bool b ∧ x6 = .int .i64 k ∧ Box (macc 1 false s.data.toList = macc h b (s.data.toList.drop k))) (fun _ _ i => s.size - (intOf i).toNat)
  case atStart => exact ⟨0, 1, false, by omega, by omega, rfl, rfl, rfl, box rfl⟩
  case round =>
    obtain ⟨k, h, b, hk, hh, rfl, rfl, rfl, hA⟩ := hrel
    by_cases hlt : k < s.size
    · obtain ⟨c, hc⟩ := str_at hlt
      have hix := fun W => run_strIx (P := Tryd.prog) Tryd.underlying9 hc (i := (k : Int)) rfl .i64 W
      have hA2 : Box (macc 1 false s.data.toList = if c = 47 ∧ b = true then macc (h + 1) false (s.data.toList.drop (k + 1)) else if (signB c || (b && moreB c)) = true then macc h true (s.data.toList.drop (k + 1)) else false) := box (hA.out.trans (macc_step hc))
      clear hA
      replace hc := box hc
      by_cases h47 : c = 47
      · subst h47
        replace hix : ∀ W, (Instr.index 9 (.string s) (.int .i64 (k : Int))).run Tryd.prog W = .ok (.int .u8 47) W := hix
        cases b with
        | true =>
          have hA3 : Box (macc 1 false s.data.toList = macc (h + 1) false (s.data.toList.drop (k + 1))) := box (by rw [hA2.out]; simp)
          clear hA2
          go_wp2
          go_round
          case rel => exact ⟨k + 1, h + 1, false, by omega, by omega, by go_num, rfl, by go_num, hA3⟩
          case measure => simp [intOf]; omega
        | false =>
          have hfin : Box (R = false) := box (by rw [hRB.out, hA2.out]; simp [sign47])
          have hs47 := sign47
          clear hA2 hRB
          go_wp2_with (go_at_call 25; refine (signF_any 47 _ rfl _).mono ?_; rintro e w' ⟨rfl, rfl⟩)
          go_loop [8, 9] (fun o i => o = .bool false ∧ i = .int .i64 0) (fun _ _ => 0)
          case atStart => exact ⟨rfl, rfl⟩
          case round =>
            obtain ⟨rfl, rfl⟩ := hrel
            go_wp2
            go_ret
            exact ⟨by rw [hfin.out]; rfl, rfl⟩
      · have e47 : ((c.toNat : Int) == 47) = false := u8_ne (d := 47) h47
        have hA3 : Box (macc 1 false s.data.toList = if (signB c || (b && moreB c)) = true then macc h true (s.data.toList.drop (k + 1)) else false) := box (by rw [hA2.out, if_neg (fun hh => h47 hh.1)])
        clear hA2 h47
        cases b with
        | false =>
          cases hsg : signB c with
          | true =>
            have hA4 : Box (macc 1 false s.data.toList = macc h true (s.data.toList.drop (k + 1))) := box (by rw [hA3.out, hsg]; rfl)
            clear hA3
            go_wp2_with (go_at_call 25; refine (signF_any c _ rfl _).mono ?_; rintro e w' ⟨rfl, rfl⟩)
            go_loop [8, 9] (fun o i => o = .bool true ∧ i = .int .i64 0) (fun _ _ => 0)
            case atStart => exact ⟨rfl, rfl⟩
            case round =>
              obtain ⟨rfl, rfl⟩ := hrel
              go_wp2
              go_round
              case rel => exact ⟨k + 1, h, true, by omega, by omega, rfl, rfl, by go_num, hA4⟩
              case measure => simp [intOf]; omega
          | false =>
            have hfin : Box (R = false) := box (by rw [hRB.out, hA3.out, hsg]; rfl)
            clear hA3 hRB
            go_wp2_with (go_at_call 25; refine (signF_any c _ rfl _).mono ?_; rintro e w' ⟨rfl, rfl⟩)
            go_loop [8, 9] (fun o i => o = .bool false ∧ i = .int .i64 0) (fun _ _ => 0)
            case atStart => exact ⟨rfl, rfl⟩
            case round =>
              obtain ⟨rfl, rfl⟩ := hrel
              go_wp2
              go_ret
              exact ⟨by rw [hfin.out]; rfl, rfl⟩
        | true =>
          have hm9 : Box (moreS.data.toList.length = 9) := box rfl
          have hmB : Box (moreB c = moreS.data.toList.any (· == c)) := box rfl
          go_wp2_with (go_at_call 25; refine (signF_any c _ rfl _).mono ?_; rintro e w' ⟨rfl, rfl⟩)
          clear hix
          go_loop [8, 9] (fun o i => ∃ (q : Nat) (y : Bool), q ≤ 9 ∧ o = .bool y ∧ i = .int .i64 q ∧ Box (y = (signB c || (moreS.data.toList.take q).any (· == c)))) (fun _ i => 9 - (intOf i).toNat)
          case atStart => exact ⟨0, signB c, by omega, rfl, rfl, box (by simp)⟩
          case round =>
            obtain ⟨q, y, hq, rfl, rfl, hy⟩ := hrel
            by_cases hq9 : q < 9
            · obtain ⟨d, hd⟩ : ∃ d, moreS.data.toList[q]? = some d := ⟨moreS.data.toList[q]'(by have := hm9.out; omega), by simp⟩
              have hix : ∀ W, (Instr.index 9 (.string ⟨#[33, 35, 36, 38, 45, 94, 95, 46, 43]⟩) (.int .i64 (q : Int))).run Tryd.prog W = .ok (.int .u8 (d.toNat : Int)) W := fun W => run_strIx (P := Tryd.prog) Tryd.underlying9 hd (i := (q : Int)) rfl .i64 W
              have hnext := box (fun (z : Bool) (hz : z = (y || d == c)) => show z = (signB c || (moreS.data.toList.take (q + 1)).any (· == c)) by rw [hz, hy.out, any_take hd, Bool.or_assoc])
              clear hy
              replace hd := box hd
              cases y with
              | true =>
                go_wp2
                go_round
                case rel => exact ⟨q + 1, true, by omega, rfl, by go_num, box (hnext.out true (by simp))⟩
                case measure => simp [intOf]; omega
              | false =>
                by_cases hdc : d = c
                · subst hdc
                  go_wp2
                  go_round
                  case rel => exact ⟨q + 1, true, by omega, by simp, by go_num, box (hnext.out true (by simp))⟩
                  case measure => simp [intOf]; omega
                · have hne : ((c.toNat : Int) == (d.toNat : Int)) = false := u8_ne (fun h => hdc h.symm)
                  have hdf : Box ((d == c) = false) := box (beq_eq_false_iff_ne.2 hdc)
                  clear hdc
                  go_wp2
                  go_round
                  case rel => exact ⟨q + 1, false, by omega, rfl, by go_num, box (hnext.out false (by rw [hdf.out]; rfl))⟩
                  case measure => simp [intOf]; omega
            · have hyo : Box (y = (signB c || moreB c)) := box (by rw [hy.out, hmB.out, List.take_of_length_le (by have := hm9.out; omega)])
              clear hy
              cases y with
              | true =>
                have hA4 : Box (macc 1 false s.data.toList = macc h true (s.data.toList.drop (k + 1))) := box (by rw [hA3.out, Bool.true_and, ← hyo.out]; rfl)
                clear hA3
                go_wp2
                go_round
                case rel => exact ⟨k + 1, h, true, by omega, by omega, rfl, rfl, by go_num, hA4⟩
                case measure => simp [intOf]; omega
              | false =>
                have hfin : Box (R = false) := box (by rw [hRB.out, hA3.out, Bool.true_and, ← hyo.out]; rfl)
                clear hA3 hRB
                go_wp2
                go_ret
                exact ⟨by rw [hfin.out]; rfl, rfl⟩
    · have hfin : Box (R = ((b && h == 2) && decide (s.size ≤ 127))) := box (by rw [hRB.out, hA.out, List.drop_of_length_le (by have := hlb.out; omega)]; rfl)
      clear hA hRB
      cases b with
      | false =>
        have hR : Box (R = false) := box (by rw [hfin.out]; rfl)
        go_wp2
        go_ret
        exact ⟨by rw [hR.out]; rfl, rfl⟩
      | true =>
        cases h2 : (h == 2) with
        | true =>
          obtain rfl : h = 2 := by simpa using h2
          by_cases h127 : s.size ≤ 127
          · have hR : Box (R = true) := box (by rw [hfin.out, decide_eq_true h127]; rfl)
            clear hfin
            go_wp2
            go_ret
            exact ⟨ret1 (by rw [hR.out]; first | rfl | (simp; omega)), rfl⟩
          · have hR : Box (R = false) := box (by rw [hfin.out, decide_eq_false h127]; rfl)
            clear hfin
            go_wp2
            go_ret
            exact ⟨ret1 (by rw [hR.out]; first | rfl | (simp; omega)), rfl⟩
        | false =>
          have hR : Box (R = false) := box (by rw [hfin.out, h2]; rfl)
          have hne : ((h : Int) == 2) = false := by rw [beq_eq_false_iff_ne] at h2 ⊢; omega
          clear hfin
          go_wp2
          go_ret
          exact ⟨by rw [hR.out]; rfl, rfl⟩
end Go.Proofs.YtgcoebndhnijgaaDoor
