/-
  Layer 7: the walks of mark and part.
-/
import Derived.Test.YtgcoebndhnijgaaDoorN1
import Derived.Test.YtgcoebndhnijgaaDoorShelf
namespace Go.Proofs.YtgcoebndhnijgaaDoor
open Go.RowKit

theorem hasPre_any (s p : ByteArray) (w : World) : Calls Tryd.prog 45 #[.string s, .string p] w fun e w' => e = .returned (.bool (Lib.hasPrefix s.data.toList p.data.toList)) ∧ w = w' :=
  (Tryd.strings_HasPrefix s p w).mono fun _ _ ⟨h1, h2⟩ => ⟨h1, h2.symm⟩

set_option maxRecDepth 20000 in
set_option maxHeartbeats 1600000 in
theorem mark_any (s : ByteArray) (w : World) (h0 : 0 < s.size) (hs : s.size ≤ 9223372036854775807) : Calls Tryd.prog 35 #[.string s] w fun e w' => e = .returned (.int .i64 (markN s.data.toList)) ∧ w = w' := by
  obtain ⟨c, hc⟩ := str_at h0
  have hix := fun W => run_strIx (P := Tryd.prog) Tryd.underlying9 hc (i := ((0 : Nat) : Int)) rfl .i64 W
  replace hix : ∀ W, (Instr.index 9 (.string s) (.int .i64 0)).run Tryd.prog W = .ok (.int .u8 (c.toNat : Int)) W := hix
  by_cases hp : Lib.hasPrefix s.data.toList [95, 95] = true
  · have hm : markN s.data.toList = 2 := by unfold markN; rw [if_pos hp]
    rw [hm]
    replace hm := box hm
    replace hp : Lib.hasPrefix s.data.toList [95, 95] = true := hp
    go_enter Tryd.func35, Tryd.ntmps35
    go_wp2_with (refine (hasPre_any _ _ _).mono ?_; rintro e w' ⟨rfl, rfl⟩)
    go_ret
    exact ⟨rfl, rfl⟩
  · have hpf : Lib.hasPrefix s.data.toList [95, 95] = false := by simpa using hp
    by_cases h1 : c = 46
    · subst h1
      have hm : markN s.data.toList = 1 := by unfold markN; rw [if_neg hp, if_pos (.inl hc)]
      rw [hm]
      replace hm := box hm
      replace hc := box hc
      clear hp
      replace hix : ∀ W, (Instr.index 9 (.string s) (.int .i64 0)).run Tryd.prog W = .ok (.int .u8 46) W := hix
      go_enter Tryd.func35, Tryd.ntmps35
      go_wp2_with (refine (hasPre_any _ _ _).mono ?_; rintro e w' ⟨rfl, rfl⟩)
      go_ret
      exact ⟨rfl, rfl⟩
    · by_cases h2 : c = 95
      · subst h2
        have hm : markN s.data.toList = 1 := by unfold markN; rw [if_neg hp, if_pos (.inr hc)]
        rw [hm]
        replace hm := box hm
        replace hc := box hc
        clear hp
        replace hix : ∀ W, (Instr.index 9 (.string s) (.int .i64 0)).run Tryd.prog W = .ok (.int .u8 95) W := hix
        go_enter Tryd.func35, Tryd.ntmps35
        go_wp2_with (refine (hasPre_any _ _ _).mono ?_; rintro e w' ⟨rfl, rfl⟩)
        go_ret
        exact ⟨rfl, rfl⟩
      · have hm := box (show markN s.data.toList = dashes s.data.toList by
          unfold markN; rw [if_neg hp, if_neg]
          rw [hc]; simp [h1, h2])
        generalize markN s.data.toList = M at *
        have e1 : ((c.toNat : Int) == 46) = false := u8_ne (d := 46) h1
        have e2 : ((c.toNat : Int) == 95) = false := u8_ne (d := 95) h2
        clear h1 h2 hp hc
        go_enter Tryd.func35, Tryd.ntmps35
        go_wp2_with (refine (hasPre_any _ _ _).mono ?_; rintro e w' ⟨rfl, rfl⟩)
        clear hix
        go_loop [3] (fun i => ∃ k : Nat, k ≤ s.size ∧ i = .int .i64 k ∧ Box (∀ j, j < k → s.data.toList[j]? = some 45)) (fun i => s.size - (intOf i).toNat)
        case atStart => exact ⟨0, by omega, rfl, box fun j h => absurd h (by omega)⟩
        case round =>
          obtain ⟨k, hk, rfl, hall⟩ := hrel
          by_cases hlt : k < s.size
          · obtain ⟨d, hd⟩ := str_at hlt
            have hix := fun W => run_strIx (P := Tryd.prog) Tryd.underlying9 hd (i := (k : Int)) rfl .i64 W
            by_cases h45 : d = 45
            · subst h45
              replace hd := box hd
              replace hix : ∀ W, (Instr.index 9 (.string s) (.int .i64 (k : Int))).run Tryd.prog W = .ok (.int .u8 45) W := hix
              go_wp2
              go_round
              case rel => exact ⟨k + 1, by omega, by go_num, box fun j hj => by rcases Nat.lt_or_ge j k with h | h; exact hall.out j h; obtain rfl : j = k := by omega
                                                                                exact hd.out⟩
              case measure => simp [intOf]; omega
            · have e3 : ((d.toNat : Int) == 45) = false := u8_ne (d := 45) h45
              have hfin := box (dashes_at s.data.toList k hall.out (by rw [hd]; simpa using h45))
              clear hall h45
              replace hd := box hd
              go_wp2
              go_ret
              exact ⟨by rw [hm.out, hfin.out]; rfl, rfl⟩
          · have hfin := box (dashes_at s.data.toList k hall.out (by rw [List.getElem?_eq_none (by rw [str_len]; omega)]; simp))
            clear hall
            go_wp2
            go_ret
            exact ⟨by rw [hm.out, hfin.out]; rfl, rfl⟩

def strLen : Value → Nat
  | .string b => b.size
  | _ => 0
theorem ext_list (s : ByteArray) (a : Nat) : (s.extract a s.size).data.toList = s.data.toList.drop a := Lib.extract_to_end s a
theorem ext_size (s : ByteArray) (a : Nat) : (s.extract a s.size).size = s.size - a := by rw [← str_len, ext_list, List.length_drop, str_len]

set_option maxRecDepth 20000 in
set_option maxHeartbeats 3200000 in
theorem part_any (s : ByteArray) (w : World) (hs : s.size ≤ 9223372036854775807) : Calls Tryd.prog 22 #[.string s] w fun e w' => e = .returned (.bool (accP 0 s.data.toList)) ∧ w = w' := by
  have hR0 := box (rfl : accP 0 s.data.toList = accP 0 s.data.toList)
  obtain ⟨R, hR⟩ : ∃ R, R = accP 0 s.data.toList := ⟨_, rfl⟩
  rw [← hR]
  replace hR := box hR
  clear hR0
  go_enter Tryd.func22, Tryd.ntmps22
  go_wp2
  go_loop [0] (fun v => ∃ t : ByteArray, v = .string t ∧ t.size ≤ s.size ∧ Box (R = accP 0 t.data.toList)) (fun v => strLen v)
  case atStart => exact ⟨s, rfl, by omega, hR⟩
  case round =>
    clear hR
    obtain ⟨t, rfl, ht, hA⟩ := hrel
    go_wp2
    go_loop [3] (fun i => ∃ k : Nat, k ≤ t.size ∧ i = .int .i64 k ∧ Box (∀ j c, j < k → t.data.toList[j]? = some c → smallB c = true)) (fun i => t.size - (intOf i).toNat)
    case atStart => exact ⟨0, by omega, rfl, box fun j c h => absurd h (by omega)⟩
    case round =>
      obtain ⟨k, hk, rfl, hall⟩ := hrel
      by_cases hlt : k < t.size
      · obtain ⟨d, hd⟩ := str_at hlt
        have hix := fun W => run_strIx (P := Tryd.prog) Tryd.underlying9 hd (i := (k : Int)) rfl .i64 W
        cases hsm : smallB d with
        | true =>
          have hall' : Box (∀ j c, j < k + 1 → t.data.toList[j]? = some c → smallB c = true) := box fun j c hj hc => by
            rcases Nat.lt_or_ge j k with h | h
            · exact hall.out j c h hc
            · obtain rfl : j = k := by omega
              rw [hd] at hc; injection hc with hc; subst hc; exact hsm
          replace hd := box hd
          go_wp2_with (refine (small_any d _ rfl _).mono ?_; rintro e w' ⟨rfl, rfl⟩)
          go_round
          case rel => exact ⟨k + 1, by omega, by go_num, hall'⟩
          case measure => simp [intOf]; omega
        | false =>
          have hdr : t.data.toList.drop k = d :: t.data.toList.drop (k + 1) := by
            obtain ⟨h1, h2⟩ := List.getElem?_eq_some_iff.1 hd
            rw [List.drop_eq_getElem_cons h1, h2]
          rcases Nat.eq_zero_or_pos k with h0 | h0
          · have hfin : Box (R = false) := box (by
              rw [hA.out]
              rw [h0, List.drop_zero] at hdr
              rw [hdr]; exact accP_none hsm)
            have hk0 : ((k : Int) == 0) = true := by rw [beq_iff_eq]; omega
            have hk1 : decide (0 < k) = false := decide_eq_false (by omega)
            clear hA hall hdr h0
            replace hd := box hd
            go_wp2_with (refine (small_any d _ rfl _).mono ?_; rintro e w' ⟨rfl, rfl⟩)
            go_ret
            exact ⟨by rw [hfin.out]; rfl, rfl⟩
          · have hA1 : R = accP 1 (d :: t.data.toList.drop (k + 1)) := by
              rw [hA.out, accP_smalls k _ 0 (by rw [str_len]; omega) hall.out h0, hdr]
            have hmk := mark_acc (l := t.data.toList.drop (k + 1)) hsm
            rw [← hdr, ← ext_list] at hmk hA1
            have hml := mark_le (t.extract k t.size).data.toList (by rw [str_len, ext_size]; omega)
            rw [str_len, ext_size] at hml
            have hcall := box (fun w => mark_any (t.extract k t.size) w (by rw [ext_size]; omega) (by rw [ext_size]; omega))
            have hsz := box (ext_size t k)
            have hk0 : ((k : Int) == 0) = false := by rw [beq_eq_false_iff_ne]; omega
            have hkt : ((k : Int) == (t.size : Int)) = false := by rw [beq_eq_false_iff_ne]; omega
            generalize markN (t.extract k t.size).data.toList = m at *
            rw [← hA1] at hmk
            clear hA1 hA hall hdr
            replace hd := box hd
            rcases Nat.eq_zero_or_pos m with hm | hm
            · subst hm
              have hfin := box (hmk.1 rfl)
              clear hmk
              go_wp2_with (first | (go_at_call 34; refine (small_any d _ rfl _).mono ?_; rintro e w' ⟨rfl, rfl⟩) | (go_at_call 35; refine (hcall.out _).mono ?_; rintro e w' ⟨rfl, rfl⟩))
              go_ret
              exact ⟨by rw [hfin.out]; rfl, rfl⟩
            · have hfin := box (hmk.2 hm)
              clear hmk
              have hl2 := ext_list (t.extract k t.size) m
              rw [ext_size] at hl2
              replace hl2 := box hl2
              have hm0 : ((m : Int) == 0) = false := by rw [beq_eq_false_iff_ne]; omega
              go_wp2_with (first | (go_at_call 34; refine (small_any d _ rfl _).mono ?_; rintro e w' ⟨rfl, rfl⟩) | (go_at_call 35; refine (hcall.out _).mono ?_; rintro e w' ⟨rfl, rfl⟩))
              --DBG
              go_round
              case rel => exact ⟨_, rfl, by simp; omega, box (by rw [hfin.out, hl2.out])⟩
              case measure => simp [strLen]; omega
      · obtain rfl : k = t.size := by omega
        rcases Nat.eq_zero_or_pos t.size with h0 | h0
        · have hfin : Box (R = false) := box (by rw [hA.out, List.eq_nil_of_length_eq_zero (l := t.data.toList) (by rw [str_len]; exact h0)]; rfl)
          have hk0 : ((t.size : Int) == 0) = true := by rw [beq_iff_eq]; omega
          have hk1 : decide (0 < t.size) = false := decide_eq_false (by omega)
          clear hA hall
          go_wp2
          go_ret
          exact ⟨by rw [hfin.out]; rfl, rfl⟩
        · have hfin : Box (R = true) := box (by rw [hA.out, accP_smalls t.size _ 0 (by rw [str_len]; omega) hall.out h0, List.drop_of_length_le (by rw [str_len]; omega)]; rfl)
          have hk0 : ((t.size : Int) == 0) = false := by rw [beq_eq_false_iff_ne]; omega
          have hk1 : decide (0 < t.size) = true := decide_eq_true (by omega)
          clear hA hall
          go_wp2
          go_ret
          exact ⟨by rw [hfin.out]; rfl, rfl⟩
end Go.Proofs.YtgcoebndhnijgaaDoor
