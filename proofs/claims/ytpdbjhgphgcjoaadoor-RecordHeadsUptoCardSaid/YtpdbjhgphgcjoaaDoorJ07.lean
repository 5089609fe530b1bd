/-
  Layer 7: the walks of mark and part.
  Layer 7: the walk of IsRepo.
  Layer 7: the walks of IsTag, both texts.
-/
import Derived.Test.YtpdbjhgphgcjoaaDoorJ06
import Derived.Test.YtpdbjhgphgcjoaaDoorJ02
import Derived.Test.YtpdbjhgphgcjoaaDoorJ03
namespace Go.Proofs.YtpdbjhgphgcjoaaDoor
open Go.RowKit

theorem hasPre_any (s p : ByteArray) (w : World) : Calls Tryd.prog 50 #[.string s, .string p] w fun e w' => e = .returned (.bool (Lib.hasPrefix s.data.toList p.data.toList)) ∧ w = w' :=
  (Tryd.strings_HasPrefix s p w).mono fun _ _ ⟨h1, h2⟩ => ⟨h1, h2.symm⟩

set_option maxRecDepth 20000 in
set_option maxHeartbeats 1600000 in
theorem mark_any (s : ByteArray) (w : World) (h0 : 0 < s.size) (hs : s.size ≤ 9223372036854775807) : Calls Tryd.prog 46 #[.string s] w fun e w' => e = .returned (.int .i64 (markN s.data.toList)) ∧ w = w' := by
  obtain ⟨c, hc⟩ := str_at h0
  have hix := fun W => run_strIx (P := Tryd.prog) Tryd.underlying9 hc (i := ((0 : Nat) : Int)) rfl .i64 W
  replace hix : ∀ W, (Instr.index 9 (.string s) (.int .i64 0)).run Tryd.prog W = .ok (.int .u8 (c.toNat : Int)) W := hix
  by_cases hp : Lib.hasPrefix s.data.toList [95, 95] = true
  · have hm : markN s.data.toList = 2 := by unfold markN; rw [if_pos hp]
    rw [hm]
    replace hm := box hm
    replace hp : Lib.hasPrefix s.data.toList [95, 95] = true := hp
    go_enter Tryd.func46, Tryd.ntmps46
    go_wp2_with (refine (hasPre_any _ _ _).mono ?_; rintro e w' ⟨rfl, rfl⟩)
    go_ret
    exact ⟨rfl, rfl⟩
  · have hpf : Lib.hasPrefix s.data.toList [95, 95] = false := by simpa using hp
    by_cases h1 : c = 46
    · subst h1
      have hm : markN s.data.toList = 1 := by unfold markN; rw [if_neg hp, if_pos (.inl hc)]
      rw [hm]
      replace hm := box hm
      replace hc := box hc
      clear hp
      replace hix : ∀ W, (Instr.index 9 (.string s) (.int .i64 0)).run Tryd.prog W = .ok (.int .u8 46) W := hix
      go_enter Tryd.func46, Tryd.ntmps46
      go_wp2_with (refine (hasPre_any _ _ _).mono ?_; rintro e w' ⟨rfl, rfl⟩)
      go_ret
      exact ⟨rfl, rfl⟩
    · by_cases h2 : c = 95
      · subst h2
        have hm : markN s.data.toList = 1 := by unfold markN; rw [if_neg hp, if_pos (.inr hc)]
        rw [hm]
        replace hm := box hm
        replace hc := box hc
        clear hp
        replace hix : ∀ W, (Instr.index 9 (.string s) (.int .i64 0)).run Tryd.prog W = .ok (.int .u8 95) W := hix
        go_enter Tryd.func46, Tryd.ntmps46
        go_wp2_with (refine (hasPre_any _ _ _).mono ?_; rintro e w' ⟨rfl, rfl⟩)
        go_ret
        exact ⟨rfl, rfl⟩
      · have hm := box (show markN s.data.toList = dashes s.data.toList by
          unfold markN; rw [if_neg hp, if_neg]
          rw [hc]; simp [h1, h2])
        generalize markN s.data.toList = M at *
        have e1 : ((c.toNat : Int) == 46) = false := u8_ne (d := 46) h1
        have e2 : ((c.toNat : Int) == 95) = false := u8_ne (d := 95) h2
        clear h1 h2 hp hc
        go_enter Tryd.func46, Tryd.ntmps46
        go_wp2_with (refine (hasPre_any _ _ _).mono ?_; rintro e w' ⟨rfl, rfl⟩)
        clear hix
        go_loop [3] (fun i => ∃ k : Nat, k ≤ s.size ∧ i = .int .i64 k ∧ Box (∀ j, j < k → s.data.toList[j]? = some 45)) (fun i => s.size - (intOf i).toNat)
        case atStart => exact ⟨0, by omega, rfl, box fun j h => absurd h (by omega)⟩
        case round =>
          obtain ⟨k, hk, rfl, hall⟩ := hrel
          by_cases hlt : k < s.size
          · obtain ⟨d, hd⟩ := str_at hlt
            have hix := fun W => run_strIx (P := Tryd.prog) Tryd.underlying9 hd (i := (k : Int)) rfl .i64 W
            by_cases h45 : d = 45
            · subst h45
              replace hd := box hd
              replace hix : ∀ W, (Instr.index 9 (.string s) (.int .i64 (k : Int))).run Tryd.prog W = .ok (.int .u8 45) W := hix
              go_wp2
              go_round
              case rel => exact ⟨k + 1, by omega, by go_num, box fun j hj => by rcases Nat.lt_or_ge j k with h | h; exact hall.out j h; obtain rfl : j = k := by omega
                                                                                exact hd.out⟩
              case measure => simp [intOf]; omega
            · have e3 : ((d.toNat : Int) == 45) = false := u8_ne (d := 45) h45
              have hfin := box (dashes_at s.data.toList k hall.out (by rw [hd]; simpa using h45))
              clear hall h45
              replace hd := box hd
              go_wp2
              go_ret
              exact ⟨by rw [hm.out, hfin.out]; rfl, rfl⟩
          · have hfin := box (dashes_at s.data.toList k hall.out (by rw [List.getElem?_eq_none (by rw [str_len]; omega)]; simp))
            clear hall
            go_wp2
            go_ret
            exact ⟨by rw [hm.out, hfin.out]; rfl, rfl⟩

def strLen : Value → Nat
  | .string b => b.size
  | _ => 0
theorem ext_list (s : ByteArray) (a : Nat) : (s.extract a s.size).data.toList = s.data.toList.drop a := Lib.extract_to_end s a
theorem ext_size (s : ByteArray) (a : Nat) : (s.extract a s.size).size = s.size - a := by rw [← str_len, ext_list, List.length_drop, str_len]

set_option maxRecDepth 20000 in
set_option maxHeartbeats 3200000 in
theorem part_any (s : ByteArray) (w : World) (hs : s.size ≤ 9223372036854775807) : Calls Tryd.prog 38 #[.string s] w fun e w' => e = .returned (.bool (accP 0 s.data.toList)) ∧ w = w' := by
  have hR0 := box (rfl : accP 0 s.data.toList = accP 0 s.data.toList)
  obtain ⟨R, hR⟩ : ∃ R, R = accP 0 s.data.toList := ⟨_, rfl⟩
  rw [← hR]
  replace hR := box hR
  clear hR0
  go_enter Tryd.func38, Tryd.ntmps38
  go_wp2
  go_loop [0] (fun v => ∃ t : ByteArray, v = .string t ∧ t.size ≤ s.size ∧ Box (R = accP 0 t.data.toList)) (fun v => strLen v)
  case atStart => exact ⟨s, rfl, by omega, hR⟩
  case round =>
    clear hR
    obtain ⟨t, rfl, ht, hA⟩ := hrel
    go_wp2
    go_loop [3] (fun i => ∃ k : Nat, k ≤ t.size ∧ i = .int .i64 k ∧ Box (∀ j c, j < k → t.data.toList[j]? = some c → smallB c = true)) (fun i => t.size - (intOf i).toNat)
    case atStart => exact ⟨0, by omega, rfl, box fun j c h => absurd h (by omega)⟩
    case round =>
      obtain ⟨k, hk, rfl, hall⟩ := hrel
      by_cases hlt : k < t.size
      · obtain ⟨d, hd⟩ := str_at hlt
        have hix := fun W => run_strIx (P := Tryd.prog) Tryd.underlying9 hd (i := (k : Int)) rfl .i64 W
        cases hsm : smallB d with
        | true =>
          have hall' : Box (∀ j c, j < k + 1 → t.data.toList[j]? = some c → smallB c = true) := box fun j c hj hc => by
            rcases Nat.lt_or_ge j k with h | h
            · exact hall.out j c h hc
            · obtain rfl : j = k := by omega
              rw [hd] at hc; injection hc with hc; subst hc; exact hsm
          replace hd := box hd
          go_wp2_with (refine (small_any d _ rfl _).mono ?_; rintro e w' ⟨rfl, rfl⟩)
          go_round
          case rel => exact ⟨k + 1, by omega, by go_num, hall'⟩
          case measure => simp [intOf]; omega
        | false =>
          have hdr : t.data.toList.drop k = d :: t.data.toList.drop (k + 1) := by
            obtain ⟨h1, h2⟩ := List.getElem?_eq_some_iff.1 hd
            rw [List.drop_eq_getElem_cons h1, h2]
          rcases Nat.eq_zero_or_pos k with h0 | h0
          · have hfin : Box (R = false) := box (by
              rw [hA.out]
              rw [h0, List.drop_zero] at hdr
              rw [hdr]; exact accP_none hsm)
            have hk0 : ((k : Int) == 0) = true := by rw [beq_iff_eq]; omega
            have hk1 : decide (0 < k) = false := decide_eq_false (by omega)
            clear hA hall hdr h0
            replace hd := box hd
            go_wp2_with (refine (small_any d _ rfl _).mono ?_; rintro e w' ⟨rfl, rfl⟩)
            go_ret
            exact ⟨by rw [hfin.out]; rfl, rfl⟩
          · have hA1 : R = accP 1 (d :: t.data.toList.drop (k + 1)) := by
              rw [hA.out, accP_smalls k _ 0 (by rw [str_len]; omega) hall.out h0, hdr]
            have hmk := mark_acc (l := t.data.toList.drop (k + 1)) hsm
            rw [← hdr, ← ext_list] at hmk hA1
            have hml := mark_le (t.extract k t.size).data.toList (by rw [str_len, ext_size]; omega)
            rw [str_len, ext_size] at hml
            have hcall := box (fun w => mark_any (t.extract k t.size) w (by rw [ext_size]; omega) (by rw [ext_size]; omega))
            have hsz := box (ext_size t k)
            have hk0 : ((k : Int) == 0) = false := by rw [beq_eq_false_iff_ne]; omega
            have hkt : ((k : Int) == (t.size : Int)) = false := by rw [beq_eq_false_iff_ne]; omega
            generalize markN (t.extract k t.size).data.toList = m at *
            rw [← hA1] at hmk
            clear hA1 hA hall hdr
            replace hd := box hd
            rcases Nat.eq_zero_or_pos m with hm | hm
            · subst hm
              have hfin := box (hmk.1 rfl)
              clear hmk
              go_wp2_with (first | (go_at_call 45; refine (small_any d _ rfl _).mono ?_; rintro e w' ⟨rfl, rfl⟩) | (go_at_call 46; refine (hcall.out _).mono ?_; rintro e w' ⟨rfl, rfl⟩))
              go_ret
              exact ⟨by rw [hfin.out]; rfl, rfl⟩
            · have hfin := box (hmk.2 hm)
              clear hmk
              have hl2 := ext_list (t.extract k t.size) m
              rw [ext_size] at hl2
              replace hl2 := box hl2
              have hm0 : ((m : Int) == 0) = false := by rw [beq_eq_false_iff_ne]; omega
              go_wp2_with (first | (go_at_call 45; refine (small_any d _ rfl _).mono ?_; rintro e w' ⟨rfl, rfl⟩) | (go_at_call 46; refine (hcall.out _).mono ?_; rintro e w' ⟨rfl, rfl⟩))
              --DBG
              go_round
              case rel => exact ⟨_, rfl, by simp; omega, box (by rw [hfin.out, hl2.out])⟩
              case measure => simp [strLen]; omega
      · obtain rfl : k = t.size := by omega
        rcases Nat.eq_zero_or_pos t.size with h0 | h0
        · have hfin : Box (R = false) := box (by rw [hA.out, List.eq_nil_of_length_eq_zero (l := t.data.toList) (by rw [str_len]; exact h0)]; rfl)
          have hk0 : ((t.size : Int) == 0) = true := by rw [beq_iff_eq]; omega
          have hk1 : decide (0 < t.size) = false := decide_eq_false (by omega)
          clear hA hall
          go_wp2
          go_ret
          exact ⟨by rw [hfin.out]; rfl, rfl⟩
        · have hfin : Box (R = true) := box (by rw [hA.out, accP_smalls t.size _ 0 (by rw [str_len]; omega) hall.out h0, List.drop_of_length_le (by rw [str_len]; omega)]; rfl)
          have hk0 : ((t.size : Int) == 0) = false := by rw [beq_eq_false_iff_ne]; omega
          have hk1 : decide (0 < t.size) = true := decide_eq_true (by omega)
          clear hA hall
          go_wp2
          go_ret
          exact ⟨by rw [hfin.out]; rfl, rfl⟩
end Go.Proofs.YtpdbjhgphgcjoaaDoor

namespace Go.Proofs.YtpdbjhgphgcjoaaDoor
open Go.RowKit

theorem T_str : SlT Tryd.prog 71 9 1 16 (.string ByteArray.empty) := ⟨Tryd.underlying71, by kernel_rfl, rfl, by decide⟩
/-- The library's variable MaxLen holds a number. -/
def MaxW (w : World) : Prop := ∃ m : Int, w.cell? ⟨0, 0, none⟩ = some (.int .i64 m)
theorem MaxW.on {w w' : World} (h : MaxW w) (hb : Below w.heap.size w w') : MaxW w' := by
  obtain ⟨m, hm⟩ := h
  have hlt := World.block_lt_of_cell? w _ hm
  exact ⟨m, by rw [hb.cell (p := ⟨0, 0, none⟩) hlt]; exact hm⟩
theorem parts_le : ∀ (l p : List UInt8), p ∈ parts47 l → p.length ≤ l.length
  | [], p, h => by simp [parts47] at h; subst h; exact Nat.le_refl _
  | c :: l, p, h => by
    rw [parts47] at h
    have ih := parts_le l
    by_cases hc : c = 47
    · rw [if_pos hc] at h
      rcases List.mem_cons.1 h with rfl | h
      · simp
      · have := ih p h; simp; omega
    · rw [if_neg hc] at h
      cases hp : parts47 l with
      | nil => exact absurd hp (parts_ne l)
      | cons q qs =>
        rw [hp] at h ih
        rcases List.mem_cons.1 h with rfl | h
        · have := ih q (by simp); simp; omega
        · have := ih p (by simp [h]); simp; omega

set_option maxRecDepth 20000 in
set_option maxHeartbeats 1600000 in
theorem repo_any (s : ByteArray) (w : World) (hM : MaxW w) (hs : s.size ≤ 9223372036854775807) : Calls Tryd.prog 27 #[.string s] w fun e w' => e = .returned (.bool (repoB s.data.toList)) ∧ Below w.heap.size w w' := by
  obtain ⟨m, hm⟩ := hM
  by_cases hle : s.size ≤ 128
  · have hSp := Tryd.strings_Split s slash m w (by omega) hm (by decide)
    have hlen := split_len s
    have hpp := split_parts s
    have hR : repoB s.data.toList = (parts47 s.data.toList).all (accP 0) := by
      unfold repoB
      rw [decide_eq_true (by rw [str_len]; exact hle), Bool.and_true, acc_all]
    generalize Lib.splitB slash 0 (Lib.countB s slash) s = ps at *
    obtain ⟨N, hN⟩ : ∃ N, N = Lib.countB s slash + 1 := ⟨_, rfl⟩
    rw [← hN] at hSp hlen
    have hsz : Box (∀ (j : Nat) (p : ByteArray), ps[j]? = some p → p.size ≤ 128) := box fun j p hp => by
      have h1 := parts_le s.data.toList p.data.toList (by rw [← hpp]; exact List.mem_map_of_mem (List.mem_of_getElem? hp))
      rw [str_len, str_len] at h1; omega
    have hRp : Box (repoB s.data.toList = ps.all (fun p => accP 0 p.data.toList)) := box (by rw [hR, ← hpp, List.all_map]; rfl)
    generalize repoB s.data.toList = R at *
    have hN2 : N ≤ 1000 := by
      have := hlen
      have h3 : (parts47 s.data.toList).length = N := by rw [← hpp, List.length_map, hlen]
      have h4 : ∀ l : List UInt8, (parts47 l).length ≤ l.length + 1 := by
        intro l
        induction l with
        | nil => simp [parts47]
        | cons c l ih =>
          rw [parts47]
          split
          · simp; omega
          · cases hp : parts47 l with
            | nil => simp
            | cons q qs => rw [hp] at ih; simp at ih ⊢; omega
      have := h4 s.data.toList
      rw [str_len] at this; omega
    clear hpp hR hN
    have hF1 := (Fr.nil w).alloc 9 (ps.map Value.string)
    have hr : Rd (w.alloc (.cells (ps.map Value.string).toArray 9)) (· < (w.alloc (.cells (ps.map Value.string).toArray 9)).heap.size) (some ⟨w.heap.size, 0, none⟩) 1 N (ps.map Value.string) :=
      hF1.rdBlk (i := 0) (off := 0) rfl (by rw [List.length_map, hlen]) (by rw [List.drop_zero, List.take_of_length_le (by rw [List.length_map, hlen]; exact Nat.le_refl _)])
    have hB := hF1.below
    clear hF1
    replace hSp := box hSp
    replace hlen := box hlen
    generalize w.alloc (.cells (ps.map Value.string).toArray 9) = w1 at *
    go_enter Tryd.func27, Tryd.ntmps27
    go_wp2_with (go_at_call 37; refine hSp.out.mono ?_; rintro e w' ⟨rfl, rfl⟩)
    go_loop [11] (fun i => ∃ k : Nat, k ≤ N ∧ i = .int .i64 k ∧ Box (∀ (j : Nat) (p : ByteArray), j < k → ps[j]? = some p → accP 0 p.data.toList = true)) (fun i => N - (intOf i).toNat)
    case atStart => exact ⟨0, by omega, rfl, box fun j p h => absurd h (by omega)⟩
    case round =>
      obtain ⟨k, hk, rfl, hall⟩ := hrel
      by_cases hlt : k < N
      · obtain ⟨p, hp⟩ : ∃ p, ps[k]? = some p := ⟨ps[k]'(by have := hlen.out; omega), by simp⟩
        have hx : (ps.map Value.string)[k]? = some (.string p) := by rw [List.getElem?_map, hp]; rfl
        have hps := hsz.out k p hp
        replace hx := box hx
        cases ha : accP 0 p.data.toList with
        | true =>
          have hall' : Box (∀ (j : Nat) (q : ByteArray), j < k + 1 → ps[j]? = some q → accP 0 q.data.toList = true) := box fun j q hj hq => by
            rcases Nat.lt_or_ge j k with h | h
            · exact hall.out j q h hq
            · obtain rfl : j = k := by omega
              rw [hp] at hq; injection hq with hq; subst hq; exact ha
          replace hp := box hp
          go_wp2_with (first | (go_at_call 38; refine (part_any p _ (by omega)).mono ?_; rintro e w' ⟨rfl, rfl⟩) | (with_reducible refine lst (by with_unfolding_all rfl) (wp_indexAddr T_str hr (by with_unfolding_all exact ⟨_, _, _, _, rfl, rfl, rfl⟩) (by omega) (by omega) ?_)) | (with_reducible refine lst (by with_unfolding_all rfl) (wp_load1C hr hx Tryd.underlying9 rfl (by with_unfolding_all exact ⟨_, rfl, rfl⟩) (by first | (simp; done) | (simp; omega) | omega) ?_)))
          go_round
          case rel => exact ⟨k + 1, by omega, by go_num, hall'⟩
          case measure => simp [intOf]; omega
        | false =>
          have hfin : Box (R = false) := box (by
            rw [hRp.out]
            cases hq : ps.all (fun p => accP 0 p.data.toList) with
            | false => rfl
            | true => have := List.all_eq_true.1 hq p (List.mem_of_getElem? hp); rw [ha] at this; cases this)
          replace hp := box hp
          clear hall
          go_wp2_with (first | (go_at_call 38; refine (part_any p _ (by omega)).mono ?_; rintro e w' ⟨rfl, rfl⟩) | (with_reducible refine lst (by with_unfolding_all rfl) (wp_indexAddr T_str hr (by with_unfolding_all exact ⟨_, _, _, _, rfl, rfl, rfl⟩) (by omega) (by omega) ?_)) | (with_reducible refine lst (by with_unfolding_all rfl) (wp_load1C hr hx Tryd.underlying9 rfl (by with_unfolding_all exact ⟨_, rfl, rfl⟩) (by first | (simp; done) | (simp; omega) | omega) ?_)))
          go_ret
          exact ⟨by rw [hfin.out]; rfl, hB⟩
      · have hfin : Box (R = true) := box (by
          rw [hRp.out]
          refine List.all_eq_true.2 fun p hp => ?_
          obtain ⟨j, hj⟩ := List.mem_iff_getElem?.1 hp
          have h1 := (List.getElem?_eq_some_iff.1 hj).1
          exact hall.out j p (by have := hlen.out; omega) hj)
        clear hall
        go_wp2
        go_ret
        exact ⟨by rw [hfin.out]; rfl, hB⟩
  · have hR : repoB s.data.toList = false := by
      unfold repoB
      rw [decide_eq_false (by rw [str_len]; exact hle), Bool.and_false]
    rw [hR]
    clear hR
    go_enter Tryd.func27, Tryd.ntmps27
    go_wp2
    go_ret
    exact ⟨rfl, Below.refl _ _⟩
end Go.Proofs.YtpdbjhgphgcjoaaDoor

namespace Go.Proofs.YtpdbjhgphgcjoaaDoor
open Go.RowKit

set_option maxRecDepth 20000 in
set_option maxHeartbeats 3200000 in
theorem tag_any (s : ByteArray) (w : World) (hs : s.size ≤ 9223372036854775807) : Calls Tryd.prog 28 #[.string s] w fun e w' => e = .returned (.bool (tagB s.data.toList)) ∧ w = w' := by
  have hlb := box (str_len s)
  generalize hR : tagB s.data.toList = R
  replace hR := box hR
  by_cases h0 : s.size = 0
  · have hno : Box (R = false) := box (by rw [← hR.out]; unfold tagB; rw [decide_eq_false (by rw [str_len]; omega)]; rfl)
    obtain rfl : s = ByteArray.empty := by apply ByteArray.ext; apply Array.eq_empty_of_size_eq_zero; exact h0
    go_enter Tryd.func28, Tryd.ntmps28
    go_wp2
    go_ret
    exact ⟨by rw [hno.out]; rfl, rfl⟩
  · obtain ⟨c0, hc0⟩ := str_at (s := s) (j := 0) (by omega)
    have hE : s.toList.isEmpty = false := by rw [ByteArray.toList_eq]; cases hq : s.data.toList with
      | nil => rw [hq] at hc0; simp at hc0
      | cons a b => rfl
    have hix0 : ∀ W, (Instr.index 9 (.string s) (.int .i64 0)).run Tryd.prog W = .ok (.int .u8 (c0.toNat : Int)) W := fun W => run_strIx (P := Tryd.prog) Tryd.underlying9 hc0 (i := ((0 : Nat) : Int)) rfl .i64 W
    by_cases hle : s.size ≤ 128
    · have hh : headOk s.data.toList = (c0 != 46 && c0 != 45) := by cases hq : s.data.toList with
        | nil => rw [hq] at hc0; simp at hc0
        | cons a b => rw [hq] at hc0; simp at hc0; subst hc0; rfl
      by_cases h46 : c0 = 46
      · subst h46
        have hno : Box (R = false) := box (by rw [← hR.out]; unfold tagB; rw [hh]; simp)
        replace hc0 := box hc0
        replace hh := box hh
        replace hix0 : ∀ W, (Instr.index 9 (.string s) (.int .i64 0)).run Tryd.prog W = .ok (.int .u8 46) W := hix0
        go_enter Tryd.func28, Tryd.ntmps28
        go_wp2
        go_ret
        exact ⟨by rw [hno.out]; rfl, rfl⟩
      · skip
        by_cases h45 : c0 = 45
        · subst h45
          have hno : Box (R = false) := box (by rw [← hR.out]; unfold tagB; rw [hh]; simp)
          replace hc0 := box hc0
          replace hh := box hh
          replace hix0 : ∀ W, (Instr.index 9 (.string s) (.int .i64 0)).run Tryd.prog W = .ok (.int .u8 45) W := hix0
          go_enter Tryd.func28, Tryd.ntmps28
          go_wp2
          go_ret
          exact ⟨by rw [hno.out]; rfl, rfl⟩
        · have e46 : ((c0.toNat : Int) == 46) = false := u8_ne (d := 46) h46
          have e45 : ((c0.toNat : Int) == 45) = false := u8_ne (d := 45) h45
          have hRt : Box (R = s.data.toList.all tagA) := box (by
            rw [← hR.out]; unfold tagB
            rw [hh, decide_eq_true (by rw [str_len]; omega), decide_eq_true (by rw [str_len]; omega), bne_iff_ne.2 h46, bne_iff_ne.2 h45]; rfl)
          clear h46 h45 hh hR
          replace hc0 := box hc0
          go_enter Tryd.func28, Tryd.ntmps28
          go_wp2
          clear hix0 e46 e45
          go_loop [23] (fun i => ∃ k : Nat, k ≤ s.size ∧ i = .int .i64 k ∧ Box (∀ (j : Nat) c, j < k → s.data.toList[j]? = some c → tagA c = true)) (fun i => s.size - (intOf i).toNat)
          case atStart => exact ⟨0, by omega, rfl, box fun j c h => absurd h (by omega)⟩
          case round =>
            obtain ⟨k, hk, rfl, hall⟩ := hrel
            by_cases hlt : k < s.size
            · obtain ⟨d, hd⟩ := str_at hlt
              have hix := fun W => run_strIx (P := Tryd.prog) Tryd.underlying9 hd (i := (k : Int)) rfl .i64 W
              have hgo : Box (tagA d = true → ∀ (j : Nat) c, j < k + 1 → s.data.toList[j]? = some c → tagA c = true) := box fun hta j c hj hc => by
                rcases Nat.lt_or_ge j k with h | h
                · exact hall.out j c h hc
                · obtain rfl : j = k := by omega
                  rw [hd] at hc; injection hc with hc; subst hc; exact hta
              have hst : Box (tagA d = false → R = false) := box fun h => by rw [hRt.out]; exact all_not hd h
              clear hall
              replace hd := box hd
              cases hsg : signB d with
              | true =>
                have hta : Box (tagA d = true) := box (by unfold tagA; rw [hsg]; rfl)
                go_wp2_with (refine (sign_any d _ rfl _).mono ?_; rintro e w' ⟨rfl, rfl⟩)
                go_round
                case rel => exact ⟨k + 1, by omega, by go_num, box (hgo.out hta.out)⟩
                case measure => simp [intOf]; omega
              | false =>
                by_cases h95 : d = 95
                · subst h95
                  replace hix : ∀ W, (Instr.index 9 (.string s) (.int .i64 (k : Int))).run Tryd.prog W = .ok (.int .u8 95) W := hix
                  go_wp2_with (refine (sign_any 95 _ rfl _).mono ?_; rintro e w' ⟨rfl, rfl⟩)
                  go_round
                  case rel => exact ⟨k + 1, by omega, by go_num, box (hgo.out (by decide))⟩
                  case measure => simp [intOf]; omega
                have n95 : ((d.toNat : Int) != 95) = true := u8_ne' (d := 95) h95
                by_cases h46 : d = 46
                · subst h46
                  replace hix : ∀ W, (Instr.index 9 (.string s) (.int .i64 (k : Int))).run Tryd.prog W = .ok (.int .u8 46) W := hix
                  go_wp2_with (refine (sign_any 46 _ rfl _).mono ?_; rintro e w' ⟨rfl, rfl⟩)
                  go_round
                  case rel => exact ⟨k + 1, by omega, by go_num, box (hgo.out (by decide))⟩
                  case measure => simp [intOf]; omega
                have n46 : ((d.toNat : Int) != 46) = true := u8_ne' (d := 46) h46
                by_cases h45 : d = 45
                · subst h45
                  replace hix : ∀ W, (Instr.index 9 (.string s) (.int .i64 (k : Int))).run Tryd.prog W = .ok (.int .u8 45) W := hix
                  go_wp2_with (refine (sign_any 45 _ rfl _).mono ?_; rintro e w' ⟨rfl, rfl⟩)
                  go_round
                  case rel => exact ⟨k + 1, by omega, by go_num, box (hgo.out (by decide))⟩
                  case measure => simp [intOf]; omega
                have n45 : ((d.toNat : Int) != 45) = true := u8_ne' (d := 45) h45
                have hta : Box (tagA d = false) := box (by unfold tagA; rw [hsg, beq_eq_false_iff_ne.2 h95, beq_eq_false_iff_ne.2 h46, beq_eq_false_iff_ne.2 h45]; rfl)
                clear h95 h46 h45
                go_wp2_with (refine (sign_any d _ rfl _).mono ?_; rintro e w' ⟨rfl, rfl⟩)
                go_ret
                exact ⟨by rw [hst.out hta.out]; rfl, rfl⟩
            · have hfin : Box (R = true) := box (by rw [hRt.out]; exact all_at fun j c hc => hall.out j c (by have h1 := (List.getElem?_eq_some_iff.1 hc).1; have := hlb.out; omega) hc)
              clear hall
              go_wp2
              go_ret
              exact ⟨by rw [hfin.out]; rfl, rfl⟩
    · have hno : Box (R = false) := box (by rw [← hR.out]; unfold tagB; rw [decide_eq_false (p := s.data.toList.length ≤ 128) (by rw [str_len]; omega)]; simp)
      replace hc0 := box hc0
      go_enter Tryd.func28, Tryd.ntmps28
      go_wp2
      go_ret
      exact ⟨by rw [hno.out]; rfl, rfl⟩

set_option maxRecDepth 20000 in
set_option maxHeartbeats 3200000 in
theorem tagF_any (s : ByteArray) (w : World) (hs : s.size ≤ 9223372036854775807) : Calls Tryd.prog 30 #[.string s] w fun e w' => e = .returned (.bool (tagB s.data.toList)) ∧ w = w' := by
  have hlb := box (str_len s)
  generalize hR : tagB s.data.toList = R
  replace hR := box hR
  go_enter Tryd.func30, Tryd.ntmps30
  go_wp2
  go_loop [3] (fun i => ∃ k : Nat, k ≤ s.size ∧ i = .int .i64 k ∧ Box (∀ (j : Nat) c, j < k → s.data.toList[j]? = some c → tagC j c = true)) (fun i => s.size - (intOf i).toNat)
  case atStart => exact ⟨0, by omega, rfl, box fun j c h => absurd h (by omega)⟩
  case round =>
    obtain ⟨k, hk, rfl, hall⟩ := hrel
    by_cases hlt : k < s.size
    · obtain ⟨d, hd⟩ := str_at hlt
      have hix := fun W => run_strIx (P := Tryd.prog) Tryd.underlying9 hd (i := (k : Int)) rfl .i64 W
      have hgo : Box (tagC k d = true → ∀ (j : Nat) c, j < k + 1 → s.data.toList[j]? = some c → tagC j c = true) := box fun hta j c hj hc => by
        rcases Nat.lt_or_ge j k with h | h
        · exact hall.out j c h hc
        · obtain rfl : j = k := by omega
          rw [hd] at hc; injection hc with hc; subst hc; exact hta
      have hst : Box (tagC k d = false → R = false) := box fun h => by rw [← hR.out]; exact tag_bad hd h
      clear hall
      replace hd := box hd
      cases hsg : signB d with
      | true =>
        have hta : Box (tagC k d = true) := box (by unfold tagC; rw [hsg]; rfl)
        go_wp2_with (refine (signF_any d _ rfl _).mono ?_; rintro e w' ⟨rfl, rfl⟩)
        go_round
        case rel => exact ⟨k + 1, by omega, by go_num, box (hgo.out hta.out)⟩
        case measure => simp [intOf]; omega
      | false =>
        by_cases h95 : d = 95
        · subst h95
          have hta : Box (tagC k 95 = true) := box (by unfold tagC; rw [hsg]; rfl)
          replace hix : ∀ W, (Instr.index 9 (.string s) (.int .i64 (k : Int))).run Tryd.prog W = .ok (.int .u8 95) W := hix
          go_wp2_with (refine (signF_any 95 _ rfl _).mono ?_; rintro e w' ⟨rfl, rfl⟩)
          go_round
          case rel => exact ⟨k + 1, by omega, by go_num, box (hgo.out hta.out)⟩
          case measure => simp [intOf]; omega
        have n95 : ((d.toNat : Int) == 95) = false := u8_ne (d := 95) h95
        by_cases h46 : d = 46
        · subst h46
          replace hix : ∀ W, (Instr.index 9 (.string s) (.int .i64 (k : Int))).run Tryd.prog W = .ok (.int .u8 46) W := hix
          clear n95
          rcases Nat.eq_zero_or_pos k with hk0 | hk0
          · have hta : Box (tagC k 46 = false) := box (by rw [hk0]; decide)
            have hkd : decide (0 < k) = false := decide_eq_false (by omega)
            clear hk0
            go_wp2_with (refine (signF_any 46 _ rfl _).mono ?_; rintro e w' ⟨rfl, rfl⟩)
            go_ret
            exact ⟨by rw [hst.out hta.out]; rfl, rfl⟩
          · have hta : Box (tagC k 46 = true) := box (by unfold tagC; rw [decide_eq_true hk0]; decide)
            have hkd : decide (0 < k) = true := decide_eq_true hk0
            go_wp2_with (refine (signF_any 46 _ rfl _).mono ?_; rintro e w' ⟨rfl, rfl⟩)
            go_round
            case rel => exact ⟨k + 1, by omega, by go_num, box (hgo.out hta.out)⟩
            case measure => simp [intOf]; omega
        have n46 : ((d.toNat : Int) == 46) = false := u8_ne (d := 46) h46
        by_cases h45 : d = 45
        · subst h45
          replace hix : ∀ W, (Instr.index 9 (.string s) (.int .i64 (k : Int))).run Tryd.prog W = .ok (.int .u8 45) W := hix
          clear n95 n46
          rcases Nat.eq_zero_or_pos k with hk0 | hk0
          · have hta : Box (tagC k 45 = false) := box (by rw [hk0]; decide)
            have hkd : decide (0 < k) = false := decide_eq_false (by omega)
            clear hk0
            go_wp2_with (refine (signF_any 45 _ rfl _).mono ?_; rintro e w' ⟨rfl, rfl⟩)
            go_ret
            exact ⟨by rw [hst.out hta.out]; rfl, rfl⟩
          · have hta : Box (tagC k 45 = true) := box (by unfold tagC; rw [decide_eq_true hk0]; decide)
            have hkd : decide (0 < k) = true := decide_eq_true hk0
            go_wp2_with (refine (signF_any 45 _ rfl _).mono ?_; rintro e w' ⟨rfl, rfl⟩)
            go_round
            case rel => exact ⟨k + 1, by omega, by go_num, box (hgo.out hta.out)⟩
            case measure => simp [intOf]; omega
        have n45 : ((d.toNat : Int) == 45) = false := u8_ne (d := 45) h45
        have hta : Box (tagC k d = false) := box (by unfold tagC; rw [hsg, beq_eq_false_iff_ne.2 h95, beq_eq_false_iff_ne.2 h46, beq_eq_false_iff_ne.2 h45]; simp)
        clear h95 h46 h45
        rcases Nat.eq_zero_or_pos k with hk0 | hk0
        · have hkd : decide (0 < k) = false := decide_eq_false (by omega)
          clear hk0
          go_wp2_with (refine (signF_any d _ rfl _).mono ?_; rintro e w' ⟨rfl, rfl⟩)
          go_ret
          exact ⟨by rw [hst.out hta.out]; rfl, rfl⟩
        · have hkd : decide (0 < k) = true := decide_eq_true hk0
          go_wp2_with (refine (signF_any d _ rfl _).mono ?_; rintro e w' ⟨rfl, rfl⟩)
          go_ret
          exact ⟨by rw [hst.out hta.out]; rfl, rfl⟩
    · have hfin : Box (R = (decide (1 ≤ s.size) && decide (s.size ≤ 128))) := box (by rw [← hR.out]; exact tag_good fun j c hc => hall.out j c (by have h1 := (List.getElem?_eq_some_iff.1 hc).1; have := hlb.out; omega) hc)
      clear hall hR
      by_cases h1 : 1 ≤ s.size
      · have hd1 : decide (1 ≤ s.size) = true := decide_eq_true h1
        by_cases h2 : s.size ≤ 128
        · have hR : Box (R = true) := box (by rw [hfin.out, hd1]; simp; omega)
          clear hd1
          go_wp2
          go_ret
          exact ⟨ret1 (by rw [hR.out]; first | rfl | (simp; omega)), rfl⟩
        · have hR : Box (R = false) := box (by rw [hfin.out, hd1]; simp; omega)
          clear hd1
          go_wp2
          go_ret
          exact ⟨ret1 (by rw [hR.out]; first | rfl | (simp; omega)), rfl⟩
      · have hd1 : decide (1 ≤ s.size) = false := decide_eq_false h1
        have hR : Box (R = false) := box (by rw [hfin.out, hd1]; rfl)
        clear hd1
        go_wp2
        go_ret
        exact ⟨ret1 (by rw [hR.out]; first | rfl | (simp; omega)), rfl⟩
end Go.Proofs.YtpdbjhgphgcjoaaDoor
