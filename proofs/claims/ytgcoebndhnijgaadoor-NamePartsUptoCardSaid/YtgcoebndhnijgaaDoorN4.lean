/-
  Layer 7: the walk of IsRepo.
-/
import Derived.Test.YtgcoebndhnijgaaDoorN3
import Derived.Test.YtgcoebndhnijgaaDoorNSpec2
import Derived.Test.YtgcoebndhnijgaaDoorFr
namespace Go.Proofs.YtgcoebndhnijgaaDoor
open Go.RowKit

theorem T_str : SlT Tryd.prog 42 9 1 16 (.string ByteArray.empty) := ⟨Tryd.underlying42, by kernel_rfl, rfl, by decide⟩
/-- The library's variable MaxLen holds a number. -/
def MaxW (w : World) : Prop := ∃ m : Int, w.cell? ⟨0, 0, none⟩ = some (.int .i64 m)
theorem MaxW.on {w w' : World} (h : MaxW w) (hb : Below w.heap.size w w') : MaxW w' := by
  obtain ⟨m, hm⟩ := h
  have hlt := World.block_lt_of_cell? w _ hm
  exact ⟨m, by rw [hb.cell (p := ⟨0, 0, none⟩) hlt]; exact hm⟩
theorem parts_le : ∀ (l p : List UInt8), p ∈ parts47 l → p.length ≤ l.length
  | [], p, h => by simp [parts47] at h; subst h; exact Nat.le_refl _
  | c :: l, p, h => by
    rw [parts47] at h
    have ih := parts_le l
    by_cases hc : c = 47
    · rw [if_pos hc] at h
      rcases List.mem_cons.1 h with rfl | h
      · simp
      · have := ih p h; simp; omega
    · rw [if_neg hc] at h
      cases hp : parts47 l with
      | nil => exact absurd hp (parts_ne l)
      | cons q qs =>
        rw [hp] at h ih
        rcases List.mem_cons.1 h with rfl | h
        · have := ih q (by simp); simp; omega
        · have := ih p (by simp [h]); simp; omega

set_option maxRecDepth 20000 in
set_option maxHeartbeats 1600000 in
theorem repo_any (s : ByteArray) (w : World) (hM : MaxW w) (hs : s.size ≤ 9223372036854775807) : Calls Tryd.prog 11 #[.string s] w fun e w' => e = .returned (.bool (repoB s.data.toList)) ∧ Below w.heap.size w w' := by
  obtain ⟨m, hm⟩ := hM
  by_cases hle : s.size ≤ 128
  · have hSp := Tryd.strings_Split s slash m w (by omega) hm (by decide)
    have hlen := split_len s
    have hpp := split_parts s
    have hR : repoB s.data.toList = (parts47 s.data.toList).all (accP 0) := by
      unfold repoB
      rw [decide_eq_true (by rw [str_len]; exact hle), Bool.and_true, acc_all]
    generalize Lib.splitB slash 0 (Lib.countB s slash) s = ps at *
    obtain ⟨N, hN⟩ : ∃ N, N = Lib.countB s slash + 1 := ⟨_, rfl⟩
    rw [← hN] at hSp hlen
    have hsz : Box (∀ (j : Nat) (p : ByteArray), ps[j]? = some p → p.size ≤ 128) := box fun j p hp => by
      have h1 := parts_le s.data.toList p.data.toList (by rw [← hpp]; exact List.mem_map_of_mem (List.mem_of_getElem? hp))
      rw [str_len, str_len] at h1; omega
    have hRp : Box (repoB s.data.toList = ps.all (fun p => accP 0 p.data.toList)) := box (by rw [hR, ← hpp, List.all_map]; rfl)
    generalize repoB s.data.toList = R at *
    have hN2 : N ≤ 1000 := by
      have := hlen
      have h3 : (parts47 s.data.toList).length = N := by rw [← hpp, List.length_map, hlen]
      have h4 : ∀ l : List UInt8, (parts47 l).length ≤ l.length + 1 := by
        intro l
        induction l with
        | nil => simp [parts47]
        | cons c l ih =>
          rw [parts47]
          split
          · simp; omega
          · cases hp : parts47 l with
            | nil => simp
            | cons q qs => rw [hp] at ih; simp at ih ⊢; omega
      have := h4 s.data.toList
      rw [str_len] at this; omega
    clear hpp hR hN
    have hF1 := (Fr.nil w).alloc 9 (ps.map Value.string)
    have hr : Rd (w.alloc (.cells (ps.map Value.string).toArray 9)) (· < (w.alloc (.cells (ps.map Value.string).toArray 9)).heap.size) (some ⟨w.heap.size, 0, none⟩) 1 N (ps.map Value.string) :=
      hF1.rdBlk (i := 0) (off := 0) rfl (by rw [List.length_map, hlen]) (by rw [List.drop_zero, List.take_of_length_le (by rw [List.length_map, hlen]; exact Nat.le_refl _)])
    have hB := hF1.below
    clear hF1
    replace hSp := box hSp
    replace hlen := box hlen
    generalize w.alloc (.cells (ps.map Value.string).toArray 9) = w1 at *
    go_enter Tryd.func11, Tryd.ntmps11
    go_wp2_with (go_at_call 21; refine hSp.out.mono ?_; rintro e w' ⟨rfl, rfl⟩)
    go_loop [11] (fun i => ∃ k : Nat, k ≤ N ∧ i = .int .i64 k ∧ Box (∀ (j : Nat) (p : ByteArray), j < k → ps[j]? = some p → accP 0 p.data.toList = true)) (fun i => N - (intOf i).toNat)
    case atStart => exact ⟨0, by omega, rfl, box fun j p h => absurd h (by omega)⟩
    case round =>
      obtain ⟨k, hk, rfl, hall⟩ := hrel
      by_cases hlt : k < N
      · obtain ⟨p, hp⟩ : ∃ p, ps[k]? = some p := ⟨ps[k]'(by have := hlen.out; omega), by simp⟩
        have hx : (ps.map Value.string)[k]? = some (.string p) := by rw [List.getElem?_map, hp]; rfl
        have hps := hsz.out k p hp
        replace hx := box hx
        cases ha : accP 0 p.data.toList with
        | true =>
          have hall' : Box (∀ (j : Nat) (q : ByteArray), j < k + 1 → ps[j]? = some q → accP 0 q.data.toList = true) := box fun j q hj hq => by
            rcases Nat.lt_or_ge j k with h | h
            · exact hall.out j q h hq
            · obtain rfl : j = k := by omega
              rw [hp] at hq; injection hq with hq; subst hq; exact ha
          replace hp := box hp
          go_wp2_with (first | (go_at_call 22; refine (part_any p _ (by omega)).mono ?_; rintro e w' ⟨rfl, rfl⟩) | (with_reducible refine lst (by with_unfolding_all rfl) (wp_indexAddr T_str hr (by with_unfolding_all exact ⟨_, _, _, _, rfl, rfl, rfl⟩) (by omega) (by omega) ?_)) | (with_reducible refine lst (by with_unfolding_all rfl) (wp_load1C hr hx Tryd.underlying9 rfl (by with_unfolding_all exact ⟨_, rfl, rfl⟩) (by first | (simp; done) | (simp; omega) | omega) ?_)))
          go_round
          case rel => exact ⟨k + 1, by omega, by go_num, hall'⟩
          case measure => simp [intOf]; omega
        | false =>
          have hfin : Box (R = false) := box (by
            rw [hRp.out]
            cases hq : ps.all (fun p => accP 0 p.data.toList) with
            | false => rfl
            | true => have := List.all_eq_true.1 hq p (List.mem_of_getElem? hp); rw [ha] at this; cases this)
          replace hp := box hp
          clear hall
          go_wp2_with (first | (go_at_call 22; refine (part_any p _ (by omega)).mono ?_; rintro e w' ⟨rfl, rfl⟩) | (with_reducible refine lst (by with_unfolding_all rfl) (wp_indexAddr T_str hr (by with_unfolding_all exact ⟨_, _, _, _, rfl, rfl, rfl⟩) (by omega) (by omega) ?_)) | (with_reducible refine lst (by with_unfolding_all rfl) (wp_load1C hr hx Tryd.underlying9 rfl (by with_unfolding_all exact ⟨_, rfl, rfl⟩) (by first | (simp; done) | (simp; omega) | omega) ?_)))
          go_ret
          exact ⟨by rw [hfin.out]; rfl, hB⟩
      · have hfin : Box (R = true) := box (by
          rw [hRp.out]
          refine List.all_eq_true.2 fun p hp => ?_
          obtain ⟨j, hj⟩ := List.mem_iff_getElem?.1 hp
          have h1 := (List.getElem?_eq_some_iff.1 hj).1
          exact hall.out j p (by have := hlen.out; omega) hj)
        clear hall
        go_wp2
        go_ret
        exact ⟨by rw [hfin.out]; rfl, hB⟩
  · have hR : repoB s.data.toList = false := by
      unfold repoB
      rw [decide_eq_false (by rw [str_len]; exact hle), Bool.and_false]
    rw [hR]
    clear hR
    go_enter Tryd.func11, Tryd.ntmps11
    go_wp2
    go_ret
    exact ⟨rfl, Below.refl _ _⟩
end Go.Proofs.YtgcoebndhnijgaaDoor
