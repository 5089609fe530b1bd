/-
  The walk of the document's ReadCount.
-/
import Derived.Test.YtcnjnkkdidpjiaaTy
import Derived.Test.YtcnjnkkdidpjiaaRdcP
namespace Go.Proofs.Ytcnjnkkdidpjiaa
open Go.RowKit

set_option maxRecDepth 20000 in
set_option maxHeartbeats 800000 in
theorem rreadCount_any (A : Option Addr) (n c : Nat) (l : List UInt8) (w : World) (hm : n ≤ 9223372036854775807) (hr : Rd w (· < w.heap.size) A 1 n (l.map bv)) :
    Calls Try.prog 41 #[.slice A n c] w fun e w' => e = .returned (.tuple #[.int .u64 (rdc 0 0 l).1, .int .i64 (rdc 0 0 l).2.1, .int .i64 (rdc 0 0 l).2.2]) ∧ w = w' := by
  have hl := box hr.bytes_len
  go_enter Try.func41, Try.ntmps41
  go_wp2
  go_loop [5, 6] (fun x i => ∃ k C : Nat, k ≤ 9 ∧ k ≤ n ∧ Box (RdcAt l k C) ∧ i = .int .i64 k ∧ x = .int .u64 (C : Nat)) (fun _ i => n - (intOf i).toNat)
  case atStart => exact ⟨0, 0, by omega, by omega, box ⟨by omega, by simp, by simp⟩, rfl, rfl⟩
  case round =>
    obtain ⟨k, C, hk9, hk, HR, rfl, rfl⟩ := hrel
    by_cases hlt : k < n
    · obtain ⟨d, hd⟩ : ∃ d, l[k]? = some d := ⟨l[k]'(by have := hl.out; omega), by simp⟩
      have hs := rdc_step HR.out hd
      replace hd := box hd
      have dlt : d.toNat < 256 := d.toNat_lt
      have hz : ((d.toNat : Int) == 0) = true ∧ Box (d.toNat = 0) ∨ ((d.toNat : Int) == 0) = false ∧ Box (d.toNat ≠ 0) := by
        by_cases h0 : d.toNat = 0
        · exact .inl ⟨by simp [h0], box h0⟩
        · exact .inr ⟨by simp; omega, box h0⟩
      have h9 : ((k : Int) == 9) = true ∧ Box (k = 9) ∨ ((k : Int) == 9) = false ∧ Box (k ≠ 9) := by
        by_cases h0 : k = 9
        · exact .inl ⟨by simp; omega, box h0⟩
        · exact .inr ⟨by simp; omega, box h0⟩
      by_cases hA : (k = 9 ∧ 1 < d.toNat) ∨ (0 < k ∧ d.toNat = 0)
      · rw [if_pos hA] at hs
        replace hs := box hs
        replace hA := box hA
        rcases hz with ⟨hz, hz'⟩ | ⟨hz, hz'⟩ <;> rcases h9 with ⟨h9, h9'⟩ | ⟨h9, h9'⟩
        · have hk0 : 0 < (k : Int) := by have := h9'.out; omega
          have h1 : ¬ 1 < (d.toNat : Int) := by have := hz'.out; omega
          go_wp2_with (first | (with_reducible refine lst (by with_unfolding_all rfl) (wp_indexAddr T_u8 hr (by with_unfolding_all exact ⟨_, _, _, _, rfl, rfl, rfl⟩) (by omega) (by omega) ?_)) | (with_reducible refine lst (by with_unfolding_all rfl) (wp_loadC hr hd Try.underlying5 rfl (by with_unfolding_all exact ⟨_, rfl, rfl⟩) (by first | (simp; done) | (simp; omega) | omega) ?_)))
          go_ret3
          exact ⟨by rw [hs.out]; rfl, rfl⟩
        · have hk0 : 0 < (k : Int) := by
            rcases hA.out with h | h
            · exact absurd h.1 h9'.out
            · omega
          go_wp2_with (first | (with_reducible refine lst (by with_unfolding_all rfl) (wp_indexAddr T_u8 hr (by with_unfolding_all exact ⟨_, _, _, _, rfl, rfl, rfl⟩) (by omega) (by omega) ?_)) | (with_reducible refine lst (by with_unfolding_all rfl) (wp_loadC hr hd Try.underlying5 rfl (by with_unfolding_all exact ⟨_, rfl, rfl⟩) (by first | (simp; done) | (simp; omega) | omega) ?_)))
          go_ret3
          exact ⟨by rw [hs.out]; rfl, rfl⟩
        · have h1 : 1 < (d.toNat : Int) := by
            rcases hA.out with h | h
            · omega
            · exact absurd h.2 hz'.out
          go_wp2_with (first | (with_reducible refine lst (by with_unfolding_all rfl) (wp_indexAddr T_u8 hr (by with_unfolding_all exact ⟨_, _, _, _, rfl, rfl, rfl⟩) (by omega) (by omega) ?_)) | (with_reducible refine lst (by with_unfolding_all rfl) (wp_loadC hr hd Try.underlying5 rfl (by with_unfolding_all exact ⟨_, rfl, rfl⟩) (by first | (simp; done) | (simp; omega) | omega) ?_)))
          go_ret3
          exact ⟨by rw [hs.out]; rfl, rfl⟩
        · exact absurd hA.out (fun h => h.elim (fun h => h9'.out h.1) (fun h => hz'.out h.2))
      · rw [if_neg hA] at hs
        obtain ⟨T, hT⟩ : ∃ T, T = d.toNat % 128 * 2 ^ (7 * k) := ⟨_, rfl⟩
        rw [← hT] at hs
        have hT1 := (rdc_shift d k T hk9 (fun h => by omega) hT).1
        have hO := rdc_add C T (rdc_sum HR.out.2.1 hk9 (fun h => by omega) hT)
        replace hT := box hT
        by_cases hd8 : d.toNat < 128
        · rw [if_pos hd8] at hs
          replace hs := box hs
          replace hA := box hA
          rcases hz with ⟨hz, hz'⟩ | ⟨hz, hz'⟩ <;> rcases h9 with ⟨h9, h9'⟩ | ⟨h9, h9'⟩
          · exact absurd (Or.inr ⟨by have := h9'.out; omega, hz'.out⟩) hA.out
          · have hk0 : ¬ 0 < (k : Int) := fun h => hA.out (.inr ⟨by omega, hz'.out⟩)
            go_wp2_with (first | (with_reducible refine lst (by with_unfolding_all rfl) (wp_indexAddr T_u8 hr (by with_unfolding_all exact ⟨_, _, _, _, rfl, rfl, rfl⟩) (by omega) (by omega) ?_)) | (with_reducible refine lst (by with_unfolding_all rfl) (wp_loadC hr hd Try.underlying5 rfl (by with_unfolding_all exact ⟨_, rfl, rfl⟩) (by first | (simp; done) | (simp; omega) | omega) ?_)))
            go_ret3
            exact ⟨by rw [hs.out]; rfl, rfl⟩
          · have h1 : ¬ 1 < (d.toNat : Int) := fun h => hA.out (.inl ⟨h9'.out, by omega⟩)
            go_wp2_with (first | (with_reducible refine lst (by with_unfolding_all rfl) (wp_indexAddr T_u8 hr (by with_unfolding_all exact ⟨_, _, _, _, rfl, rfl, rfl⟩) (by omega) (by omega) ?_)) | (with_reducible refine lst (by with_unfolding_all rfl) (wp_loadC hr hd Try.underlying5 rfl (by with_unfolding_all exact ⟨_, rfl, rfl⟩) (by first | (simp; done) | (simp; omega) | omega) ?_)))
            all_goals go_ret3
            all_goals exact ⟨by rw [hs.out]; rfl, rfl⟩
          · go_wp2_with (first | (with_reducible refine lst (by with_unfolding_all rfl) (wp_indexAddr T_u8 hr (by with_unfolding_all exact ⟨_, _, _, _, rfl, rfl, rfl⟩) (by omega) (by omega) ?_)) | (with_reducible refine lst (by with_unfolding_all rfl) (wp_loadC hr hd Try.underlying5 rfl (by with_unfolding_all exact ⟨_, rfl, rfl⟩) (by first | (simp; done) | (simp; omega) | omega) ?_)))
            all_goals go_ret3
            all_goals exact ⟨by rw [hs.out]; rfl, rfl⟩
        · rw [if_neg hd8] at hs
          have hkn : k + 1 ≤ 9 := by omega
          have h9 : ((k : Int) == 9) = false := by simp; omega
          have hz : ((d.toNat : Int) == 0) = false := by simp; omega
          replace hs : Box (RdcAt l (k + 1) (C + T)) := box ⟨hkn, rdc_next HR.out.2.1 hT.out, hs⟩
          replace hA := box hA
          go_wp2_with (first | (with_reducible refine lst (by with_unfolding_all rfl) (wp_indexAddr T_u8 hr (by with_unfolding_all exact ⟨_, _, _, _, rfl, rfl, rfl⟩) (by omega) (by omega) ?_)) | (with_reducible refine lst (by with_unfolding_all rfl) (wp_loadC hr hd Try.underlying5 rfl (by with_unfolding_all exact ⟨_, rfl, rfl⟩) (by first | (simp; done) | (simp; omega) | omega) ?_)))
          all_goals
            go_round
            case rel => exact ⟨k + 1, C + T, hkn, by omega, hs, by go_num, by go_num⟩
            case measure => simp [intOf]; omega
    · have hs := HR.out.2.2
      rw [List.drop_of_length_le (by have := hl.out; omega), rdc] at hs
      replace hs := box hs
      go_wp2
      go_ret3
      exact ⟨by rw [hs.out]; rfl, rfl⟩
end Go.Proofs.Ytcnjnkkdidpjiaa
