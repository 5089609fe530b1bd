/-
  The walk of octet.ReadCount.
-/
import Derived.Test.YtcnjnkkdidpjiaaTy
import Derived.Test.YtcnjnkkdidpjiaaRdcP
namespace Go.Proofs.Ytcnjnkkdidpjiaa
open Go.RowKit

set_option maxRecDepth 20000 in
set_option maxHeartbeats 400000 in
theorem readCount_any (A : Option Addr) (n c : Nat) (l : List UInt8) (w : World) (hm : n ≤ 9223372036854775807) (hr : Rd w (· < w.heap.size) A 1 n (l.map bv)) :
    Calls Try.prog 39 #[.slice A n c] w fun e w' => e = .returned (.tuple #[.int .u64 (rdc 0 0 l).1, .int .i64 (rdc 0 0 l).2.1, .int .i64 (rdc 0 0 l).2.2]) ∧ w = w' := by
  have hl := box hr.bytes_len
  go_enter Try.func39, Try.ntmps39
  go_wp2
  go_loop [5, 10] (fun x i => ∃ k C : Nat, k ≤ 9 ∧ k ≤ n ∧ Box (RdcAt l k C) ∧ i = .int .i64 k ∧ x = .int .u64 (C : Nat)) (fun _ i => n - (intOf i).toNat)
  case atStart => exact ⟨0, 0, by omega, by omega, box ⟨by omega, by simp, by simp⟩, rfl, rfl⟩
  case round =>
    obtain ⟨k, C, hk9, hk, HR, rfl, rfl⟩ := hrel
    by_cases hlt : k < n
    · obtain ⟨d, hd⟩ : ∃ d, l[k]? = some d := ⟨l[k]'(by have := hl.out; omega), by simp⟩
      have hs := rdc_step HR.out hd
      replace hd := box hd
      have dlt : d.toNat < 256 := d.toNat_lt
      have h127 := and127 d
      by_cases hA : (k = 9 ∧ 1 < d.toNat) ∨ (0 < k ∧ d.toNat = 0)
      · rw [if_pos hA] at hs
        have hs' := box hs
        clear hs
        rcases hA with ⟨h1, h2⟩ | ⟨h1, h2⟩
        · go_wp2_with (first | (with_reducible refine lst (by with_unfolding_all rfl) (wp_indexAddr T_u8 hr (by with_unfolding_all exact ⟨_, _, _, _, rfl, rfl, rfl⟩) (by omega) (by omega) ?_)) | (with_reducible refine lst (by with_unfolding_all rfl) (wp_loadC hr hd Try.underlying5 rfl (by with_unfolding_all exact ⟨_, rfl, rfl⟩) (by first | (simp; done) | (simp; omega) | omega) ?_)))
          go_ret3
          exact ⟨by rw [hs'.out]; rfl, rfl⟩
        · by_cases h9 : k = 9
          all_goals
            go_wp2_with (first | (with_reducible refine lst (by with_unfolding_all rfl) (wp_indexAddr T_u8 hr (by with_unfolding_all exact ⟨_, _, _, _, rfl, rfl, rfl⟩) (by omega) (by omega) ?_)) | (with_reducible refine lst (by with_unfolding_all rfl) (wp_loadC hr hd Try.underlying5 rfl (by with_unfolding_all exact ⟨_, rfl, rfl⟩) (by first | (simp; done) | (simp; omega) | omega) ?_)))
            go_ret3
            exact ⟨by rw [hs'.out]; rfl, rfl⟩
      · rw [if_neg hA] at hs
        obtain ⟨T, hT⟩ : ∃ T, T = d.toNat % 128 * 2 ^ (7 * k) := ⟨_, rfl⟩
        rw [← hT] at hs
        have hT1 := rdc_shift d k T hk9 (fun h => by omega) hT
        have hO := rdc_or C T k d HR.out.2.1 hT1.2 hT hk9
        replace hT1 := hT1.1
        replace hT := box hT
        by_cases hd8 : d.toNat < 128
        · rw [if_pos hd8] at hs
          replace hs := box hs
          have hz : ((d.toNat : Int) == 0) = true ∧ ¬ 0 < k ∨ ((d.toNat : Int) == 0) = false := by
            by_cases h0 : d.toNat = 0
            · exact .inl ⟨by simp [h0], by omega⟩
            · exact .inr (by simp; omega)
          have h9 : ((k : Int) == 9) = true ∧ ¬ 1 < (d.toNat : Int) ∨ ((k : Int) == 9) = false := by
            by_cases h0 : k = 9
            · exact .inl ⟨by simp; omega, by omega⟩
            · exact .inr (by simp; omega)
          replace hA := box hA
          rcases hz with ⟨hz, hk0⟩ | hz <;> rcases h9 with ⟨h9, hd1⟩ | h9
          all_goals
            go_wp2_with (first | (with_reducible refine lst (by with_unfolding_all rfl) (wp_indexAddr T_u8 hr (by with_unfolding_all exact ⟨_, _, _, _, rfl, rfl, rfl⟩) (by omega) (by omega) ?_)) | (with_reducible refine lst (by with_unfolding_all rfl) (wp_loadC hr hd Try.underlying5 rfl (by with_unfolding_all exact ⟨_, rfl, rfl⟩) (by first | (simp; done) | (simp; omega) | omega) ?_)))
            go_ret3
            exact ⟨by rw [hs.out]; rfl, rfl⟩
        · rw [if_neg hd8] at hs
          have hkn : k + 1 ≤ 9 := by omega
          have h9 : ((k : Int) == 9) = false := by simp; omega
          replace hs : Box (RdcAt l (k + 1) (C + T)) := box ⟨hkn, rdc_next HR.out.2.1 hT.out, hs⟩
          replace hA := box hA
          go_wp2_with (first | (with_reducible refine lst (by with_unfolding_all rfl) (wp_indexAddr T_u8 hr (by with_unfolding_all exact ⟨_, _, _, _, rfl, rfl, rfl⟩) (by omega) (by omega) ?_)) | (with_reducible refine lst (by with_unfolding_all rfl) (wp_loadC hr hd Try.underlying5 rfl (by with_unfolding_all exact ⟨_, rfl, rfl⟩) (by first | (simp; done) | (simp; omega) | omega) ?_)))
          go_round
          case rel => exact ⟨k + 1, C + T, hkn, by omega, hs, by go_num, rfl⟩
          case measure => simp [intOf]; omega
    · have hs := HR.out.2.2
      rw [List.drop_of_length_le (by have := hl.out; omega), rdc] at hs
      replace hs := box hs
      go_wp2
      go_ret3
      exact ⟨by rw [hs.out]; rfl, rfl⟩
end Go.Proofs.Ytcnjnkkdidpjiaa
