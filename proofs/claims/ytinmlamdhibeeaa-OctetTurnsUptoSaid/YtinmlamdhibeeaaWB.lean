/-
  Layer 1: the answers that the document fixes.
-/
import Derived.Test.YtinmlamdhibeeaaWA
namespace Go.Proofs.Ytinmlamdhibeeaa
open Go.RowKit

theorem aw_count : rdc 0 0 [172, 2, 9] = (300, 2, 0) := by simp [rdc]
theorem aw_rot : rotN 1 1 = 2147483648 := by decide +kernel
theorem aw_crc : crcN [49, 50, 51, 52, 53, 54, 55, 56, 57] = 3421780262 := by decide +kernel
theorem aw_hex : hexL [0, 255] = [48, 48, 102, 102] := by decide +kernel

set_option maxRecDepth 20000 in
set_option maxHeartbeats 800000 in
theorem awake_any (w : World) : Calls Try.prog 13 #[] w fun e w' => e = .returned (.bool true) ∧ Below w.heap.size w w' := by
  have h1 := readCount_any (some ⟨w.heap.size, 0, none⟩) 3 3 [172, 2, 9] (w.alloc (.cells #[.int .u8 172, .int .u8 2, .int .u8 9] 5)) (by omega) ((Rd.lit w (List.map bv [172, 2, 9]) 5 (size := 1) (n := 3) rfl).mono (fun k hk => by simp; omega))
  rw [aw_count] at h1
  replace h1 := box h1
  go_enter Try.func13, Try.ntmps13
  go_wp2_with fail
  refine h1.out.mono ?_
  rintro e w' ⟨rfl, rfl⟩
  have hb1 : Below w.heap.size w (w.alloc (.cells #[.int .u8 172, .int .u8 2, .int .u8 9] 5)) := (Below.refl _ _).alloc (Nat.le_refl _) _
  have hB1 : w.heap.size ≤ (w.alloc (.cells #[.int .u8 172, .int .u8 2, .int .u8 9] 5)).heap.size := by simp
  generalize (w.alloc (.cells #[.int .u8 172, .int .u8 2, .int .u8 9] 5)) = W1 at *
  clear h1
  have h2 : Calls Try.prog 14 #[.int .u32 1, .int .i64 1] W1 fun e w' => e = .returned (.int .u32 2147483648) ∧ W1 = w' := by
    have h := rot_any 1 1 W1 (box (by decide))
    rw [show ((1 : Int) % 32).toNat = 1 from rfl, aw_rot] at h
    exact h
  replace h2 := box h2
  go_wp2_with fail
  refine h2.out.mono ?_
  rintro e w' ⟨rfl, rfl⟩
  clear h2
  have hb2 := hb1.alloc hB1 (.cells #[.int .u8 49, .int .u8 50, .int .u8 51, .int .u8 52, .int .u8 53, .int .u8 54, .int .u8 55, .int .u8 56, .int .u8 57] 5)
  have hr2 := (Rd.lit W1 (List.map bv [49, 50, 51, 52, 53, 54, 55, 56, 57]) 5 (size := 1) (n := 9) rfl)
  have hs2 : (W1.alloc (.cells (List.map bv [49, 50, 51, 52, 53, 54, 55, 56, 57]).toArray 5)).heap.size = W1.heap.size + 1 := by simp
  go_wp2_with (first | ((with_reducible refine lst (by with_unfolding_all rfl) (wp_mark T_u8 Try.underlying5 hb2 hB1 (by with_unfolding_all exact ⟨_, rfl, rfl⟩) ?_)); intro w4 hk4 hb4 hs4; replace hs4 := box hs4))
  have hr3 := (hk4 _ _ _ _ hr2).mono (S' := (· < w4.heap.size)) (fun k hk => by have h := hs4.out; simp at h; omega)
  have hB4 : w.heap.size ≤ w4.heap.size := hb4.size
  have h3 := crc_any _ 9 9 _ w4 (by omega) hr3
  rw [aw_crc] at h3
  replace h3 := box h3
  refine h3.out.mono ?_
  rintro e w' ⟨rfl, rfl⟩
  clear hs2 hk4 hr2 hr3 h3 hb2
  have hb5 := hb4.alloc hB4 (.cells #[.int .u8 0, .int .u8 255] 5)
  have hr5 : Rd (w4.alloc (.cells #[.int .u8 0, .int .u8 255] 5)) (· < (w4.alloc (.cells #[.int .u8 0, .int .u8 255] 5)).heap.size) (some ⟨w4.heap.size, 0, none⟩) 1 2 ([0, 255].map bv) := (Rd.lit w4 (List.map bv [0, 255]) 5 (size := 1) (n := 2) rfl).mono (S' := (· < (w4.alloc (.cells #[.int .u8 0, .int .u8 255] 5)).heap.size)) (fun k hk => by simp; omega)
  have h4 := hex_any _ 2 2 _ _ (by omega) hr5
  rw [aw_hex] at h4
  replace h4 := box h4
  have hB5 : w.heap.size ≤ (w4.alloc (.cells #[.int .u8 0, .int .u8 255] 5)).heap.size := by simp; omega
  go_wp2_with fail
  refine h4.out.mono ?_
  rintro e w' ⟨rfl, hb6⟩
  replace hb5 := hb5.trans (hb6.mono hB5)
  go_wp2
  go_ret
  exact ⟨rfl, hb5⟩
end Go.Proofs.Ytinmlamdhibeeaa
