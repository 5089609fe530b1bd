/-
  Layer 19: the walk of the document's sum behind bytes.
-/
import Derived.Test.YtcnjnkkdidpjiaaW1
namespace Go.Proofs.Ytcnjnkkdidpjiaa
open Go.RowKit

theorem dig_at {d : List UInt8} {k : Nat} {c : UInt8} (h : d[k]? = some c) : (d.map bv)[k]? = some (.int .u8 (c.toNat : Int)) := by simp [h, bv]

set_option maxRecDepth 20000 in
set_option maxHeartbeats 800000 in
theorem sumF_any (b : Nat) (v : Value) (l : List UInt8) (d : List UInt8) (w : World) (hown : OwnB w b 5 v l) (hb : b ≤ w.heap.size) (hroom : l.length ≤ 100000000) (hd : d.length = 32) :
    Calls Try.prog 29 #[v, .agg (d.map bv).toArray] w fun e w' => ∃ v', e = .returned v' ∧ OwnB w' b 5 v' (l ++ d) ∧ w.grownBy w' v.ownBlock ∧ Box (∀ k, v'.ownBlock = some k → w.heap.size ≤ k ∨ v.ownBlock = some k) := by
  have hF0 := Fr.oneB hown
  clear hown
  replace hd := box hd
  go_enter Try.func29, Try.ntmps29
  go_wp2_with (first | ((with_reducible refine lst (by with_unfolding_all rfl) (wp_fbox hF0 (cs := (d.map bv)) rfl (by with_unfolding_all rfl) (by with_unfolding_all rfl) ?_)); intro w1 g1 hF1 hz1))
  obtain ⟨W, rfl⟩ : ∃ W : World, W = w1 := ⟨_, rfl⟩
  go_loopw [0, 5] (fun q i wr => ∃ (k : Nat) (v' : Value), k ≤ 32 ∧ i = .int .i64 k ∧ q = v' ∧ Fr (Xof v) w wr [.blk g1 22 (d.map bv), Ent.bytes b 5 v' (l ++ d.take k)]) (fun _ i _ => 32 - (intOf i).toNat)
  case atStart => exact ⟨0, v, by omega, rfl, rfl, by rw [List.take_zero, List.append_nil]; exact hF1⟩
  case round =>
    clear hF1
    obtain ⟨k, v', hk, rfl, rfl, hF⟩ := hrel
    by_cases hlt : k < 32
    · obtain ⟨x, hx⟩ : ∃ x, d[k]? = some x := ⟨d[k]'(by have := hd.out; omega), by simp⟩
      have hx2 := dig_at hx
      have hxb := x.toNat_lt
      have hT : d.take (k + 1) = d.take k ++ [x] := take_snoc hx
      have hrm : (l ++ d.take k).length + 1 ≤ 140737488355328 := by rw [List.length_append]; have : (d.take k).length ≤ k := List.length_take_le _ _; omega
      replace hx := box hx
      replace hx2 := box hx2
      replace hT := box hT
      go_wp2_with (first | (with_reducible refine lst (by with_unfolding_all rfl) (wp_fld0 hF Try.underlying5 rfl (by with_unfolding_all exact ⟨_, rfl, rfl⟩) hx2.out ?_)) | ((with_reducible refine lst (by with_unfolding_all rfl) (wp_fbsl T_u8 hF (vs := [bv x]) (by with_unfolding_all rfl) (by with_unfolding_all rfl) (by with_unfolding_all rfl) (by decide) (by simp [bv, Value.cells]) ?_)); intro w1 g1 hF1 hz1; have hr1 : Rd w1 (· < w1.heap.size) (some ⟨g1, 0, none⟩) 1 1 ([x].map bv) := hF1.rdOwn0; replace hF1 : Fr _ _ w1 (Ent.bytes _ 5 (.slice (some ⟨g1, 0, none⟩) 1 1) [x] :: _) := hF1) | ((with_reducible refine lst (by with_unfolding_all rfl) (wp_fapp2 T_u8 hF1 hb hr1 (by with_unfolding_all exact ⟨_, _, rfl, rfl, rfl⟩) hrm ?_)); intro v2 w2 hF2 hz2))
      go_roundw
      case rel => exact ⟨k + 1, v2, by omega, by go_num, rfl, by rw [hT.out, ← List.append_assoc]; exact hF2.tail⟩
      case measure => simp [intOf]; omega
    · go_wp2
      go_ret
      rw [List.take_of_length_le (by have := hd.out; omega)] at hF
      exact ⟨_, rfl, hF.bytes1, hF.grownX, box fun k hk => (hF.fresh 1 _ rfl k hk).imp id (fun h => Xof_mem.1 h)⟩
end Go.Proofs.Ytcnjnkkdidpjiaa
