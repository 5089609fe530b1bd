/-
  Layer 19: the walk of awake.
-/
import Derived.Test.YtcnjnkkdidpjiaaW9
import Derived.Test.YtcnjnkkdidpjiaaW11
import Derived.Test.YtcnjnkkdidpjiaaWPlain
namespace Go.Proofs.Ytcnjnkkdidpjiaa
open Go.RowKit

def awReq : Req := ⟨18, ByteArray.empty, ByteArray.empty, zeros, 0, 0, 0, []⟩
theorem aw_ok : reqOk awReq = true := by decide +kernel
theorem aw_len : (reqB awReq).length = 39 := by decide +kernel
theorem aw_0 : (reqB awReq)[0]? = some 18 := by decide +kernel
theorem aw_dec : decReq (reqB awReq) = some awReq := dec_enc aw_ok (by decide +kernel)

set_option maxRecDepth 20000 in
set_option maxHeartbeats 1600000 in
theorem awake_any (w : World) : Calls Try.prog 12 #[] w fun e w' => e = .returned (.bool true) ∧ Below w.heap.size w w' := by
  have hF0 := Fr.nil w
  have hz0 := zeros_len
  replace hz0 := box hz0
  have hE := box (fun w => encReq_any awReq none 0 w (by decide +kernel) (Rd.nil _ _ _ _))
  rw [if_pos aw_ok, if_pos aw_ok] at hE
  have hD := box (fun A n c w h1 h2 => decReq_any A n c (reqB awReq) w h1 h2)
  rw [aw_dec] at hD
  have h0 := aw_0
  have hlen := aw_len
  generalize reqB awReq = L at *
  replace h0 := box h0
  replace hlen := box hlen
  go_enter Try.func12, Try.ntmps12
  go_wp2_with (first | (with_reducible refine lst (by with_unfolding_all rfl) (wp_fbuild Try.underlying31 (z := .agg (List.toArray rq0)) (by kernel_rfl) (pl := rqP) (by kernel_rfl) (cs := (awReq.cells none 0)) rfl (vs := [(0, .int .i64 18)]) (by with_unfolding_all rfl) (by with_unfolding_all exact rq0_fill1 (v := .int .i64 18) rfl) ?_)))
  refine (hE.out w).mono ?_
  rintro e w1 ⟨v1, rfl, ho1, hb1⟩
  obtain ⟨A1, c1, rfl, hc1, hr1⟩ := ho1.arg
  rw [hlen.out] at hr1 hc1 ho1 ⊢
  have hF1 := hF0.gotB hb1 ho1
  go_wp2_with fail
  refine (hD.out A1 39 c1 w1 (by omega) hc1 hr1).mono ?_
  rintro e w2 ⟨A2, c2, rfl, _, hb2⟩
  have hF2 := hF1.call hb2
  have hcl := Req.cells_len awReq A2 c2 (by decide +kernel)
  replace hcl := box hcl
  have hrq := rq0_len
  replace hrq := box hrq
  have hop : Box ((awReq.cells A2 c2)[0]? = some (.int .i64 18)) := box rfl
  go_wp2_with (first | ((with_reducible refine lst (by with_unfolding_all rfl) (wp_falloc hF2 (cs := rq0) (z := .agg (List.toArray (rq0))) rfl (by kernel_rfl) (by with_unfolding_all rfl) ?_)); intro w3 g3 hF3 hz3) | ((with_reducible refine lst (by with_unfolding_all rfl) (wp_fstA0 hF3 (by with_unfolding_all exact ⟨_, _, rfl, rfl, rfl⟩) (by rw [hcl.out]; kernel_rfl) (Req.cells_one _ _ _) (by rw [hcl.out, hrq.out]; omega) (spl_all (by rw [hcl.out, hrq.out])) ?_)); intro w4 hF4 hz4) | (with_reducible refine lst (by with_unfolding_all rfl) (wp_indexAddr T_u8 hF4.rdOwn1 (by with_unfolding_all exact ⟨_, _, _, _, rfl, rfl, rfl⟩) (by omega) (by omega) ?_)) | (with_reducible refine lst (by with_unfolding_all rfl) (wp_loadC hF4.rdOwn1 h0 Try.underlying5 rfl (by with_unfolding_all exact ⟨_, rfl, rfl⟩) (by first | (simp; done) | (simp; omega) | omega) ?_)) | (with_reducible refine lst (by with_unfolding_all rfl) (wp_fld0 hF4 Try.underlying3 rfl (by with_unfolding_all exact ⟨_, rfl, rfl⟩) hop.out ?_)))
  go_ret
  exact ⟨rfl, hF4.below⟩
end Go.Proofs.Ytcnjnkkdidpjiaa
