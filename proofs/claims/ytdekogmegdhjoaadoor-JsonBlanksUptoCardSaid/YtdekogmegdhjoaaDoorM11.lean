/-
  Layer 6: the document's Same at one value twice.
  Layer 6: the walk of the program's has.
  Layer 6: which values are right, in plain words; the walk of the program's right.
  A text appended to bytes that the call owns, over a frame of known blocks. No program is named here.
-/
import Derived.Test.YtdekogmegdhjoaaDoorM10
import Derived.Test.YtdekogmegdhjoaaDoorM03
import Derived.Test.YtdekogmegdhjoaaDoorM05
import Derived.Lib.AppendStr
namespace Go.Proofs.YtdekogmegdhjoaaDoor
open Go.RowKit
set_option linter.unusedSimpArgs false

theorem JV.size_kid {k n : Int} {t : List UInt8} {ns : List (List UInt8)} {ks : List JV} {v : JV} {i : Nat} (h : ks[i]? = some v) : SizeOf.sizeOf v < SizeOf.sizeOf (JV.mk k n t ns ks) := by
  have := List.sizeOf_lt_of_mem (List.mem_of_getElem? h)
  simp only [JV.mk.sizeOf_spec]
  omega
set_option maxRecDepth 20000 in
set_option maxHeartbeats 12800000 in
theorem same_any (N : Nat) : ∀ (v : JV) (ca cb : List Value) (w : World), SizeOf.sizeOf v ≤ N → VRd w (· < w.heap.size) v ca → VRd w (· < w.heap.size) v cb → JSm v →
    Calls Tryd.prog 14 #[.agg ca.toArray, .agg cb.toArray] w fun e w' => e = .returned (.bool true) ∧ Below w.heap.size w w' := by
  induction N with
  | zero => intro v _ _ _ h; cases v; simp only [JV.mk.sizeOf_spec] at h; omega
  | succ N ih =>
    intro v ca cb w hN ha hb hsm
    obtain ⟨k, n, t, ns, ks⟩ := v
    rw [VRd] at ha hb
    obtain ⟨An, nn, cn, Ak, nk, ck, xk, hcn, hck, rfl, hrn, hrk, hvk⟩ := ha
    obtain ⟨An2, nn2, cn2, Ak2, nk2, ck2, xk2, hcn2, hck2, rfl, hrn2, hrk2, hvk2⟩ := hb
    rw [JSm] at hsm
    obtain ⟨hs1, hs2, hs3⟩ := hsm
    have hnn : ns.length = nn := by have := hrn.len; simpa using this
    obtain rfl : nn = nn2 := by have := hrn2.len; rw [← hnn]; simpa using this
    have hnk : ks.length = nk := by have := hrk.len; rw [hvk.len] at this; omega
    obtain rfl : nk = nk2 := by have := hrk2.len; rw [hvk2.len] at this; omega
    rw [hnn] at hs1
    rw [hnk] at hs2
    replace hnn := box hnn
    replace hnk := box hnk
    replace hvk := box hvk
    replace hvk2 := box hvk2
    have hF0 := Fr.nil w
    go_enter Tryd.func14, Tryd.ntmps14
    go_wp2_with (first | ((with_reducible refine lst (by with_unfolding_all rfl) (wp_fbox hF0 (cs := (vlL k n ⟨t.toArray⟩ (.slice An nn cn) (.slice Ak nk ck))) rfl (by with_unfolding_all rfl) (by with_unfolding_all rfl) ?_)); intro w1 g1 hF1 hz1) | ((with_reducible refine lst (by with_unfolding_all rfl) (wp_fbox hF1 (cs := (vlL k n ⟨t.toArray⟩ (.slice An2 nn cn2) (.slice Ak2 nk ck2))) rfl (by with_unfolding_all rfl) (by with_unfolding_all rfl) ?_)); intro w2 g2 hF2 hz2) | (with_reducible refine lst (by with_unfolding_all rfl) (wp_fld1 hF2 Tryd.underlying3 rfl (by with_unfolding_all exact ⟨_, rfl, rfl⟩) rfl ?_)) | (with_reducible refine lst (by with_unfolding_all rfl) (wp_fld0 hF2 Tryd.underlying3 rfl (by with_unfolding_all exact ⟨_, rfl, rfl⟩) rfl ?_)) | (with_reducible refine lst (by with_unfolding_all rfl) (wp_fld1 hF2 Tryd.underlying9 rfl (by with_unfolding_all exact ⟨_, rfl, rfl⟩) rfl ?_)) | (with_reducible refine lst (by with_unfolding_all rfl) (wp_fld0 hF2 Tryd.underlying9 rfl (by with_unfolding_all exact ⟨_, rfl, rfl⟩) rfl ?_)) | (with_reducible refine lst (by with_unfolding_all rfl) (wp_fld1 hF2 Tryd.underlying31 rfl (by with_unfolding_all exact ⟨_, rfl, rfl⟩) rfl ?_)) | (with_reducible refine lst (by with_unfolding_all rfl) (wp_fld0 hF2 Tryd.underlying31 rfl (by with_unfolding_all exact ⟨_, rfl, rfl⟩) rfl ?_)) | (with_reducible refine lst (by with_unfolding_all rfl) (wp_fld1 hF2 Tryd.underlying24 rfl (by with_unfolding_all exact ⟨_, rfl, rfl⟩) rfl ?_)) | (with_reducible refine lst (by with_unfolding_all rfl) (wp_fld0 hF2 Tryd.underlying24 rfl (by with_unfolding_all exact ⟨_, rfl, rfl⟩) rfl ?_)))
    clear hF0 hF1
    go_loopg [5] nn (fun gk s wr => ∃ i : Nat, i ≤ nn ∧ Box (gk = nn - i) ∧ s = .int .i64 (i : Int) ∧ Fr [] w wr [.blk g2 33 (vlL k n ⟨t.toArray⟩ (.slice An2 nn cn2) (.slice Ak2 nk ck2)), .blk g1 33 (vlL k n ⟨t.toArray⟩ (.slice An nn cn) (.slice Ak nk ck))])
    case atStart => exact ⟨0, by omega, box rfl, rfl, hF2⟩
    case round =>
      clear hF2
      obtain ⟨i, hi, hk, rfl, hF⟩ := hrel
      by_cases hlt : i < nn
      · obtain ⟨s, hs⟩ : ∃ s, ns[i]? = some s := ⟨ns[i]'(by rw [hnn.out]; exact hlt), by simp⟩
        have hss : Box ((ns.map strv)[i]? = some (.string ⟨s.toArray⟩)) := box (by rw [List.getElem?_map, hs]; rfl)
        replace hs := box hs
        go_upto_region 6 with (first | (with_reducible refine lst (by with_unfolding_all rfl) (wp_fld1 hF Tryd.underlying24 rfl (by with_unfolding_all exact ⟨_, rfl, rfl⟩) rfl ?_)))
        have hFd := hF.drew
        refine wp_region_held (S := fun w' => w'.heap[g2]? = some (.cells (List.toArray (vlL k n ⟨t.toArray⟩ (.slice An2 nn cn2) (.slice Ak2 nk ck2))) 33 (0, 0)) ∧ w'.heap[g1]? = some (.cells (List.toArray (vlL k n ⟨t.toArray⟩ (.slice An nn cn) (.slice Ak nk ck))) 33 (0, 0)) ∧ Rd w' (· < w.heap.size) An 1 nn (ns.map strv) ∧ Rd w' (· < w.heap.size) An2 1 nn (ns.map strv)) (by kernel_rfl) ?_
        change wpAnyH _ _ _ _ _ _ _ _ (World.drew _)
        refine tkp 0 ⟨hFd.blk (i := 0) rfl, hFd.blk (i := 1) rfl, hrn.below hFd.below, hrn2.below hFd.below⟩ ?_
        (try simp only [Act.put, List.setIfInBounds_toArray, List.set_cons_zero, List.set_cons_succ])
        refine tky 1 (y := yi_fld (by with_unfolding_all rfl) (fun _ h => h.2.1) Tryd.underlying24 rfl (by with_unfolding_all exact ⟨_, rfl, rfl⟩) rfl) (s := ⟨hFd.blk (i := 0) rfl, hFd.blk (i := 1) rfl, hrn.below hFd.below, hrn2.below hFd.below⟩) (h := ?_)
        (try simp only [Act.put, List.setIfInBounds_toArray, List.set_cons_zero, List.set_cons_succ])
        refine tkp 2 ⟨hFd.blk (i := 0) rfl, hFd.blk (i := 1) rfl, hrn.below hFd.below, hrn2.below hFd.below⟩ ?_
        (try simp only [Act.put, List.setIfInBounds_toArray, List.set_cons_zero, List.set_cons_succ])
        refine tky 3 (y := yi_ix (by with_unfolding_all rfl) T_strs (fun h => hrn.some_ h) (k := i) (by with_unfolding_all exact ⟨_, _, _, _, rfl, rfl, rfl⟩) rfl (by omega)) (s := ⟨hFd.blk (i := 0) rfl, hFd.blk (i := 1) rfl, hrn.below hFd.below, hrn2.below hFd.below⟩) (h := ?_)
        (try simp only [Act.put, List.setIfInBounds_toArray, List.set_cons_zero, List.set_cons_succ])
        refine tky 4 (y := yi_ld (by with_unfolding_all rfl) (j := i * 1) (fun _ h => h.2.2.1) Tryd.underlying9 rfl (by with_unfolding_all exact ⟨_, rfl, rfl⟩) (by rw [Nat.mul_one]; exact hss.out)) (s := ⟨hFd.blk (i := 0) rfl, hFd.blk (i := 1) rfl, hrn.below hFd.below, hrn2.below hFd.below⟩) (h := ?_)
        (try simp only [Act.put, List.setIfInBounds_toArray, List.set_cons_zero, List.set_cons_succ])
        refine tkp 5 ⟨hFd.blk (i := 0) rfl, hFd.blk (i := 1) rfl, hrn.below hFd.below, hrn2.below hFd.below⟩ ?_
        (try simp only [Act.put, List.setIfInBounds_toArray, List.set_cons_zero, List.set_cons_succ])
        refine tky 6 (y := yi_fld (by with_unfolding_all rfl) (fun _ h => h.1) Tryd.underlying24 rfl (by with_unfolding_all exact ⟨_, rfl, rfl⟩) rfl) (s := ⟨hFd.blk (i := 0) rfl, hFd.blk (i := 1) rfl, hrn.below hFd.below, hrn2.below hFd.below⟩) (h := ?_)
        (try simp only [Act.put, List.setIfInBounds_toArray, List.set_cons_zero, List.set_cons_succ])
        refine tkp 7 ⟨hFd.blk (i := 0) rfl, hFd.blk (i := 1) rfl, hrn.below hFd.below, hrn2.below hFd.below⟩ ?_
        (try simp only [Act.put, List.setIfInBounds_toArray, List.set_cons_zero, List.set_cons_succ])
        refine tky 8 (y := yi_ix (by with_unfolding_all rfl) T_strs (fun h => hrn2.some_ h) (k := i) (by with_unfolding_all exact ⟨_, _, _, _, rfl, rfl, rfl⟩) rfl (by omega)) (s := ⟨hFd.blk (i := 0) rfl, hFd.blk (i := 1) rfl, hrn.below hFd.below, hrn2.below hFd.below⟩) (h := ?_)
        (try simp only [Act.put, List.setIfInBounds_toArray, List.set_cons_zero, List.set_cons_succ])
        refine tky 9 (y := yi_ld (by with_unfolding_all rfl) (j := i * 1) (fun _ h => h.2.2.2) Tryd.underlying9 rfl (by with_unfolding_all exact ⟨_, rfl, rfl⟩) (by rw [Nat.mul_one]; exact hss.out)) (s := ⟨hFd.blk (i := 0) rfl, hFd.blk (i := 1) rfl, hrn.below hFd.below, hrn2.below hFd.below⟩) (h := ?_)
        (try simp only [Act.put, List.setIfInBounds_toArray, List.set_cons_zero, List.set_cons_succ])
        refine tkp 10 ⟨hFd.blk (i := 0) rfl, hFd.blk (i := 1) rfl, hrn.below hFd.below, hrn2.below hFd.below⟩ ?_
        (try simp only [Act.put, List.setIfInBounds_toArray, List.set_cons_zero, List.set_cons_succ])
        refine wpAnyH_done (by kernel_rfl) ?_ _
        go_wp2_with fail
        go_roundg (nn - (i + 1))
        case rel => exact ⟨i + 1, by omega, box rfl, by go_num, hFd⟩
        case measure => have := hk.out; omega
      · have hin : nn = i := by omega
        subst hin
        clear hk hi hlt
        go_wp2_with (first | (with_reducible refine lst (by with_unfolding_all rfl) (wp_fld1 hF Tryd.underlying24 rfl (by with_unfolding_all exact ⟨_, rfl, rfl⟩) rfl ?_)))
        go_loopg [6] nk (fun gk s wr => ∃ i : Nat, i ≤ nk ∧ Box (gk = nk - i) ∧ s = .int .i64 (i : Int) ∧ Fr [] w wr [.blk g2 33 (vlL k n ⟨t.toArray⟩ (.slice An2 nn cn2) (.slice Ak2 nk ck2)), .blk g1 33 (vlL k n ⟨t.toArray⟩ (.slice An nn cn) (.slice Ak nk ck))])
        case atStart => exact ⟨0, by omega, box rfl, rfl, hF⟩
        case round =>
          clear hF
          obtain ⟨i, hi, hk, rfl, hF⟩ := hrel
          by_cases hlt : i < nk
          · obtain ⟨vi, hvi⟩ : ∃ vi, ks[i]? = some vi := ⟨ks[i]'(by rw [hnk.out]; exact hlt), by simp⟩
            obtain ⟨ci, hci, hvri⟩ := hvk.out.at hvi
            obtain ⟨di, hdi, hvrj⟩ := hvk2.out.at hvi
            have hcil := box hvri.len
            have hdil := box hvrj.len
            replace hci := box hci
            replace hdi := box hdi
            have hsi := hs3.at hvi
            have hsz : SizeOf.sizeOf vi ≤ N := by have := JV.size_kid (k := k) (n := n) (t := t) (ns := ns) hvi; omega
            have ihc := box (fun w' (hb : Below w.heap.size w w') => ih vi ci di w' hsz (hvri.on hb) (hvrj.on hb) hsi)
            replace hvi := box hvi
            replace hvri := box hvri
            replace hvrj := box hvrj
            replace hsi := box hsi
            replace hs3 := box hs3
            replace hsz := box hsz
            replace hN := box hN
            go_upto_region 11 with (first | (with_reducible refine lst (by with_unfolding_all rfl) (wp_fld1 hF Tryd.underlying31 rfl (by with_unfolding_all exact ⟨_, rfl, rfl⟩) rfl ?_)))
            have hFd := hF.drew
            refine wp_region_held (S := fun w' => w'.heap[g2]? = some (.cells (List.toArray (vlL k n ⟨t.toArray⟩ (.slice An2 nn cn2) (.slice Ak2 nk ck2))) 33 (0, 0)) ∧ w'.heap[g1]? = some (.cells (List.toArray (vlL k n ⟨t.toArray⟩ (.slice An nn cn) (.slice Ak nk ck))) 33 (0, 0)) ∧ Rd w' (· < w.heap.size) Ak 5 nk xk ∧ Rd w' (· < w.heap.size) Ak2 5 nk xk2) (by kernel_rfl) ?_
            change wpAnyH _ _ _ _ _ _ _ _ (World.drew _)
            refine tkp 0 ⟨hFd.blk (i := 0) rfl, hFd.blk (i := 1) rfl, hrk.below hFd.below, hrk2.below hFd.below⟩ ?_
            (try simp only [Act.put, List.setIfInBounds_toArray, List.set_cons_zero, List.set_cons_succ])
            refine tky 1 (y := yi_fld (by with_unfolding_all rfl) (fun _ h => h.2.1) Tryd.underlying31 rfl (by with_unfolding_all exact ⟨_, rfl, rfl⟩) rfl) (s := ⟨hFd.blk (i := 0) rfl, hFd.blk (i := 1) rfl, hrk.below hFd.below, hrk2.below hFd.below⟩) (h := ?_)
            (try simp only [Act.put, List.setIfInBounds_toArray, List.set_cons_zero, List.set_cons_succ])
            refine tkp 2 ⟨hFd.blk (i := 0) rfl, hFd.blk (i := 1) rfl, hrk.below hFd.below, hrk2.below hFd.below⟩ ?_
            (try simp only [Act.put, List.setIfInBounds_toArray, List.set_cons_zero, List.set_cons_succ])
            refine tky 3 (y := yi_ix (by with_unfolding_all rfl) T_rvals (fun h => hrk.some_ h) (k := i) (by with_unfolding_all exact ⟨_, _, _, _, rfl, rfl, rfl⟩) rfl (by omega)) (s := ⟨hFd.blk (i := 0) rfl, hFd.blk (i := 1) rfl, hrk.below hFd.below, hrk2.below hFd.below⟩) (h := ?_)
            (try simp only [Act.put, List.setIfInBounds_toArray, List.set_cons_zero, List.set_cons_succ])
            refine tky 4 (y := yi_ldA (by with_unfolding_all rfl) (fun _ h => h.2.2.1) Tryd.underlying33 rfl (by with_unfolding_all exact ⟨_, rfl, rfl⟩) (ds := ci) (by rw [hcil.out]; kernel_rfl) (by rw [hcil.out]; exact hci.out)) (s := ⟨hFd.blk (i := 0) rfl, hFd.blk (i := 1) rfl, hrk.below hFd.below, hrk2.below hFd.below⟩) (h := ?_)
            (try simp only [Act.put, List.setIfInBounds_toArray, List.set_cons_zero, List.set_cons_succ])
            refine tkp 5 ⟨hFd.blk (i := 0) rfl, hFd.blk (i := 1) rfl, hrk.below hFd.below, hrk2.below hFd.below⟩ ?_
            (try simp only [Act.put, List.setIfInBounds_toArray, List.set_cons_zero, List.set_cons_succ])
            refine tky 6 (y := yi_fld (by with_unfolding_all rfl) (fun _ h => h.1) Tryd.underlying31 rfl (by with_unfolding_all exact ⟨_, rfl, rfl⟩) rfl) (s := ⟨hFd.blk (i := 0) rfl, hFd.blk (i := 1) rfl, hrk.below hFd.below, hrk2.below hFd.below⟩) (h := ?_)
            (try simp only [Act.put, List.setIfInBounds_toArray, List.set_cons_zero, List.set_cons_succ])
            refine tkp 7 ⟨hFd.blk (i := 0) rfl, hFd.blk (i := 1) rfl, hrk.below hFd.below, hrk2.below hFd.below⟩ ?_
            (try simp only [Act.put, List.setIfInBounds_toArray, List.set_cons_zero, List.set_cons_succ])
            refine tky 8 (y := yi_ix (by with_unfolding_all rfl) T_rvals (fun h => hrk2.some_ h) (k := i) (by with_unfolding_all exact ⟨_, _, _, _, rfl, rfl, rfl⟩) rfl (by omega)) (s := ⟨hFd.blk (i := 0) rfl, hFd.blk (i := 1) rfl, hrk.below hFd.below, hrk2.below hFd.below⟩) (h := ?_)
            (try simp only [Act.put, List.setIfInBounds_toArray, List.set_cons_zero, List.set_cons_succ])
            refine tky 9 (y := yi_ldA (by with_unfolding_all rfl) (fun _ h => h.2.2.2) Tryd.underlying33 rfl (by with_unfolding_all exact ⟨_, rfl, rfl⟩) (ds := di) (by rw [hdil.out]; kernel_rfl) (by rw [hdil.out]; exact hdi.out)) (s := ⟨hFd.blk (i := 0) rfl, hFd.blk (i := 1) rfl, hrk.below hFd.below, hrk2.below hFd.below⟩) (h := ?_)
            (try simp only [Act.put, List.setIfInBounds_toArray, List.set_cons_zero, List.set_cons_succ])
            refine rdy1 10 (fun K hK => ?_)
            refine stp (by with_unfolding_all rfl) (wp_call Tryd.func14 rfl (by with_unfolding_all rfl) (by with_unfolding_all rfl) (by with_unfolding_all rfl) (ihc.out _ hFd.below) ?_)
            rintro e w31 ⟨rfl, hb31⟩
            refine ⟨_, rfl, ?_⟩
            have hF31 := hFd.call hb31
            refine hK.out _ _ (⟨hF31.blk (i := 0) rfl, hF31.blk (i := 1) rfl, hrk.below hF31.below, hrk2.below hF31.below⟩) (fun _ => ?_)
            clear hK K
            (try simp only [Act.put, List.setIfInBounds_toArray, List.set_cons_zero, List.set_cons_succ])
            refine tkp 11 ⟨hF31.blk (i := 0) rfl, hF31.blk (i := 1) rfl, hrk.below hF31.below, hrk2.below hF31.below⟩ ?_
            (try simp only [Act.put, List.setIfInBounds_toArray, List.set_cons_zero, List.set_cons_succ])
            refine wpAnyH_done (by kernel_rfl) ?_ _
            go_wp2_with fail
            go_roundg (nk - (i + 1))
            case rel => exact ⟨i + 1, by omega, box rfl, by go_num, hF31⟩
            case measure => have := hk.out; omega
          · have hin : nk = i := by omega
            subst hin
            go_wp2_with (first | (with_reducible refine lst (by with_unfolding_all rfl) (wp_fld1 hF Tryd.underlying31 rfl (by with_unfolding_all exact ⟨_, rfl, rfl⟩) rfl ?_)))
            go_ret
            exact ⟨rfl, hF.below⟩
end Go.Proofs.YtdekogmegdhjoaaDoor

namespace Go.Proofs.YtdekogmegdhjoaaDoor
open Go.RowKit
set_option linter.unusedSimpArgs false

set_option maxRecDepth 20000 in
set_option maxHeartbeats 3200000 in
theorem has_any (A : Option Addr) (n c : Nat) (ns : List (List UInt8)) (s : List UInt8) (w : World) (S : Nat → Prop) (hn : n ≤ 1048576) (hr : Rd w S A 1 n (ns.map strv)) :
    Calls Tryd.prog 48 #[.slice A n c, .string ⟨s.toArray⟩] w fun e w' => e = .returned (.bool (decide (s ∈ ns))) ∧ w = w' := by
  have hl : ns.length = n := by have := hr.len; simpa using this
  replace hl := box hl
  obtain ⟨R, hR⟩ : ∃ R, R = decide (s ∈ ns) := ⟨_, rfl⟩
  rw [← hR]
  replace hR := box hR
  go_enter Tryd.func48, Tryd.ntmps48
  go_wp2
  go_loopg [9] n (fun k i wr => ∃ j : Nat, j ≤ n ∧ Box (k = n - j) ∧ i = .int .i64 (j : Int) ∧ Box (∀ t ∈ ns.take j, s ≠ t) ∧ wr = w)
  case atStart => exact ⟨0, by omega, box rfl, rfl, box (by simp), rfl⟩
  case round =>
    obtain ⟨j, hj, hk, rfl, hno, rfl⟩ := hrel
    by_cases hlt : j < n
    · obtain ⟨t, ht⟩ : ∃ t, ns[j]? = some t := ⟨ns[j]'(by rw [hl.out]; exact hlt), by simp⟩
      have hts : Box ((ns.map strv)[j]? = some (.string ⟨t.toArray⟩)) := box (by rw [List.getElem?_map, ht]; rfl)
      have htk : ns.take (j + 1) = ns.take j ++ [t] := by rw [List.take_add_one, ht]; rfl
      by_cases hst : s = t
      · have hRt : R = true := by rw [hR.out, hst]; exact decide_eq_true (List.mem_of_getElem? ht)
        subst hst
        clear ht htk
        go_wp2_with (first | (with_reducible refine lst (by with_unfolding_all rfl) (wp_indexAddr T_strs hr (by with_unfolding_all exact ⟨_, _, _, _, rfl, rfl, rfl⟩) (by omega) (by omega) ?_)) | (with_reducible refine lst (by with_unfolding_all rfl) (wp_load1C hr hts Tryd.underlying9 rfl (by with_unfolding_all exact ⟨_, rfl, rfl⟩) (by first | (simp; done) | (simp; omega) | omega) ?_)))
        go_ret
        exact ⟨by rw [hRt]; rfl, rfl⟩
      · have hno2 : Box (∀ t ∈ ns.take (j + 1), s ≠ t) := box (fun u hu => by
          rw [htk] at hu
          rcases List.mem_append.1 hu with hu | hu
          · exact hno.out u hu
          · rw [List.mem_singleton.1 hu]; exact hst)
        have hst2 : (s == t) = false := by rw [beq_eq_false_iff_ne]; exact hst
        replace hst := box hst
        clear ht htk
        go_wp2_with (first | (with_reducible refine lst (by with_unfolding_all rfl) (wp_indexAddr T_strs hr (by with_unfolding_all exact ⟨_, _, _, _, rfl, rfl, rfl⟩) (by omega) (by omega) ?_)) | (with_reducible refine lst (by with_unfolding_all rfl) (wp_load1C hr hts Tryd.underlying9 rfl (by with_unfolding_all exact ⟨_, rfl, rfl⟩) (by first | (simp; done) | (simp; omega) | omega) ?_)))
        go_roundg (n - (j + 1))
        case rel => exact ⟨j + 1, by omega, box rfl, by go_num, hno2, rfl⟩
        case measure => have := hk.out; omega
    · have hRf : R = false := by
        rw [hR.out]
        refine decide_eq_false (fun hm => ?_)
        obtain rfl : j = n := by omega
        have h2 := hno.out s
        rw [List.take_of_length_le (by rw [hl.out]; exact Nat.le_refl _)] at h2
        exact h2 hm rfl
      clear hk
      go_wp2
      go_ret
      exact ⟨by rw [hRf]; rfl, rfl⟩
end Go.Proofs.YtdekogmegdhjoaaDoor

namespace Go.Proofs.YtdekogmegdhjoaaDoor
open Go.RowKit
set_option linter.unusedSimpArgs false

def jRightL (f : JV → Nat → Option Nat) (obj : Bool) : List (List UInt8) → List (List UInt8) → List JV → Nat → Option Nat
  | _, _, [], m => some m
  | seen, ns, v :: vs, m =>
    if obj = true ∧ (Lib.validD (ns.headD []) = false ∨ ns.headD [] ∈ seen) then none else
      match f v m with
      | none => none
      | some m' => jRightL f obj (seen ++ [ns.headD []]) ns.tail vs m'
/-- What no value is right with, as the m-th and one. -/
def jBad (k n : Int) (t : List UInt8) (m : Nat) : Prop := 4096 < m + 1 ∨ k < 0 ∨ 6 < k ∨ Lib.validD t = false ∨ 9007199254740991 < n ∨ n < -9007199254740991
instance (k n : Int) (t : List UInt8) (m : Nat) : Decidable (jBad k n t m) := by unfold jBad; exact inferInstance
/-- Is a value right, where so many lists and objects may still be nested and so many values came ahead? How many it makes. -/
def jRight : Nat → JV → Nat → Option Nat
  | 0, .mk k n t _ _, m => if jBad k n t m then none else if k < 5 then some (m + 1) else none
  | d + 1, .mk k n t ns ks, m => if jBad k n t m then none else if k < 5 then some (m + 1) else if k = 6 ∧ ns.length ≠ ks.length then none else jRightL (jRight d) (k == 6) [] ns ks (m + 1)
theorem jRight_bad {d : Nat} {k n : Int} {t : List UInt8} {ns : List (List UInt8)} {ks : List JV} {m : Nat} (h : jBad k n t m) : jRight d (.mk k n t ns ks) m = none := by
  cases d <;> (rw [jRight, if_pos h])
theorem jRight_leaf {d : Nat} {k n : Int} {t : List UInt8} {ns : List (List UInt8)} {ks : List JV} {m : Nat} (h : ¬ jBad k n t m) (hk : k < 5) : jRight d (.mk k n t ns ks) m = some (m + 1) := by
  cases d <;> (rw [jRight, if_neg h, if_pos hk])
theorem jRightL_le {f : JV → Nat → Option Nat} (hf : ∀ v m x, m ≤ 4096 → f v m = some x → x ≤ 4096) {obj : Bool} : ∀ {ks : List JV} {seen ns : List (List UInt8)} {m x : Nat}, m ≤ 4096 → jRightL f obj seen ns ks m = some x → x ≤ 4096
  | [], _, _, m, x, hm, h => by injection h with h; omega
  | v :: vs, seen, ns, m, x, hm, h => by
    rw [jRightL] at h
    split at h
    · cases h
    · cases hv : f v m with
      | none => rw [hv] at h; cases h
      | some m' => rw [hv] at h; exact jRightL_le hf (hf _ _ _ hm hv) h
theorem jRight_le : ∀ {d : Nat} (v : JV) (m x : Nat), m ≤ 4096 → jRight d v m = some x → x ≤ 4096
  | 0, .mk k n t ns ks, m, x, hm, h => by
    rw [jRight] at h
    split at h
    · cases h
    · rename_i hb
      have : ¬ 4096 < m + 1 := fun h => hb (.inl h)
      split at h
      · injection h with h; omega
      · cases h
  | d + 1, .mk k n t ns ks, m, x, hm, h => by
    rw [jRight] at h
    split at h
    · cases h
    · rename_i hb
      have : ¬ 4096 < m + 1 := fun h => hb (.inl h)
      split at h
      · injection h with h; omega
      · split at h
        · cases h
        · exact jRightL_le (fun v m x => jRight_le (d := d) v m x) (by omega) h
theorem spl1' (u v : Value) : spl [u] 0 [v] = [v] := rfl
/-- What 'right' tells; behind a value that is right the count is what it says. -/
def RightPost (w : World) (gi : Nat) (r : Option Nat) (e : Ending) (w' : World) : Prop :=
  ∃ m' : Nat, e = .returned (.bool r.isSome) ∧ (∀ x, r = some x → m' = x) ∧ Fr [gi] w w' [.blk gi 3 [.int .i64 (m' : Int)]]
theorem valid_ok {B : Nat} {w : World} (hL : LibsAt B w) (t : List UInt8) (ht : t.length ≤ 9223372036854775807) : Calls Tryd.prog 47 #[.string ⟨t.toArray⟩] w fun e w' => e = .returned (.bool (Lib.validD t)) ∧ Below w.heap.size w w' :=
  Any.utf8_ValidString Tryd.laysValid ⟨t.toArray⟩ w (by rw [str_mk_size]; exact ht) hL.tabs

set_option maxRecDepth 20000 in
set_option maxHeartbeats 12800000 in
/-- All but lists and objects. -/
theorem right_of (d deep : Nat) (w : World) (gi m B : Nat) (k n : Int) (t : List UInt8) (ns : List (List UInt8)) (ks : List JV) (An : Option Addr) (nn cn : Nat) (Ak : Option Addr) (nk ck : Nat) (hm : m ≤ 4096) (hL : LibsAt B w) (hh : w.heap[gi]? = some (.cells [.int .i64 (m : Int)].toArray 3 (0, 0))) (hg : B ≤ gi) (hB : B ≤ w.heap.size) (ht : t.length ≤ 9223372036854775807)
    (hdeep : ¬ jBad k n t m → (k = 5 ∨ k = 6) → Calls Tryd.prog 31 #[.agg (vlL k n ⟨t.toArray⟩ (.slice An nn cn) (.slice Ak nk ck)).toArray, .int .i64 (deep : Int), .pointer (some ⟨gi, 0, none⟩)] w (RightPost w gi (jRight d (.mk k n t ns ks) m))) :
    Calls Tryd.prog 31 #[.agg (vlL k n ⟨t.toArray⟩ (.slice An nn cn) (.slice Ak nk ck)).toArray, .int .i64 (deep : Int), .pointer (some ⟨gi, 0, none⟩)] w (RightPost w gi (jRight d (.mk k n t ns ks) m)) := by
  have hF0 := Fr.one hh
  have hvs := box (fun w' {es : List Ent} (hF : Fr [gi] w w' es) => valid_ok (hL.on (hF.belowG hg hB)) t ht)
  clear hh
  replace ht := box ht
  by_cases c1 : 4096 < m + 1
  · have d1 : decide ((4096 : Int) < (m : Int) + 1) = true := decide_eq_true (by omega)
    have hjr : Box (jRight d (.mk k n t ns ks) m = none) := box (jRight_bad (.inl c1))
    replace c1 := box c1
    go_enter Tryd.func31, Tryd.ntmps31
    go_wp2_with (first | ((with_reducible refine lst (by with_unfolding_all rfl) (wp_fbox hF0 (cs := (vlL k n ⟨t.toArray⟩ (.slice An nn cn) (.slice Ak nk ck))) rfl (by with_unfolding_all rfl) (by with_unfolding_all rfl) ?_)); intro w1 g1 hF1 hz1) | (with_reducible refine lst (by with_unfolding_all rfl) (wp_fld1 hF1 Tryd.underlying3 rfl (by with_unfolding_all exact ⟨_, rfl, rfl⟩) rfl ?_)) | ((with_reducible refine lst (by with_unfolding_all rfl) (wp_fst1 hF1 (by with_unfolding_all exact ⟨_, _, rfl, rfl, rfl⟩) (by kernel_rfl) rfl rfl (by first | decide | (simp; done) | (simp; omega)) (spl1' _ (.int .i64 ((m : Int) + 1))) ?_)); intro w2 hF2 hz2) | (with_reducible refine lst (by with_unfolding_all rfl) (wp_fld1 hF2 Tryd.underlying3 rfl (by with_unfolding_all exact ⟨_, rfl, rfl⟩) rfl ?_)) | (with_reducible refine lst (by with_unfolding_all rfl) (wp_fld0 hF2 Tryd.underlying3 rfl (by with_unfolding_all exact ⟨_, rfl, rfl⟩) rfl ?_)) | (with_reducible refine lst (by with_unfolding_all rfl) (wp_fld0 hF2 Tryd.underlying9 rfl (by with_unfolding_all exact ⟨_, rfl, rfl⟩) rfl ?_)))
    go_ret
    exact ⟨m + 1, by rw [hjr.out]; rfl, (fun x h => by rw [hjr.out] at h; cases h), hF2.tail⟩
  · have d1 : decide ((4096 : Int) < (m : Int) + 1) = false := decide_eq_false (by omega)
    by_cases c2 : k < 0
    · have d2 : decide (k < 0) = true := decide_eq_true c2
      have hjr : Box (jRight d (.mk k n t ns ks) m = none) := box (jRight_bad (.inr (.inl c2)))
      replace c1 := box c1
      replace c2 := box c2
      go_enter Tryd.func31, Tryd.ntmps31
      go_wp2_with (first | ((with_reducible refine lst (by with_unfolding_all rfl) (wp_fbox hF0 (cs := (vlL k n ⟨t.toArray⟩ (.slice An nn cn) (.slice Ak nk ck))) rfl (by with_unfolding_all rfl) (by with_unfolding_all rfl) ?_)); intro w1 g1 hF1 hz1) | (with_reducible refine lst (by with_unfolding_all rfl) (wp_fld1 hF1 Tryd.underlying3 rfl (by with_unfolding_all exact ⟨_, rfl, rfl⟩) rfl ?_)) | ((with_reducible refine lst (by with_unfolding_all rfl) (wp_fst1 hF1 (by with_unfolding_all exact ⟨_, _, rfl, rfl, rfl⟩) (by kernel_rfl) rfl rfl (by first | decide | (simp; done) | (simp; omega)) (spl1' _ (.int .i64 ((m : Int) + 1))) ?_)); intro w2 hF2 hz2) | (with_reducible refine lst (by with_unfolding_all rfl) (wp_fld1 hF2 Tryd.underlying3 rfl (by with_unfolding_all exact ⟨_, rfl, rfl⟩) rfl ?_)) | (with_reducible refine lst (by with_unfolding_all rfl) (wp_fld0 hF2 Tryd.underlying3 rfl (by with_unfolding_all exact ⟨_, rfl, rfl⟩) rfl ?_)) | (with_reducible refine lst (by with_unfolding_all rfl) (wp_fld0 hF2 Tryd.underlying9 rfl (by with_unfolding_all exact ⟨_, rfl, rfl⟩) rfl ?_)))
      go_ret
      exact ⟨m + 1, by rw [hjr.out]; rfl, (fun x h => by rw [hjr.out] at h; cases h), hF2.tail⟩
    · have d2 : decide (k < 0) = false := decide_eq_false c2
      by_cases c3 : 6 < k
      · have d3 : decide ((6 : Int) < k) = true := decide_eq_true c3
        have hjr : Box (jRight d (.mk k n t ns ks) m = none) := box (jRight_bad (.inr (.inr (.inl c3))))
        replace c1 := box c1
        replace c2 := box c2
        replace c3 := box c3
        go_enter Tryd.func31, Tryd.ntmps31
        go_wp2_with (first | ((with_reducible refine lst (by with_unfolding_all rfl) (wp_fbox hF0 (cs := (vlL k n ⟨t.toArray⟩ (.slice An nn cn) (.slice Ak nk ck))) rfl (by with_unfolding_all rfl) (by with_unfolding_all rfl) ?_)); intro w1 g1 hF1 hz1) | (with_reducible refine lst (by with_unfolding_all rfl) (wp_fld1 hF1 Tryd.underlying3 rfl (by with_unfolding_all exact ⟨_, rfl, rfl⟩) rfl ?_)) | ((with_reducible refine lst (by with_unfolding_all rfl) (wp_fst1 hF1 (by with_unfolding_all exact ⟨_, _, rfl, rfl, rfl⟩) (by kernel_rfl) rfl rfl (by first | decide | (simp; done) | (simp; omega)) (spl1' _ (.int .i64 ((m : Int) + 1))) ?_)); intro w2 hF2 hz2) | (with_reducible refine lst (by with_unfolding_all rfl) (wp_fld1 hF2 Tryd.underlying3 rfl (by with_unfolding_all exact ⟨_, rfl, rfl⟩) rfl ?_)) | (with_reducible refine lst (by with_unfolding_all rfl) (wp_fld0 hF2 Tryd.underlying3 rfl (by with_unfolding_all exact ⟨_, rfl, rfl⟩) rfl ?_)) | (with_reducible refine lst (by with_unfolding_all rfl) (wp_fld0 hF2 Tryd.underlying9 rfl (by with_unfolding_all exact ⟨_, rfl, rfl⟩) rfl ?_)))
        go_ret
        exact ⟨m + 1, by rw [hjr.out]; rfl, (fun x h => by rw [hjr.out] at h; cases h), hF2.tail⟩
      · have d3 : decide ((6 : Int) < k) = false := decide_eq_false c3
        cases hvt : Lib.validD t with
        | false =>
          have hjr : Box (jRight d (.mk k n t ns ks) m = none) := box (jRight_bad (.inr (.inr (.inr (.inl hvt)))))
          rw [hvt] at hvs
          replace c1 := box c1
          replace c2 := box c2
          replace c3 := box c3
          replace hvt := box hvt
          go_enter Tryd.func31, Tryd.ntmps31
          go_wp2_with (first | ((with_reducible refine lst (by with_unfolding_all rfl) (wp_fbox hF0 (cs := (vlL k n ⟨t.toArray⟩ (.slice An nn cn) (.slice Ak nk ck))) rfl (by with_unfolding_all rfl) (by with_unfolding_all rfl) ?_)); intro w1 g1 hF1 hz1) | (with_reducible refine lst (by with_unfolding_all rfl) (wp_fld1 hF1 Tryd.underlying3 rfl (by with_unfolding_all exact ⟨_, rfl, rfl⟩) rfl ?_)) | ((with_reducible refine lst (by with_unfolding_all rfl) (wp_fst1 hF1 (by with_unfolding_all exact ⟨_, _, rfl, rfl, rfl⟩) (by kernel_rfl) rfl rfl (by first | decide | (simp; done) | (simp; omega)) (spl1' _ (.int .i64 ((m : Int) + 1))) ?_)); intro w2 hF2 hz2) | (with_reducible refine lst (by with_unfolding_all rfl) (wp_fld1 hF2 Tryd.underlying3 rfl (by with_unfolding_all exact ⟨_, rfl, rfl⟩) rfl ?_)) | (with_reducible refine lst (by with_unfolding_all rfl) (wp_fld0 hF2 Tryd.underlying3 rfl (by with_unfolding_all exact ⟨_, rfl, rfl⟩) rfl ?_)) | (with_reducible refine lst (by with_unfolding_all rfl) (wp_fld0 hF2 Tryd.underlying9 rfl (by with_unfolding_all exact ⟨_, rfl, rfl⟩) rfl ?_)))
          refine (hvs.out _ hF2).mono ?_
          rintro e w3 ⟨rfl, hb3⟩
          have hF3 := hF2.call hb3
          go_wp2_with (first | (with_reducible refine lst (by with_unfolding_all rfl) (wp_fld0 hF3 Tryd.underlying3 rfl (by with_unfolding_all exact ⟨_, rfl, rfl⟩) rfl ?_)))
          go_ret
          exact ⟨m + 1, by rw [hjr.out]; rfl, (fun x h => by rw [hjr.out] at h; cases h), hF3.tail⟩
        | true =>
          rw [hvt] at hvs
          by_cases c4 : 9007199254740991 < n
          · have d4 : decide ((9007199254740991 : Int) < n) = true := decide_eq_true c4
            have hjr : Box (jRight d (.mk k n t ns ks) m = none) := box (jRight_bad (.inr (.inr (.inr (.inr (.inl c4))))))
            replace c1 := box c1
            replace c2 := box c2
            replace c3 := box c3
            replace c4 := box c4
            replace hvt := box hvt
            go_enter Tryd.func31, Tryd.ntmps31
            go_wp2_with (first | ((with_reducible refine lst (by with_unfolding_all rfl) (wp_fbox hF0 (cs := (vlL k n ⟨t.toArray⟩ (.slice An nn cn) (.slice Ak nk ck))) rfl (by with_unfolding_all rfl) (by with_unfolding_all rfl) ?_)); intro w1 g1 hF1 hz1) | (with_reducible refine lst (by with_unfolding_all rfl) (wp_fld1 hF1 Tryd.underlying3 rfl (by with_unfolding_all exact ⟨_, rfl, rfl⟩) rfl ?_)) | ((with_reducible refine lst (by with_unfolding_all rfl) (wp_fst1 hF1 (by with_unfolding_all exact ⟨_, _, rfl, rfl, rfl⟩) (by kernel_rfl) rfl rfl (by first | decide | (simp; done) | (simp; omega)) (spl1' _ (.int .i64 ((m : Int) + 1))) ?_)); intro w2 hF2 hz2) | (with_reducible refine lst (by with_unfolding_all rfl) (wp_fld1 hF2 Tryd.underlying3 rfl (by with_unfolding_all exact ⟨_, rfl, rfl⟩) rfl ?_)) | (with_reducible refine lst (by with_unfolding_all rfl) (wp_fld0 hF2 Tryd.underlying3 rfl (by with_unfolding_all exact ⟨_, rfl, rfl⟩) rfl ?_)) | (with_reducible refine lst (by with_unfolding_all rfl) (wp_fld0 hF2 Tryd.underlying9 rfl (by with_unfolding_all exact ⟨_, rfl, rfl⟩) rfl ?_)))
            refine (hvs.out _ hF2).mono ?_
            rintro e w3 ⟨rfl, hb3⟩
            have hF3 := hF2.call hb3
            go_wp2_with (first | (with_reducible refine lst (by with_unfolding_all rfl) (wp_fld0 hF3 Tryd.underlying3 rfl (by with_unfolding_all exact ⟨_, rfl, rfl⟩) rfl ?_)))
            go_ret
            exact ⟨m + 1, by rw [hjr.out]; rfl, (fun x h => by rw [hjr.out] at h; cases h), hF3.tail⟩
          · have d4 : decide ((9007199254740991 : Int) < n) = false := decide_eq_false c4
            by_cases c5 : n < -9007199254740991
            · have d5 : decide (n < (-9007199254740991 : Int)) = true := decide_eq_true c5
              have hjr : Box (jRight d (.mk k n t ns ks) m = none) := box (jRight_bad (.inr (.inr (.inr (.inr (.inr c5))))))
              replace c1 := box c1
              replace c2 := box c2
              replace c3 := box c3
              replace c4 := box c4
              replace c5 := box c5
              replace hvt := box hvt
              go_enter Tryd.func31, Tryd.ntmps31
              go_wp2_with (first | ((with_reducible refine lst (by with_unfolding_all rfl) (wp_fbox hF0 (cs := (vlL k n ⟨t.toArray⟩ (.slice An nn cn) (.slice Ak nk ck))) rfl (by with_unfolding_all rfl) (by with_unfolding_all rfl) ?_)); intro w1 g1 hF1 hz1) | (with_reducible refine lst (by with_unfolding_all rfl) (wp_fld1 hF1 Tryd.underlying3 rfl (by with_unfolding_all exact ⟨_, rfl, rfl⟩) rfl ?_)) | ((with_reducible refine lst (by with_unfolding_all rfl) (wp_fst1 hF1 (by with_unfolding_all exact ⟨_, _, rfl, rfl, rfl⟩) (by kernel_rfl) rfl rfl (by first | decide | (simp; done) | (simp; omega)) (spl1' _ (.int .i64 ((m : Int) + 1))) ?_)); intro w2 hF2 hz2) | (with_reducible refine lst (by with_unfolding_all rfl) (wp_fld1 hF2 Tryd.underlying3 rfl (by with_unfolding_all exact ⟨_, rfl, rfl⟩) rfl ?_)) | (with_reducible refine lst (by with_unfolding_all rfl) (wp_fld0 hF2 Tryd.underlying3 rfl (by with_unfolding_all exact ⟨_, rfl, rfl⟩) rfl ?_)) | (with_reducible refine lst (by with_unfolding_all rfl) (wp_fld0 hF2 Tryd.underlying9 rfl (by with_unfolding_all exact ⟨_, rfl, rfl⟩) rfl ?_)))
              refine (hvs.out _ hF2).mono ?_
              rintro e w3 ⟨rfl, hb3⟩
              have hF3 := hF2.call hb3
              go_wp2_with (first | (with_reducible refine lst (by with_unfolding_all rfl) (wp_fld0 hF3 Tryd.underlying3 rfl (by with_unfolding_all exact ⟨_, rfl, rfl⟩) rfl ?_)))
              go_ret
              exact ⟨m + 1, by rw [hjr.out]; rfl, (fun x h => by rw [hjr.out] at h; cases h), hF3.tail⟩
            · have d5 : decide (n < (-9007199254740991 : Int)) = false := decide_eq_false c5
              have hnb : ¬ jBad k n t m := by unfold jBad; rw [hvt]; simp only [Bool.true_eq_false, false_or]; omega
              by_cases c6 : k < 5
              · have d6 : decide (k < 5) = true := decide_eq_true c6
                have hjr : Box (jRight d (.mk k n t ns ks) m = some (m + 1)) := box (jRight_leaf hnb c6)
                replace c1 := box c1
                replace c2 := box c2
                replace c3 := box c3
                replace c4 := box c4
                replace c5 := box c5
                replace c6 := box c6
                replace hvt := box hvt
                replace hnb := box hnb
                go_enter Tryd.func31, Tryd.ntmps31
                go_wp2_with (first | ((with_reducible refine lst (by with_unfolding_all rfl) (wp_fbox hF0 (cs := (vlL k n ⟨t.toArray⟩ (.slice An nn cn) (.slice Ak nk ck))) rfl (by with_unfolding_all rfl) (by with_unfolding_all rfl) ?_)); intro w1 g1 hF1 hz1) | (with_reducible refine lst (by with_unfolding_all rfl) (wp_fld1 hF1 Tryd.underlying3 rfl (by with_unfolding_all exact ⟨_, rfl, rfl⟩) rfl ?_)) | ((with_reducible refine lst (by with_unfolding_all rfl) (wp_fst1 hF1 (by with_unfolding_all exact ⟨_, _, rfl, rfl, rfl⟩) (by kernel_rfl) rfl rfl (by first | decide | (simp; done) | (simp; omega)) (spl1' _ (.int .i64 ((m : Int) + 1))) ?_)); intro w2 hF2 hz2) | (with_reducible refine lst (by with_unfolding_all rfl) (wp_fld1 hF2 Tryd.underlying3 rfl (by with_unfolding_all exact ⟨_, rfl, rfl⟩) rfl ?_)) | (with_reducible refine lst (by with_unfolding_all rfl) (wp_fld0 hF2 Tryd.underlying3 rfl (by with_unfolding_all exact ⟨_, rfl, rfl⟩) rfl ?_)) | (with_reducible refine lst (by with_unfolding_all rfl) (wp_fld0 hF2 Tryd.underlying9 rfl (by with_unfolding_all exact ⟨_, rfl, rfl⟩) rfl ?_)))
                refine (hvs.out _ hF2).mono ?_
                rintro e w3 ⟨rfl, hb3⟩
                have hF3 := hF2.call hb3
                go_wp2_with (first | (with_reducible refine lst (by with_unfolding_all rfl) (wp_fld0 hF3 Tryd.underlying3 rfl (by with_unfolding_all exact ⟨_, rfl, rfl⟩) rfl ?_)))
                go_ret
                exact ⟨m + 1, by rw [hjr.out]; rfl, (fun x h => by rw [hjr.out] at h; injection h), hF3.tail⟩
              · have d6 : decide (k < 5) = false := decide_eq_false c6
                exact hdeep hnb (by omega)

end Go.Proofs.YtdekogmegdhjoaaDoor

namespace Go.Proofs.YtdekogmegdhjoaaDoor
open Go.RowKit

section
variable {P : Program} {w : World}
theorem run_appS {t u e ty : TypeId} (T : SlT P t e 1 1 (.int .u8 0)) (hu : P.underlying u = some .string) {base : Nat} {v : Value} {l : List UInt8} (hown : w.ownsRow base e 1 v l.length (l.map bv)) (s : ByteArray)
    (hroom : l.length + s.size ≤ 140737488355328) (hbase : base ≤ w.heap.size) :
    ∃ v' w', (Builtin.append_ #[t, u] ty #[v, .string s]).run P w = .ok v' w' ∧ w'.ownsRow base e 1 v' (l ++ s.data.toList).length ((l ++ s.data.toList).map bv) ∧ w.grownBy w' v.ownBlock ∧ (v'.ownBlock = v.ownBlock ∨ v'.ownBlock = some w.heap.size) := by
  obtain ⟨i, hi, hz, hs, hb⟩ := info_parts T.info
  have hsl : s.data.toList.length = s.size := str_len s
  obtain ⟨v', w', hrun, h2, h3, h4⟩ := Lib.run_append_own_string (P := P) (w := w) base t u ty e i T.und hu hi hz hs hb v l.length (l.map bv) hown s (by unfold maxLen; omega) hroom hbase
  have e1 : l.map bv ++ Lib.strCells s = (l ++ s.data.toList).map bv := by rw [List.map_append]; rfl
  have e2 : l.length + s.size = (l ++ s.data.toList).length := by rw [List.length_append, hsl]
  rw [e1, e2] at h2
  refine ⟨v', w', hrun, h2, h3, ?_⟩
  rcases hown.2 with ⟨rfl, hn⟩ | ⟨g, cap, cur, rfl, hbg, hg, hnc, hcm, hcs, htake⟩
  · by_cases hm : s.size = 0
    · rw [h4.2 ⟨rfl, hm⟩]; exact .inl rfl
    · have hr := run_append_nil_string (P := P) (w := w) t u ty e i (.int .u8 0) T.und hu hi hz s (by omega) (by omega) (by rw [hb]; omega)
      rw [hr] at hrun
      injection hrun with hv _
      rw [← hv]; exact .inr rfl
  · by_cases hro : l.length + s.size ≤ cap
    · have hr := Lib.run_append_room_string (P := P) (w := w) t u ty e i T.und hu hi hs g l.length cap cur hg s hro (by rw [hcs]; omega)
      rw [hr] at hrun
      injection hrun with hv _
      rw [← hv]; exact .inl rfl
    · have holds : ∀ j u, (l.map bv)[j]? = some u → w.cell? ((⟨g, 0, none⟩ : Addr).add j) = some u := hown.cells (g := g) rfl
      have hr := Lib.run_append_grow_string (P := P) (w := w) t u ty e i (.int .u8 0) T.und hu hi hz ⟨g, 0, none⟩ l.length cap (l.map bv) (by rw [hs]; simp) holds s (by omega) (by omega) (by rw [hb]; exact growslice_fits (by omega) (by omega))
      rw [hr] at hrun
      injection hrun with hv _
      rw [← hv]; exact .inr rfl
/-- The operation is 'append(.., s...)', s a text. -/
def IsAppS (o : Oper) (a : Act) (t u : TypeId) (v xv : Value) : Prop := ∃ s x, o.op = .call { callee := .builtin .append, args := #[s, x], argTypes := #[t, u] } ∧ a.eval s = v ∧ a.eval x = xv
theorem wp_fappS {o : Oper} {a : Act} {X : List Nat} {w0 : World} {es : List Ent} {K : Act → World → Prop} {Q : Exit → Act → World → Prop} {sl u e : TypeId} (T : SlT P sl e 1 1 (.int .u8 0)) (hu : P.underlying u = some .string) (hF : Fr X w0 w es) {i b : Nat} {v : Value} {l : List UInt8} (hi : es[i]? = some (.bytes b e v l)) (hb : b ≤ w0.heap.size)
    {s : ByteArray} (ho : IsAppS o a sl u v (.string s)) (hroom : l.length + s.size ≤ 140737488355328)
    (k : ∀ v' w', Fr X w0 w' (es.set i (.bytes b e v' (l ++ s.data.toList))) → w.heap.size ≤ w'.heap.size → K (a.put o.dst v') w') : o.wp P a w K Q := by
  have hown := hF.own hi
  have hbw : b ≤ w.heap.size := Nat.le_trans hb hF.size
  obtain ⟨p, x, ho, hp, hx⟩ := ho
  obtain ⟨v', w', hrun, h2, h3, h4⟩ := run_appS (ty := o.type) T hu hown.own s hroom hbw
  unfold Oper.wp execOp
  simp only [ho, resolve, invoke, builtin, Sem.run_bind, Sem.run_pure, Result.andThen_ok, List.map_toArray, List.map_cons, List.map_nil, hp, hx, hrun]
  refine k v' w' (hF.put hi h3 h2 (h4.imp id fun h b hb => ?_)) h3.size
  have hb : v'.ownBlock = some b := hb
  rw [h] at hb; injection hb with hb; omega
end
end Go.Proofs.YtdekogmegdhjoaaDoor
