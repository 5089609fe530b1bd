/-
  Layer 6: the document's Same at one value twice.
  The walk of the document's Same.
  The walk of the document's Twin.
  Layer 6: the law JsonReads, walked.
  Layer 6 in plain words: lists and objects in one another; a list of many values.
-/
import Derived.Test.YtdekogmegdhjoaaDoorM18
import Derived.Test.YtdekogmegdhjoaaDoorM04
import Derived.Test.YtdekogmegdhjoaaDoorM01
import Derived.Deep.QuietTactic
import Derived.BigQuiet
import Derived.Test.YtdekogmegdhjoaaDoorM20
import Derived.Test.YtdekogmegdhjoaaDoorM08
namespace Go.Proofs.YtdekogmegdhjoaaDoor
open Go.RowKit
set_option linter.unusedSimpArgs false

theorem JV.size_kid {k n : Int} {t : List UInt8} {ns : List (List UInt8)} {ks : List JV} {v : JV} {i : Nat} (h : ks[i]? = some v) : SizeOf.sizeOf v < SizeOf.sizeOf (JV.mk k n t ns ks) := by
  have := List.sizeOf_lt_of_mem (List.mem_of_getElem? h)
  simp only [JV.mk.sizeOf_spec]
  omega
set_option maxRecDepth 20000 in
set_option maxHeartbeats 12800000 in
theorem same_any (N : Nat) : ∀ (v : JV) (ca cb : List Value) (w : World), SizeOf.sizeOf v ≤ N → VRd w (· < w.heap.size) v ca → VRd w (· < w.heap.size) v cb → JSm v →
    Calls Tryd.prog 14 #[.agg ca.toArray, .agg cb.toArray] w fun e w' => e = .returned (.bool true) ∧ Below w.heap.size w w' := by
  induction N with
  | zero => intro v _ _ _ h; cases v; simp only [JV.mk.sizeOf_spec] at h; omega
  | succ N ih =>
    intro v ca cb w hN ha hb hsm
    obtain ⟨k, n, t, ns, ks⟩ := v
    rw [VRd] at ha hb
    obtain ⟨An, nn, cn, Ak, nk, ck, xk, hcn, hck, rfl, hrn, hrk, hvk⟩ := ha
    obtain ⟨An2, nn2, cn2, Ak2, nk2, ck2, xk2, hcn2, hck2, rfl, hrn2, hrk2, hvk2⟩ := hb
    rw [JSm] at hsm
    obtain ⟨hs1, hs2, hs3⟩ := hsm
    have hnn : ns.length = nn := by have := hrn.len; simpa using this
    obtain rfl : nn = nn2 := by have := hrn2.len; rw [← hnn]; simpa using this
    have hnk : ks.length = nk := by have := hrk.len; rw [hvk.len] at this; omega
    obtain rfl : nk = nk2 := by have := hrk2.len; rw [hvk2.len] at this; omega
    rw [hnn] at hs1
    rw [hnk] at hs2
    replace hnn := box hnn
    replace hnk := box hnk
    replace hvk := box hvk
    replace hvk2 := box hvk2
    have hF0 := Fr.nil w
    go_enter Tryd.func14, Tryd.ntmps14
    go_wp2_with (first | ((with_reducible refine lst (by with_unfolding_all rfl) (wp_fbox hF0 (cs := (vlL k n ⟨t.toArray⟩ (.slice An nn cn) (.slice Ak nk ck))) rfl (by with_unfolding_all rfl) (by with_unfolding_all rfl) ?_)); intro w1 g1 hF1 hz1) | ((with_reducible refine lst (by with_unfolding_all rfl) (wp_fbox hF1 (cs := (vlL k n ⟨t.toArray⟩ (.slice An2 nn cn2) (.slice Ak2 nk ck2))) rfl (by with_unfolding_all rfl) (by with_unfolding_all rfl) ?_)); intro w2 g2 hF2 hz2) | (with_reducible refine lst (by with_unfolding_all rfl) (wp_fld1 hF2 Tryd.underlying3 rfl (by with_unfolding_all exact ⟨_, rfl, rfl⟩) rfl ?_)) | (with_reducible refine lst (by with_unfolding_all rfl) (wp_fld0 hF2 Tryd.underlying3 rfl (by with_unfolding_all exact ⟨_, rfl, rfl⟩) rfl ?_)) | (with_reducible refine lst (by with_unfolding_all rfl) (wp_fld1 hF2 Tryd.underlying9 rfl (by with_unfolding_all exact ⟨_, rfl, rfl⟩) rfl ?_)) | (with_reducible refine lst (by with_unfolding_all rfl) (wp_fld0 hF2 Tryd.underlying9 rfl (by with_unfolding_all exact ⟨_, rfl, rfl⟩) rfl ?_)) | (with_reducible refine lst (by with_unfolding_all rfl) (wp_fld1 hF2 Tryd.underlying31 rfl (by with_unfolding_all exact ⟨_, rfl, rfl⟩) rfl ?_)) | (with_reducible refine lst (by with_unfolding_all rfl) (wp_fld0 hF2 Tryd.underlying31 rfl (by with_unfolding_all exact ⟨_, rfl, rfl⟩) rfl ?_)) | (with_reducible refine lst (by with_unfolding_all rfl) (wp_fld1 hF2 Tryd.underlying24 rfl (by with_unfolding_all exact ⟨_, rfl, rfl⟩) rfl ?_)) | (with_reducible refine lst (by with_unfolding_all rfl) (wp_fld0 hF2 Tryd.underlying24 rfl (by with_unfolding_all exact ⟨_, rfl, rfl⟩) rfl ?_)))
    clear hF0 hF1
    go_loopg [5] nn (fun gk s wr => ∃ i : Nat, i ≤ nn ∧ Box (gk = nn - i) ∧ s = .int .i64 (i : Int) ∧ Fr [] w wr [.blk g2 33 (vlL k n ⟨t.toArray⟩ (.slice An2 nn cn2) (.slice Ak2 nk ck2)), .blk g1 33 (vlL k n ⟨t.toArray⟩ (.slice An nn cn) (.slice Ak nk ck))])
    case atStart => exact ⟨0, by omega, box rfl, rfl, hF2⟩
    case round =>
      clear hF2
      obtain ⟨i, hi, hk, rfl, hF⟩ := hrel
      by_cases hlt : i < nn
      · obtain ⟨s, hs⟩ : ∃ s, ns[i]? = some s := ⟨ns[i]'(by rw [hnn.out]; exact hlt), by simp⟩
        have hss : Box ((ns.map strv)[i]? = some (.string ⟨s.toArray⟩)) := box (by rw [List.getElem?_map, hs]; rfl)
        replace hs := box hs
        go_upto_region 6 with (first | (with_reducible refine lst (by with_unfolding_all rfl) (wp_fld1 hF Tryd.underlying24 rfl (by with_unfolding_all exact ⟨_, rfl, rfl⟩) rfl ?_)))
        have hFd := hF.drew
        refine wp_region_held (S := fun w' => w'.heap[g2]? = some (.cells (List.toArray (vlL k n ⟨t.toArray⟩ (.slice An2 nn cn2) (.slice Ak2 nk ck2))) 33 (0, 0)) ∧ w'.heap[g1]? = some (.cells (List.toArray (vlL k n ⟨t.toArray⟩ (.slice An nn cn) (.slice Ak nk ck))) 33 (0, 0)) ∧ Rd w' (· < w.heap.size) An 1 nn (ns.map strv) ∧ Rd w' (· < w.heap.size) An2 1 nn (ns.map strv)) (by kernel_rfl) ?_
        change wpAnyH _ _ _ _ _ _ _ _ (World.drew _)
        refine tkp 0 ⟨hFd.blk (i := 0) rfl, hFd.blk (i := 1) rfl, hrn.below hFd.below, hrn2.below hFd.below⟩ ?_
        (try simp only [Act.put, List.setIfInBounds_toArray, List.set_cons_zero, List.set_cons_succ])
        refine tky 1 (y := yi_fld (by with_unfolding_all rfl) (fun _ h => h.2.1) Tryd.underlying24 rfl (by with_unfolding_all exact ⟨_, rfl, rfl⟩) rfl) (s := ⟨hFd.blk (i := 0) rfl, hFd.blk (i := 1) rfl, hrn.below hFd.below, hrn2.below hFd.below⟩) (h := ?_)
        (try simp only [Act.put, List.setIfInBounds_toArray, List.set_cons_zero, List.set_cons_succ])
        refine tkp 2 ⟨hFd.blk (i := 0) rfl, hFd.blk (i := 1) rfl, hrn.below hFd.below, hrn2.below hFd.below⟩ ?_
        (try simp only [Act.put, List.setIfInBounds_toArray, List.set_cons_zero, List.set_cons_succ])
        refine tky 3 (y := yi_ix (by with_unfolding_all rfl) T_strs (fun h => hrn.some_ h) (k := i) (by with_unfolding_all exact ⟨_, _, _, _, rfl, rfl, rfl⟩) rfl (by omega)) (s := ⟨hFd.blk (i := 0) rfl, hFd.blk (i := 1) rfl, hrn.below hFd.below, hrn2.below hFd.below⟩) (h := ?_)
        (try simp only [Act.put, List.setIfInBounds_toArray, List.set_cons_zero, List.set_cons_succ])
        refine tky 4 (y := yi_ld (by with_unfolding_all rfl) (j := i * 1) (fun _ h => h.2.2.1) Tryd.underlying9 rfl (by with_unfolding_all exact ⟨_, rfl, rfl⟩) (by rw [Nat.mul_one]; exact hss.out)) (s := ⟨hFd.blk (i := 0) rfl, hFd.blk (i := 1) rfl, hrn.below hFd.below, hrn2.below hFd.below⟩) (h := ?_)
        (try simp only [Act.put, List.setIfInBounds_toArray, List.set_cons_zero, List.set_cons_succ])
        refine tkp 5 ⟨hFd.blk (i := 0) rfl, hFd.blk (i := 1) rfl, hrn.below hFd.below, hrn2.below hFd.below⟩ ?_
        (try simp only [Act.put, List.setIfInBounds_toArray, List.set_cons_zero, List.set_cons_succ])
        refine tky 6 (y := yi_fld (by with_unfolding_all rfl) (fun _ h => h.1) Tryd.underlying24 rfl (by with_unfolding_all exact ⟨_, rfl, rfl⟩) rfl) (s := ⟨hFd.blk (i := 0) rfl, hFd.blk (i := 1) rfl, hrn.below hFd.below, hrn2.below hFd.below⟩) (h := ?_)
        (try simp only [Act.put, List.setIfInBounds_toArray, List.set_cons_zero, List.set_cons_succ])
        refine tkp 7 ⟨hFd.blk (i := 0) rfl, hFd.blk (i := 1) rfl, hrn.below hFd.below, hrn2.below hFd.below⟩ ?_
        (try simp only [Act.put, List.setIfInBounds_toArray, List.set_cons_zero, List.set_cons_succ])
        refine tky 8 (y := yi_ix (by with_unfolding_all rfl) T_strs (fun h => hrn2.some_ h) (k := i) (by with_unfolding_all exact ⟨_, _, _, _, rfl, rfl, rfl⟩) rfl (by omega)) (s := ⟨hFd.blk (i := 0) rfl, hFd.blk (i := 1) rfl, hrn.below hFd.below, hrn2.below hFd.below⟩) (h := ?_)
        (try simp only [Act.put, List.setIfInBounds_toArray, List.set_cons_zero, List.set_cons_succ])
        refine tky 9 (y := yi_ld (by with_unfolding_all rfl) (j := i * 1) (fun _ h => h.2.2.2) Tryd.underlying9 rfl (by with_unfolding_all exact ⟨_, rfl, rfl⟩) (by rw [Nat.mul_one]; exact hss.out)) (s := ⟨hFd.blk (i := 0) rfl, hFd.blk (i := 1) rfl, hrn.below hFd.below, hrn2.below hFd.below⟩) (h := ?_)
        (try simp only [Act.put, List.setIfInBounds_toArray, List.set_cons_zero, List.set_cons_succ])
        refine tkp 10 ⟨hFd.blk (i := 0) rfl, hFd.blk (i := 1) rfl, hrn.below hFd.below, hrn2.below hFd.below⟩ ?_
        (try simp only [Act.put, List.setIfInBounds_toArray, List.set_cons_zero, List.set_cons_succ])
        refine wpAnyH_done (by kernel_rfl) ?_ _
        go_wp2_with fail
        go_roundg (nn - (i + 1))
        case rel => exact ⟨i + 1, by omega, box rfl, by go_num, hFd⟩
        case measure => have := hk.out; omega
      · have hin : nn = i := by omega
        subst hin
        clear hk hi hlt
        go_wp2_with (first | (with_reducible refine lst (by with_unfolding_all rfl) (wp_fld1 hF Tryd.underlying24 rfl (by with_unfolding_all exact ⟨_, rfl, rfl⟩) rfl ?_)))
        go_loopg [6] nk (fun gk s wr => ∃ i : Nat, i ≤ nk ∧ Box (gk = nk - i) ∧ s = .int .i64 (i : Int) ∧ Fr [] w wr [.blk g2 33 (vlL k n ⟨t.toArray⟩ (.slice An2 nn cn2) (.slice Ak2 nk ck2)), .blk g1 33 (vlL k n ⟨t.toArray⟩ (.slice An nn cn) (.slice Ak nk ck))])
        case atStart => exact ⟨0, by omega, box rfl, rfl, hF⟩
        case round =>
          clear hF
          obtain ⟨i, hi, hk, rfl, hF⟩ := hrel
          by_cases hlt : i < nk
          · obtain ⟨vi, hvi⟩ : ∃ vi, ks[i]? = some vi := ⟨ks[i]'(by rw [hnk.out]; exact hlt), by simp⟩
            obtain ⟨ci, hci, hvri⟩ := hvk.out.at hvi
            obtain ⟨di, hdi, hvrj⟩ := hvk2.out.at hvi
            have hcil := box hvri.len
            have hdil := box hvrj.len
            replace hci := box hci
            replace hdi := box hdi
            have hsi := hs3.at hvi
            have hsz : SizeOf.sizeOf vi ≤ N := by have := JV.size_kid (k := k) (n := n) (t := t) (ns := ns) hvi; omega
            have ihc := box (fun w' (hb : Below w.heap.size w w') => ih vi ci di w' hsz (hvri.on hb) (hvrj.on hb) hsi)
            replace hvi := box hvi
            replace hvri := box hvri
            replace hvrj := box hvrj
            replace hsi := box hsi
            replace hs3 := box hs3
            replace hsz := box hsz
            replace hN := box hN
            go_upto_region 11 with (first | (with_reducible refine lst (by with_unfolding_all rfl) (wp_fld1 hF Tryd.underlying31 rfl (by with_unfolding_all exact ⟨_, rfl, rfl⟩) rfl ?_)))
            have hFd := hF.drew
            refine wp_region_held (S := fun w' => w'.heap[g2]? = some (.cells (List.toArray (vlL k n ⟨t.toArray⟩ (.slice An2 nn cn2) (.slice Ak2 nk ck2))) 33 (0, 0)) ∧ w'.heap[g1]? = some (.cells (List.toArray (vlL k n ⟨t.toArray⟩ (.slice An nn cn) (.slice Ak nk ck))) 33 (0, 0)) ∧ Rd w' (· < w.heap.size) Ak 5 nk xk ∧ Rd w' (· < w.heap.size) Ak2 5 nk xk2) (by kernel_rfl) ?_
            change wpAnyH _ _ _ _ _ _ _ _ (World.drew _)
            refine tkp 0 ⟨hFd.blk (i := 0) rfl, hFd.blk (i := 1) rfl, hrk.below hFd.below, hrk2.below hFd.below⟩ ?_
            (try simp only [Act.put, List.setIfInBounds_toArray, List.set_cons_zero, List.set_cons_succ])
            refine tky 1 (y := yi_fld (by with_unfolding_all rfl) (fun _ h => h.2.1) Tryd.underlying31 rfl (by with_unfolding_all exact ⟨_, rfl, rfl⟩) rfl) (s := ⟨hFd.blk (i := 0) rfl, hFd.blk (i := 1) rfl, hrk.below hFd.below, hrk2.below hFd.below⟩) (h := ?_)
            (try simp only [Act.put, List.setIfInBounds_toArray, List.set_cons_zero, List.set_cons_succ])
            refine tkp 2 ⟨hFd.blk (i := 0) rfl, hFd.blk (i := 1) rfl, hrk.below hFd.below, hrk2.below hFd.below⟩ ?_
            (try simp only [Act.put, List.setIfInBounds_toArray, List.set_cons_zero, List.set_cons_succ])
            refine tky 3 (y := yi_ix (by with_unfolding_all rfl) T_rvals (fun h => hrk.some_ h) (k := i) (by with_unfolding_all exact ⟨_, _, _, _, rfl, rfl, rfl⟩) rfl (by omega)) (s := ⟨hFd.blk (i := 0) rfl, hFd.blk (i := 1) rfl, hrk.below hFd.below, hrk2.below hFd.below⟩) (h := ?_)
            (try simp only [Act.put, List.setIfInBounds_toArray, List.set_cons_zero, List.set_cons_succ])
            refine tky 4 (y := yi_ldA (by with_unfolding_all rfl) (fun _ h => h.2.2.1) Tryd.underlying33 rfl (by with_unfolding_all exact ⟨_, rfl, rfl⟩) (ds := ci) (by rw [hcil.out]; kernel_rfl) (by rw [hcil.out]; exact hci.out)) (s := ⟨hFd.blk (i := 0) rfl, hFd.blk (i := 1) rfl, hrk.below hFd.below, hrk2.below hFd.below⟩) (h := ?_)
            (try simp only [Act.put, List.setIfInBounds_toArray, List.set_cons_zero, List.set_cons_succ])
            refine tkp 5 ⟨hFd.blk (i := 0) rfl, hFd.blk (i := 1) rfl, hrk.below hFd.below, hrk2.below hFd.below⟩ ?_
            (try simp only [Act.put, List.setIfInBounds_toArray, List.set_cons_zero, List.set_cons_succ])
            refine tky 6 (y := yi_fld (by with_unfolding_all rfl) (fun _ h => h.1) Tryd.underlying31 rfl (by with_unfolding_all exact ⟨_, rfl, rfl⟩) rfl) (s := ⟨hFd.blk (i := 0) rfl, hFd.blk (i := 1) rfl, hrk.below hFd.below, hrk2.below hFd.below⟩) (h := ?_)
            (try simp only [Act.put, List.setIfInBounds_toArray, List.set_cons_zero, List.set_cons_succ])
            refine tkp 7 ⟨hFd.blk (i := 0) rfl, hFd.blk (i := 1) rfl, hrk.below hFd.below, hrk2.below hFd.below⟩ ?_
            (try simp only [Act.put, List.setIfInBounds_toArray, List.set_cons_zero, List.set_cons_succ])
            refine tky 8 (y := yi_ix (by with_unfolding_all rfl) T_rvals (fun h => hrk2.some_ h) (k := i) (by with_unfolding_all exact ⟨_, _, _, _, rfl, rfl, rfl⟩) rfl (by omega)) (s := ⟨hFd.blk (i := 0) rfl, hFd.blk (i := 1) rfl, hrk.below hFd.below, hrk2.below hFd.below⟩) (h := ?_)
            (try simp only [Act.put, List.setIfInBounds_toArray, List.set_cons_zero, List.set_cons_succ])
            refine tky 9 (y := yi_ldA (by with_unfolding_all rfl) (fun _ h => h.2.2.2) Tryd.underlying33 rfl (by with_unfolding_all exact ⟨_, rfl, rfl⟩) (ds := di) (by rw [hdil.out]; kernel_rfl) (by rw [hdil.out]; exact hdi.out)) (s := ⟨hFd.blk (i := 0) rfl, hFd.blk (i := 1) rfl, hrk.below hFd.below, hrk2.below hFd.below⟩) (h := ?_)
            (try simp only [Act.put, List.setIfInBounds_toArray, List.set_cons_zero, List.set_cons_succ])
            refine rdy1 10 (fun K hK => ?_)
            refine stp (by with_unfolding_all rfl) (wp_call Tryd.func14 rfl (by with_unfolding_all rfl) (by with_unfolding_all rfl) (by with_unfolding_all rfl) (ihc.out _ hFd.below) ?_)
            rintro e w31 ⟨rfl, hb31⟩
            refine ⟨_, rfl, ?_⟩
            have hF31 := hFd.call hb31
            refine hK.out _ _ (⟨hF31.blk (i := 0) rfl, hF31.blk (i := 1) rfl, hrk.below hF31.below, hrk2.below hF31.below⟩) (fun _ => ?_)
            clear hK K
            (try simp only [Act.put, List.setIfInBounds_toArray, List.set_cons_zero, List.set_cons_succ])
            refine tkp 11 ⟨hF31.blk (i := 0) rfl, hF31.blk (i := 1) rfl, hrk.below hF31.below, hrk2.below hF31.below⟩ ?_
            (try simp only [Act.put, List.setIfInBounds_toArray, List.set_cons_zero, List.set_cons_succ])
            refine wpAnyH_done (by kernel_rfl) ?_ _
            go_wp2_with fail
            go_roundg (nk - (i + 1))
            case rel => exact ⟨i + 1, by omega, box rfl, by go_num, hF31⟩
            case measure => have := hk.out; omega
          · have hin : nk = i := by omega
            subst hin
            go_wp2_with (first | (with_reducible refine lst (by with_unfolding_all rfl) (wp_fld1 hF Tryd.underlying31 rfl (by with_unfolding_all exact ⟨_, rfl, rfl⟩) rfl ?_)))
            go_ret
            exact ⟨rfl, hF.below⟩
end Go.Proofs.YtdekogmegdhjoaaDoor

namespace Go.Proofs.YtdekogmegdhjoaaDoor
open Go.RowKit

set_option maxRecDepth 20000 in
set_option maxHeartbeats 400000 in
theorem sameB_any (A B : Option Addr) (n m c d : Nat) (l k : List UInt8) (w : World) (hm : n ≤ 9223372036854775807) (hr : Rd w (· < w.heap.size) A 1 n (l.map bv)) (hr2 : Rd w (· < w.heap.size) B 1 m (k.map bv)) :
    Calls Tryd.prog 16 #[.slice A n c, .slice B m d] w fun e w' => e = .returned (.bool (l == k)) ∧ Below w.heap.size w w' := by
  have hl := box hr.bytes_len
  have hk := box hr2.bytes_len
  by_cases hnm : n = m
  · subst hnm
    go_enter Tryd.func16, Tryd.ntmps16
    go_wp2
    go_loopw [5] (fun i wr => ∃ j : Nat, j ≤ n ∧ Box (l.take j = k.take j) ∧ i = .int .i64 j ∧ Below w.heap.size w wr) (fun i _ => n - (intOf i).toNat)
    case atStart => exact ⟨0, by omega, box rfl, rfl, Below.refl _ _⟩
    case round =>
      obtain ⟨j, hj, HT, rfl, hb⟩ := hrel
      by_cases hlt : j < n
      · obtain ⟨ad, x, hA, hx, hcx⟩ := (hr.below hb).atB hlt
        obtain ⟨bd, y, hB, hy, hcy⟩ := (hr2.below hb).atB hlt
        replace hx := box hx
        replace hy := box hy
        clear hr hr2
        subst hA hB
        by_cases hxy : x = y
        · subst hxy
          go_wp2
          go_quiet (fail)
          go_wp2
          go_roundw
          case rel => exact ⟨j + 1, by omega, box (by rw [take_snoc hx.out, take_snoc hy.out, HT.out]), by go_num, below_drewN hb _⟩
          case measure => simp [intOf]; omega
        · have hne : ((x.toNat : Int) != (y.toNat : Int)) = true := by
            simp only [bne_iff_ne, ne_eq]
            intro h; exact hxy (UInt8.toNat_inj.1 (by omega))
          replace hxy := box hxy
          go_wp2
          go_quiet (fail)
          go_wp2
          go_ret
          exact ⟨by rw [beq_false_of_ne (fun h => hxy.out (by have h1 := hx.out; have h2 := hy.out; rw [h, h2] at h1; injection h1 with h1; exact h1.symm))]; rfl, below_drewN hb _⟩
      · go_wp2
        go_ret
        have he : l = k := by
          have := HT.out
          rwa [List.take_of_length_le (by have := hl.out; omega), List.take_of_length_le (by have := hk.out; omega)] at this
        exact ⟨by rw [he, beq_self_eq_true]; rfl, hb⟩
  · have hne : ((n : Int) != (m : Int)) = true := by simp only [bne_iff_ne, ne_eq]; omega
    have hlk : (l == k) = false := beq_false_of_ne (fun h => hnm (by rw [← hl.out, ← hk.out, h]))
    replace hlk := box hlk
    replace hnm := box hnm
    go_enter Tryd.func16, Tryd.ntmps16
    go_wp2
    go_ret
    exact ⟨by rw [hlk.out]; rfl, Below.refl _ _⟩
theorem sameB_self (A B : Option Addr) (n m c d : Nat) (l : List UInt8) (w : World) (hm : n ≤ 9223372036854775807) (hr : Rd w (· < w.heap.size) A 1 n (l.map bv)) (hr2 : Rd w (· < w.heap.size) B 1 m (l.map bv)) :
    Calls Tryd.prog 16 #[.slice A n c, .slice B m d] w fun e w' => e = .returned (.bool true) ∧ Below w.heap.size w w' :=
  (sameB_any A B n m c d l l w hm hr hr2).mono fun e w' h => by rw [beq_self_eq_true] at h; exact h
end Go.Proofs.YtdekogmegdhjoaaDoor

namespace Go.Proofs.YtdekogmegdhjoaaDoor
open Go.RowKit

set_option maxRecDepth 20000 in
set_option maxHeartbeats 400000 in
theorem twin_any (A : Option Addr) (n c : Nat) (l : List UInt8) (w : World) (hm : n ≤ 140737488355327) (hr : Rd w (· < w.heap.size) A 1 n (l.map bv)) :
    Calls Tryd.prog 10 #[.slice A n c] w fun e w' => ∃ v, e = .returned v ∧ OwnB w' w.heap.size 5 v l ∧ Below w.heap.size w w' := by
  have hl := box hr.bytes_len
  go_enter Tryd.func10, Tryd.ntmps10
  go_wp2
  go_loopw [3, 4] (fun v i wr => ∃ k : Nat, k ≤ n ∧ i = .int .i64 k ∧ OwnB wr w.heap.size 5 v (l.take k) ∧ Below w.heap.size w wr ∧ w.heap.size ≤ wr.heap.size) (fun _ i _ => n - (intOf i).toNat)
  case atStart => exact ⟨0, by omega, rfl, OwnB.nil _ _ _, Below.refl _ _, Nat.le_refl _⟩
  case round =>
    obtain ⟨k, hk, rfl, hown, hb, hB⟩ := hrel
    have hr' := hr.below hb
    have hroom : (l.take k).length + 1 ≤ 140737488355328 := by rw [List.length_take]; omega
    by_cases hlt : k < n
    · go_wp2_with (first | (at_builtin; go_must (with_reducible refine lst (by with_unfolding_all rfl) (wp_appB1 T_u8 hown hb (by with_unfolding_all exact ⟨_, _, rfl, rfl, rfl⟩) hroom hB ?_ ?_); exact byte_of (by omega) (by omega); intro v' w1 c hc hown1 hb1 hB1)) | (with_reducible refine lst (by with_unfolding_all rfl) (wp_indexAddr T_u8 hr' (by with_unfolding_all exact ⟨_, _, _, _, rfl, rfl, rfl⟩) (by omega) (by omega) ?_)) | ((with_reducible refine lst (by with_unfolding_all rfl) (wp_loadB hr' Tryd.underlying5 rfl (by with_unfolding_all exact ⟨_, rfl, rfl⟩) (by omega) ?_)); intro d hd; (try simp only [Int.toNat_natCast, Nat.mul_one] at hd); replace hd := box hd; have dlt : d.toNat < 256 := d.toNat_lt))
      go_roundw
      have hcd := byte_eq hc
      subst hcd
      case rel => exact ⟨k + 1, by omega, by go_num, by rw [take_snoc hd.out]; exact hown1, hb1, hB1⟩
      case measure => simp [intOf]; omega
    · go_wp2
      go_ret
      exact ⟨_, rfl, by rw [List.take_of_length_le (by have := hl.out; omega)] at hown; exact hown, hb⟩
end Go.Proofs.YtdekogmegdhjoaaDoor

namespace Go.Proofs.YtdekogmegdhjoaaDoor
open Go.RowKit
set_option linter.unusedSimpArgs false

theorem VT.rdS {v : JV} {cs : List Value} {es' es : List Ent} {X : List Nat} {w0 w : World} (h : VT v cs es') (hF : Fr X w0 w es) (hs : ∀ e ∈ es', e ∈ es) : VRd w (· < w.heap.size) v cs :=
  VT.rd v h fun e he => by
    obtain ⟨i, hi⟩ := List.mem_iff_getElem?.1 (hs e he)
    exact ⟨hF.holds i e hi, fun b hb => Ent.lt (hF.holds i e hi) hb⟩
/-- A reading tells a value, a place and a fault. -/
def PT (X : List Nat) (w0 : World) (es : List Ent) (u : JV) (a r : Nat) (e : Ending) (w' : World) : Prop :=
  ∃ cs es', e = .returned (.tuple #[.agg cs.toArray, .int .i64 (a : Int), .int .i64 (r : Int)]) ∧ VT u cs es' ∧ Fr X w0 w' (es' ++ es)
theorem pt_of (b : List UInt8) : ∃ u a r, JSm u ∧ jCut 20 u = u ∧ (∀ X w0 es e w', ParseEndF X w0 es (jParse b) e w' → PT X w0 es u a r e w') ∧ (∀ X w0 es e w', RParseF X w0 es (jParse b) e w' → PT X w0 es u a r e w') := by
  cases hj : jParse b with
  | ok v =>
    have h := jParse_ct hj
    exact ⟨v, 0, 0, h.1, h.2, fun X w0 es e w' h => h, fun X w0 es e w' h => h⟩
  | error x =>
    exact ⟨.null, x.1, x.2, jNull_ct.1, jNull_ct.2, fun X w0 es e w' h => ⟨_, _, h.1, VT.leaf, (h.2.pushNone 5).pushNone 1⟩, fun X w0 es e w' h => ⟨_, _, h.1, VT.leaf, (h.2.pushNone 5).pushNone 1⟩⟩
set_option maxRecDepth 20000 in
set_option maxHeartbeats 12800000 in
theorem jsonReads_any (A : Option Addr) (n c : Nat) (b : List UInt8) (w : World) (hL : LibsAt w.heap.size w) (hnc : n ≤ c) (hn47 : n ≤ 1048576) (hr : Rd w (· < w.heap.size) A 1 n (b.map bv)) :
    Calls Tryd.prog 3 #[.slice A n c] w fun e w' => e = .returned (.bool true) ∧ Below w.heap.size w w' := by
  obtain ⟨u, a, r, hsm, hcut, hPE, hRE⟩ := pt_of b
  have hbl := hr.bytes_len
  have htw := box (twin_any A n c b w (by omega) hr)
  have hn48 : n ≤ 140737488355328 := by omega
  have hsb := box (fun (A1 : Option Addr) (c1 : Nat) (w' : World) hr1 hr2 => sameB_self A A1 n n c c1 b w' (by omega) hr1 hr2)
  replace hPE := box hPE
  replace hRE := box hRE
  replace hsm := box hsm
  replace hcut := box hcut
  go_enter Tryd.func3, Tryd.ntmps3
  go_wp2_with fail
  refine htw.out.mono ?_
  rintro e w1 ⟨v1, rfl, ho, hb1⟩
  obtain ⟨A1, c1, rfl, hc1, hr1⟩ := ho.arg
  rw [hbl] at hc1 hr1 ⊢
  have hrw := hr.on hb1
  have hLw := (hL.on hb1).up hb1.size
  have hF1 := Fr.nil w1
  replace hbl := box hbl
  replace hn47 := box hn47
  clear htw ho
  have hp := box (parse_F hF1 hLw (Nat.le_refl _) hnc hn48 hrw)
  go_wp2_with fail
  refine hp.out.mono ?_
  rintro e w2 h2
  obtain ⟨cs, es, rfl, hvt, hF2⟩ := hPE.out _ _ _ _ _ h2
  rw [List.append_nil] at hF2
  have hvl := box hvt.len
  have hvo := box hvt.one
  replace hvt := box hvt
  clear hp h2 hPE hF1
  go_upto_region 3 with (first | ((with_reducible refine lst (by with_unfolding_all rfl) (wp_falloc hF2 (cs := vl0) (z := .agg (List.toArray (vl0))) rfl (by kernel_rfl) (by with_unfolding_all rfl) ?_)); intro w3 g3 hF3 hz3) | ((with_reducible refine lst (by with_unfolding_all rfl) (wp_fstA0 hF3 (by with_unfolding_all exact ⟨_, _, rfl, rfl, rfl⟩) (by rw [hvl.out]; kernel_rfl) hvo.out (by rw [hvl.out]; decide) (spl_all (by rw [hvl.out, vlL_len])) ?_)); intro w4 hF4 hz4))
  clear hF2 hF3
  have hrp := box (rparse_F hF4 hnc hn48 (hrw.on hF4.below))
  go_wp2_with fail
  refine hrp.out.mono ?_
  rintro e w5 h5
  obtain ⟨cs5, es5, rfl, hvt5, hF5⟩ := hRE.out _ _ _ _ _ h5
  have hvl5 := box hvt5.len
  have hvo5 := box hvt5.one
  replace hvt5 := box hvt5
  clear hrp h5 hRE hF4
  go_upto_region 4 with (first | ((with_reducible refine lst (by with_unfolding_all rfl) (wp_falloc hF5 (cs := vl0) (z := .agg (List.toArray (vl0))) rfl (by kernel_rfl) (by with_unfolding_all rfl) ?_)); intro w6 g6 hF6 hz6) | ((with_reducible refine lst (by with_unfolding_all rfl) (wp_fstA0 hF6 (by with_unfolding_all exact ⟨_, _, rfl, rfl, rfl⟩) (by rw [hvl5.out]; kernel_rfl) hvo5.out (by rw [hvl5.out]; decide) (spl_all (by rw [hvl5.out, vlL_len])) ?_)); intro w7 hF7 hz7))
  clear hF5 hF6
  have hF8 := hF7.perm (es' := .blk g6 33 cs5 :: .blk g3 27 cs :: (es5 ++ es)) (List.perm_middle.cons _)
  have hfr1 := box (fun (w' : World) (es' : List Ent) (hF : Fr [] w1 w' es') (hs : ∀ e ∈ es, e ∈ es') => from_any 20 u cs w' (by decide) (hvt.out.rdS hF hs) hsm.out)
  have hFd := hF8.drew
  clear hF7 hF8
  refine wp_region_held (S := fun w' => w'.heap[g6]? = some (.cells (List.toArray cs5) 33 (0, 0)) ∧ w'.heap[g3]? = some (.cells (List.toArray cs) 27 (0, 0))) (by kernel_rfl) ?_
  change wpAnyH _ _ _ _ _ _ _ _ (World.drew _)
  refine rdy1 0 (fun K hK => ?_)
  refine stp (by with_unfolding_all rfl) (wp_call Tryd.func13 rfl (by with_unfolding_all rfl) (by with_unfolding_all rfl) (by with_unfolding_all rfl) (awake_any _ _ (hFd.below.size) (hLw.on hFd.below)) ?_)
  rintro e w31 ⟨rfl, hb31⟩
  refine ⟨_, rfl, ?_⟩
  have hF31 := hFd.call hb31
  refine hK.out _ _ (⟨hF31.blk (i := 0) rfl, hF31.blk (i := 1) rfl⟩) (fun _ => ?_)
  clear hK K
  (try simp only [Act.put, List.setIfInBounds_toArray, List.set_cons_zero, List.set_cons_succ])
  refine tkp 1 ⟨hF31.blk (i := 0) rfl, hF31.blk (i := 1) rfl⟩ ?_
  (try simp only [Act.put, List.setIfInBounds_toArray, List.set_cons_zero, List.set_cons_succ])
  refine tkp 2 ⟨hF31.blk (i := 0) rfl, hF31.blk (i := 1) rfl⟩ ?_
  (try simp only [Act.put, List.setIfInBounds_toArray, List.set_cons_zero, List.set_cons_succ])
  refine tkp 3 ⟨hF31.blk (i := 0) rfl, hF31.blk (i := 1) rfl⟩ ?_
  (try simp only [Act.put, List.setIfInBounds_toArray, List.set_cons_zero, List.set_cons_succ])
  refine tkp 4 ⟨hF31.blk (i := 0) rfl, hF31.blk (i := 1) rfl⟩ ?_
  (try simp only [Act.put, List.setIfInBounds_toArray, List.set_cons_zero, List.set_cons_succ])
  refine tkp 5 ⟨hF31.blk (i := 0) rfl, hF31.blk (i := 1) rfl⟩ ?_
  (try simp only [Act.put, List.setIfInBounds_toArray, List.set_cons_zero, List.set_cons_succ])
  refine tkp 6 ⟨hF31.blk (i := 0) rfl, hF31.blk (i := 1) rfl⟩ ?_
  (try simp only [Act.put, List.setIfInBounds_toArray, List.set_cons_zero, List.set_cons_succ])
  refine tkp 7 ⟨hF31.blk (i := 0) rfl, hF31.blk (i := 1) rfl⟩ ?_
  (try simp only [Act.put, List.setIfInBounds_toArray, List.set_cons_zero, List.set_cons_succ])
  refine tkp 8 ⟨hF31.blk (i := 0) rfl, hF31.blk (i := 1) rfl⟩ ?_
  (try simp only [Act.put, List.setIfInBounds_toArray, List.set_cons_zero, List.set_cons_succ])
  refine tkp 9 ⟨hF31.blk (i := 0) rfl, hF31.blk (i := 1) rfl⟩ ?_
  (try simp only [Act.put, List.setIfInBounds_toArray, List.set_cons_zero, List.set_cons_succ])
  refine tkp 10 ⟨hF31.blk (i := 0) rfl, hF31.blk (i := 1) rfl⟩ ?_
  (try simp only [Act.put, List.setIfInBounds_toArray, List.set_cons_zero, List.set_cons_succ])
  refine tkp 11 ⟨hF31.blk (i := 0) rfl, hF31.blk (i := 1) rfl⟩ ?_
  (try simp only [Act.put, List.setIfInBounds_toArray, List.set_cons_zero, List.set_cons_succ])
  refine tky 12 (y := yi_fldA (by with_unfolding_all rfl) (fun _ h => h.2) Tryd.underlying27 rfl (by with_unfolding_all exact ⟨_, rfl, rfl⟩) (ds := cs) (by rw [hvl.out]; kernel_rfl) (take_all _)) (s := ⟨hF31.blk (i := 0) rfl, hF31.blk (i := 1) rfl⟩) (h := ?_)
  (try simp only [Act.put, List.setIfInBounds_toArray, List.set_cons_zero, List.set_cons_succ])
  refine tky 14 (y := yi_fldA (by with_unfolding_all rfl) (fun _ h => h.1) Tryd.underlying33 rfl (by with_unfolding_all exact ⟨_, rfl, rfl⟩) (ds := cs5) (by rw [hvl5.out]; kernel_rfl) (take_all _)) (s := ⟨hF31.blk (i := 0) rfl, hF31.blk (i := 1) rfl⟩) (h := ?_)
  (try simp only [Act.put, List.setIfInBounds_toArray, List.set_cons_zero, List.set_cons_succ])
  refine rdy1 13 (fun K hK => ?_)
  refine stp (by with_unfolding_all rfl) (wp_call Tryd.func15 rfl (by with_unfolding_all rfl) (by with_unfolding_all rfl) (by with_unfolding_all rfl) (hfr1.out _ _ hF31 (by intro e he; simp [he])) ?_)
  rintro e w32 ⟨cs32, es32, rfl, hvt32, hv32⟩
  refine ⟨_, rfl, ?_⟩
  have hF32 := hF31.joinR hv32
  simp only [List.cons_append] at hF32
  rw [hcut.out] at hvt32
  refine hK.out _ _ (⟨hF32.blk (i := 0) rfl, hF32.blk (i := 1) rfl⟩) (fun _ => ?_)
  clear hK K
  (try simp only [Act.put, List.setIfInBounds_toArray, List.set_cons_zero, List.set_cons_succ])
  refine rdy1 15 (fun K hK => ?_)
  refine stp (by with_unfolding_all rfl) (wp_call Tryd.func14 rfl (by with_unfolding_all rfl) (by with_unfolding_all rfl) (by with_unfolding_all rfl) (same_any _ u _ _ _ (Nat.le_refl _) (hvt32.rdS hF32 (by intro e he; simp [he])) (hvt5.out.rdS hF32 (by intro e he; simp [he])) hsm.out) ?_)
  rintro e w33 ⟨rfl, hb33⟩
  refine ⟨_, rfl, ?_⟩
  have hF33 := hF32.call hb33
  refine hK.out _ _ (⟨hF33.blk (i := 0) rfl, hF33.blk (i := 1) rfl⟩) (fun _ => ?_)
  clear hK K
  (try simp only [Act.put, List.setIfInBounds_toArray, List.set_cons_zero, List.set_cons_succ])
  refine tkp 16 ⟨hF33.blk (i := 0) rfl, hF33.blk (i := 1) rfl⟩ ?_
  (try simp only [Act.put, List.setIfInBounds_toArray, List.set_cons_zero, List.set_cons_succ])
  refine tkp 17 ⟨hF33.blk (i := 0) rfl, hF33.blk (i := 1) rfl⟩ ?_
  (try simp only [Act.put, List.setIfInBounds_toArray, List.set_cons_zero, List.set_cons_succ])
  refine tkp 18 ⟨hF33.blk (i := 0) rfl, hF33.blk (i := 1) rfl⟩ ?_
  (try simp only [Act.put, List.setIfInBounds_toArray, List.set_cons_zero, List.set_cons_succ])
  refine tkp 19 ⟨hF33.blk (i := 0) rfl, hF33.blk (i := 1) rfl⟩ ?_
  (try simp only [Act.put, List.setIfInBounds_toArray, List.set_cons_zero, List.set_cons_succ])
  refine rdy1 20 (fun K hK => ?_)
  refine stp (by with_unfolding_all rfl) (wp_call Tryd.func16 rfl (by with_unfolding_all rfl) (by with_unfolding_all rfl) (by with_unfolding_all rfl) (hsb.out _ _ _ (hrw.on hF33.below) (hr1.on hF33.below)) ?_)
  rintro e w34 ⟨rfl, hb34⟩
  refine ⟨_, rfl, ?_⟩
  have hF34 := hF33.call hb34
  refine hK.out _ _ (⟨hF34.blk (i := 0) rfl, hF34.blk (i := 1) rfl⟩) (fun _ => ?_)
  clear hK K
  (try simp only [Act.put, List.setIfInBounds_toArray, List.set_cons_zero, List.set_cons_succ])
  refine tkp 21 ⟨hF34.blk (i := 0) rfl, hF34.blk (i := 1) rfl⟩ ?_
  (try simp only [Act.put, List.setIfInBounds_toArray, List.set_cons_zero, List.set_cons_succ])
  refine tkp 22 ⟨hF34.blk (i := 0) rfl, hF34.blk (i := 1) rfl⟩ ?_
  (try simp only [Act.put, List.setIfInBounds_toArray, List.set_cons_zero])
  refine wpAnyH_done (by kernel_rfl) ?_ _
  go_wp2_with fail
  go_ret
  exact ⟨rfl, hb1.trans (hF34.below.mono hb1.size)⟩
end Go.Proofs.YtdekogmegdhjoaaDoor

namespace Go.Proofs.YtdekogmegdhjoaaDoor

def nestP : Nat → List UInt8
  | 0 => []
  | i + 1 => nestP i ++ (if i % 2 = 0 then [91] else [123, 34, 97, 34, 58])
def nestC : Nat → List UInt8
  | 0 => []
  | i + 1 => (if i % 2 = 0 then 93 else 125) :: nestC i
def nestOk (d : Nat) : Bool :=
  match jParse (nestP d ++ [49] ++ nestC d) with
  | .ok v => decide (d ≤ 16) && (decide (d = 0) || v.kids.length == 1)
  | .error x => decide (16 < d) && (x.2 == 64) && decide (x.1 < (nestP d).length)
theorem nests_ok : ∀ d, d < 20 → nestOk d = true := by decide +kernel
theorem nestP_len : ∀ d, (nestP d).length ≤ 5 * d
  | 0 => Nat.le_refl _
  | d + 1 => by
    have := nestP_len d
    rw [nestP, List.length_append]
    split <;> simp <;> omega
theorem nestC_len : ∀ d, (nestC d).length = d
  | 0 => rfl
  | d + 1 => by rw [nestC, List.length_cons, nestC_len d]
def zB : Nat → List UInt8
  | 0 => [91]
  | i + 1 => zB i ++ (if i = 0 then [] else [44]) ++ [48]
theorem zB_len : ∀ i, (zB (i + 1)).length = 2 * i + 2
  | 0 => rfl
  | i + 1 => by
    rw [zB, List.length_append, List.length_append, zB_len i]
    simp
    omega
theorem zB_at : ∀ (i p : Nat), p < (zB i).length → (zB i)[p]? = some (if p = 0 then 91 else if p % 2 = 1 then 48 else 44)
  | 0, p, h => by
    have : p = 0 := by simp [zB] at h; exact h
    subst this; rfl
  | 1, p, h => by
    have h2 : p < 2 := h
    match p, h2 with
    | 0, _ => rfl
    | 1, _ => rfl
  | i + 2, p, h => by
    have hl := zB_len i
    have hl2 := zB_len (i + 1)
    rw [zB, if_neg (by omega), List.append_assoc]
    rcases Nat.lt_or_ge p (zB (i + 1)).length with h1 | h1
    · rw [List.getElem?_append_left h1]
      exact zB_at (i + 1) p h1
    · rw [List.getElem?_append_right h1, hl]
      rw [hl] at h1
      rw [hl2] at h
      have h3 : p = 2 * i + 2 ∨ p = 2 * i + 3 := by omega
      rcases h3 with rfl | rfl
      · rw [if_neg (by omega), if_neg (by omega), show 2 * i + 2 - (2 * i + 2) = 0 by omega]; rfl
      · rw [if_neg (by omega), if_pos (by omega), show 2 * i + 3 - (2 * i + 2) = 1 by omega]; rfl
/-- A list of zeros. -/
def zL (k : Nat) : List UInt8 := zB k ++ [93]
section
variable {k : Nat}
theorem zL_len (h : 0 < k) : (zL k).length = 2 * k + 1 := by
  obtain ⟨i, rfl⟩ : ∃ i, k = i + 1 := ⟨k - 1, by omega⟩
  unfold zL
  rw [List.length_append, zB_len]; simp; omega
theorem zL_num (h : 0 < k) {j : Nat} (hj : j < k) : (zL k)[2 * j + 1]? = some 48 := by
  obtain ⟨i, rfl⟩ : ∃ i, k = i + 1 := ⟨k - 1, by omega⟩
  have hl := zB_len i
  unfold zL
  rw [List.getElem?_append_left (by omega), zB_at _ _ (by omega), if_neg (by omega), if_pos (by omega)]
theorem zL_sep {j : Nat} (hj : j + 1 < k) : (zL k)[2 * j + 2]? = some 44 := by
  obtain ⟨i, rfl⟩ : ∃ i, k = i + 1 := ⟨k - 1, by omega⟩
  have hl := zB_len i
  unfold zL
  rw [List.getElem?_append_left (by omega), zB_at _ _ (by omega), if_neg (by omega), if_neg (by omega)]
theorem zL_end {j : Nat} (hj : j + 1 = k) : (zL k)[2 * j + 2]? = some 93 := by
  subst hj
  have hl := zB_len j
  unfold zL
  rw [List.getElem?_append_right (by omega), hl, Nat.sub_self]; rfl
theorem zL_val (d : Nat) {j m : Nat} (hj : j < k) (hm : m < 4096) : jValue (zL k) d (2 * j + 1) m = .ok (.mk 3 0 [] [] [], 2 * j + 2, m + 1) := by
  have h0 := zL_num (by omega) hj
  have hn : jNumber (zL k) (2 * j + 1) = .ok (0, 2 * j + 2) := by
    have hp := (List.getElem?_eq_some_iff.1 h0).1
    have h1 : ((zL k).drop (2 * j + 1)).takeWhile jNumC = [48] := by
      rw [List.drop_eq_getElem_cons hp, (List.getElem?_eq_some_iff.1 h0).2, List.takeWhile_cons, if_pos (by decide)]
      have h2 : ∃ x, (zL k)[2 * j + 1 + 1]? = some x ∧ jNumC x = false := by
        by_cases he : j + 1 = k
        · exact ⟨93, zL_end he, by decide⟩
        · exact ⟨44, zL_sep (by omega), by decide⟩
      obtain ⟨x, hx, hx2⟩ := h2
      have hp2 := (List.getElem?_eq_some_iff.1 hx).1
      rw [List.drop_eq_getElem_cons hp2, (List.getElem?_eq_some_iff.1 hx).2, List.takeWhile_cons, if_neg (by rw [hx2]; decide)]
    unfold jNumber
    simp only [h1]
    rfl
  have hw : ∀ val, jValueW (zL k) val (2 * j + 1) m = .ok (.mk 3 0 [] [] [], 2 * j + 2, m + 1) := fun val => by
    unfold jValueW
    rw [h0]
    simp only []
    rw [if_neg (by omega), if_neg (by decide), if_neg (by decide), if_neg (by decide), if_pos (by decide), hn]
  cases d with
  | zero => exact hw _
  | succ d => exact hw _
theorem zL_many (d : Nat) : ∀ (r j f : Nat) (kids : List JV), j + r = k → 0 < r → j < 4096 → r ≤ f → kids.length = j →
    (k < 4096 → ∃ ks, ks.length = k ∧ jManyL (zL k) 5 93 (jValue (zL k) d) f (2 * j + 1) (j + 1) [] kids = .ok (.mk 5 0 [] [] ks, 2 * k + 1, k + 1)) ∧
    (4096 ≤ k → jManyL (zL k) 5 93 (jValue (zL k) d) f (2 * j + 1) (j + 1) [] kids = .error (8191, 8)) := by
  intro r
  induction r with
  | zero => intro j f kids _ h; omega
  | succ r ih =>
    intro j f kids hjr _ hj4 hf hkl
    obtain ⟨f, rfl⟩ : ∃ g, f = g + 1 := ⟨f - 1, by omega⟩
    have hjk : j < k := by omega
    by_cases hlast : j = 4095
    · refine ⟨fun h => by omega, fun _ => ?_⟩
      subst hlast
      rw [jManyL, if_neg (by decide)]
      simp only []
      have hx : jValue (zL k) d (2 * 4095 + 1) (4095 + 1) = .error (8191, 8) := by
        have h0 := zL_num (by omega) hjk
        have hw : ∀ val, jValueW (zL k) val (2 * 4095 + 1) (4095 + 1) = .error (8191, 8) := fun val => by
          unfold jValueW
          rw [h0]
          simp only []
          rw [if_pos trivial]
        cases d with
        | zero => exact hw _
        | succ d => exact hw _
      rw [hx]
    · have hv := zL_val (k := k) d hjk (m := j + 1) (by omega)
      rw [jManyL, if_neg (by decide)]
      simp only [hv]
      by_cases he : j + 1 = k
      · have hx := zL_end he
        refine ⟨fun h4 => ⟨kids ++ [.mk 3 0 [] [] []], by simp; omega, ?_⟩, fun h4 => by omega⟩
        rw [jBlanks_stop hx (by decide)]
        unfold jNext
        rw [hx]
        simp only []
        rw [if_pos trivial, if_neg (by decide), show 2 * j + 2 + 1 = 2 * k + 1 by omega, show j + 1 + 1 = k + 1 by omega]
      · have hx := zL_sep (k := k) (j := j) (by omega)
        have hy := zL_num (k := k) (j := j + 1) (by omega) (by omega)
        have hb : jBlanks (zL k) (2 * j + 2 + 1) = 2 * (j + 1) + 1 := jBlanks_stop (p := 2 * (j + 1) + 1) hy (by decide)
        have hw : jWord (zL k) [44] (2 * j + 2) = .ok (2 * j + 2 + 1) := by
          unfold jWord
          rw [hx]
          simp only []
          rw [if_pos trivial]
          rfl
        have key := ih (j + 1) f (kids ++ [.mk 3 0 [] [] []]) (by omega) (by omega) (by omega) (by omega) (by simp; omega)
        rw [jBlanks_stop hx (by decide)]
        unfold jNext
        rw [hx]
        simp only []
        rw [if_neg (by decide), hw]
        simp only []
        rw [hb, if_neg (by decide)]
        exact key
theorem zL_parse (hk : k < 5000) : (k < 4096 → ∃ v, jParse (zL k) = .ok v ∧ v.kids.length = k) ∧ (4096 ≤ k → jParse (zL k) = .error (8191, 8)) := by
  by_cases h0 : k = 0
  · subst h0
    exact ⟨fun _ => ⟨.mk 5 0 [] [] [], by kernel_rfl, rfl⟩, fun h => by omega⟩
  · have hl := zL_len (k := k) (by omega)
    obtain ⟨i, rfl⟩ : ∃ i, k = i + 1 := ⟨k - 1, by omega⟩
    have hx0 : (zL (i + 1))[0]? = some 91 := by
      unfold zL
      rw [List.getElem?_append_left (by rw [zB_len]; omega), zB_at _ _ (by rw [zB_len]; omega), if_pos rfl]
    have hx1 := zL_num (k := i + 1) (by omega) (j := 0) (by omega)
    have hm : jMany (zL (i + 1)) 5 93 (some (jValue (zL (i + 1)) 15)) 0 1 = jManyL (zL (i + 1)) 5 93 (jValue (zL (i + 1)) 15) (2 * (i + 1) + 1) 1 1 [] [] := by
      unfold jMany
      simp only []
      rw [jBlanks_stop (p := 0 + 1) hx1 (by decide)]
      unfold jNext
      rw [hx1]
      simp only []
      rw [if_neg (by decide), hl]
      rfl
    have hv : jValue (zL (i + 1)) 16 0 0 = jMany (zL (i + 1)) 5 93 (some (jValue (zL (i + 1)) 15)) 0 1 := by
      show jValueW _ _ 0 0 = _
      unfold jValueW
      rw [hx0]
      simp only []
      rw [if_neg (by decide), if_neg (by decide), if_neg (by decide), if_neg (by decide), if_neg (by decide), if_neg (by decide), if_pos trivial]
    have hp : jParse (zL (i + 1)) = match jMany (zL (i + 1)) 5 93 (some (jValue (zL (i + 1)) 15)) 0 1 with
        | .error x => .error x
        | .ok (v, p, _) => if jBlanks (zL (i + 1)) p < (zL (i + 1)).length then .error (jBlanks (zL (i + 1)) p, 10) else .ok v := by
      unfold jParse
      rw [if_neg (by omega), jBlanks_stop hx0 (by decide), hv]
      rfl
    obtain ⟨h1, h2⟩ := zL_many (k := i + 1) 15 (i + 1) 0 (2 * (i + 1) + 1) [] (by omega) (by omega) (by omega) (by omega) rfl
    refine ⟨fun h4 => ?_, fun h4 => ?_⟩
    · obtain ⟨ks, hks, hkk⟩ := h1 h4
      refine ⟨.mk 5 0 [] [] ks, ?_, hks⟩
      have hkk' : jManyL (zL (i + 1)) 5 93 (jValue (zL (i + 1)) 15) (2 * (i + 1) + 1) 1 1 [] [] = .ok (.mk 5 0 [] [] ks, 2 * (i + 1) + 1, i + 1 + 1) := hkk
      rw [hp, hm, hkk']
      simp only []
      rw [jBlanks_end (by rw [hl]; exact Nat.le_refl _), if_neg (by omega)]
    · rw [hp, hm]
      have := h2 h4
      rw [show (2 * 0 + 1 : Nat) = 1 from rfl] at this
      rw [this]
end
end Go.Proofs.YtdekogmegdhjoaaDoor
