/-
  Layer 14: the walk of the document's DecodeHead.
  Layer 14: the walk of awake.
-/
import Derived.Test.YtpdbjhgphgcjoaaDoorJ17
import Derived.Test.YtpdbjhgphgcjoaaDoorJ18
import Derived.Test.YtpdbjhgphgcjoaaDoorJ11
import Derived.Test.YtpdbjhgphgcjoaaDoorJ14
import Derived.Test.YtpdbjhgphgcjoaaDoorJ19
namespace Go.Proofs.YtpdbjhgphgcjoaaDoor
open Go.RowKit

theorem hd_put {s t : Value} {root : List UInt8} {k : Nat} {y : UInt8} (hr : root.length = 32) (hk : k < 32) (hy : root[k]? = some y) :
    spl (hdL s ((root.take k ++ zeros.drop k).map bv) t) (1 + k) [bv y] = hdL s ((root.take (k + 1) ++ zeros.drop (k + 1)).map bv) t := by
  have hz : zeros.drop k = 0 :: zeros.drop (k + 1) := by
    rw [List.drop_eq_getElem_cons (by rw [zeros_32]; exact hk)]; congr 1; unfold zeros; exact List.getElem_replicate _
  have ht : root.take (k + 1) = root.take k ++ [y] := take_snoc hy
  rw [hz, ht]
  have := spl_at (p := s :: (root.take k).map bv) (q := [bv 0]) (r := (zeros.drop (k + 1)).map bv ++ [t]) (ds := [bv y]) (off := 1 + k) (by simp; omega) rfl
  simpa [hdL] using this

set_option maxRecDepth 20000 in
set_option maxHeartbeats 1600000 in
theorem rdech_any (A : Option Addr) (n c : Nat) (l : List UInt8) (w : World) (hm : n ≤ 140737488355000) (hnc : n ≤ c) (hr : Rd w (· < w.heap.size) A 1 n (l.map bv)) :
    Calls Tryd.prog 20 #[.slice A n c] w fun e w' => e = .returned (.tuple #[.agg (hdD l).1.cells.toArray, .int .i64 (hdD l).2]) ∧ Below w.heap.size w w' := by
  have hl := hr.bytes_len
  have hF0 := Fr.nil w
  have hz0 := box hd0_len
  by_cases h49 : n = 49
  · subst h49
    obtain ⟨x, hx⟩ : ∃ x, l[0]? = some x := ⟨l[0]'(by omega), by simp⟩
    have hx0 : l[0]? = some x := hx
    have hxb := x.toNat_lt
    by_cases hx7 : x = 7
    · subst hx7
      have hD : hdD l = if hdN l ≤ 1048576 then if hdT l ≤ 1099511627776 then (⟨hdN l, hdR l, hdT l⟩, 0) else (Hd.zero, 10) else (Hd.zero, 10) := by
        unfold hdD; rw [if_pos (by omega), if_pos hx0]
      have hN : hdN l = getN ((l.take 9).drop 1) := rfl
      have hT : hdT l = getN ((l.take 49).drop 41) := rfl
      have hR : Box ((hdR l).length = 32 ∧ hdR l = (l.take 41).drop 9) := box ⟨by unfold hdR; simp only [List.length_drop, List.length_take]; omega, rfl⟩
      replace hN := box hN.symm
      replace hT := box hT.symm
      generalize hdN l = n1 at *
      generalize hdT l = n2 at *
      generalize hdR l = root at *
      generalize hdD l = D at *
      replace hx0 := box hx0
      replace hx := box hx
      by_cases h1 : n1 ≤ 1048576
      · by_cases h2 : n2 ≤ 1099511627776
        · rw [if_pos h1, if_pos h2] at hD
          replace hD := box hD
          replace hl := box hl
          obtain ⟨Z, hZ⟩ : ∃ Z : List Value, Z = hdL (.int .i64 (n1 : Int)) (zeros.map bv) (.int .i64 (n2 : Int)) := ⟨_, rfl⟩
          have hZl : Z.length = 34 := by rw [hZ]; exact hd_len zeros_len
          have hrl : (root.map bv).length = 32 := by rw [List.length_map]; exact hR.out.1
          have hcp : Box (spl Z 1 ((root.map bv).take 32) = hdL (.int .i64 (n1 : Int)) (root.map bv) (.int .i64 (n2 : Int))) := box (by
            rw [List.take_of_length_le (by omega), hZ]
            exact hdL_1 (by rw [hrl]; exact zeros_len))
          have hfl := box (hd_fill (s := .int .i64 (n1 : Int)) (t := .int .i64 (n2 : Int)) rfl rfl)
          rw [← hZ] at hfl
          replace hZ := box hZ
          replace hrl := box hrl
          have hZ1 := box (show ∀ u ∈ Z, u.oneCell' = true by rw [hZ.out]; exact hdL_one (bv_one _) rfl rfl)
          go_enter Tryd.func20, Tryd.ntmps20
          go_wp2_with (first | ((with_reducible refine lst (by with_unfolding_all rfl) (wp_falloc hF0 (cs := hd0) (z := .agg (List.toArray (hd0))) rfl (by kernel_rfl) (by with_unfolding_all rfl) ?_)); intro w1 g1 hF1 hz1) | (with_reducible refine lst (by with_unfolding_all rfl) (wp_indexAddr T_u8 (hF1.rdOld hr) (by with_unfolding_all exact ⟨_, _, _, _, rfl, rfl, rfl⟩) (by omega) (by omega) ?_)) | (with_reducible refine lst (by with_unfolding_all rfl) (wp_loadC (hF1.rdOld hr) hx0 Tryd.underlying5 rfl (by with_unfolding_all exact ⟨_, rfl, rfl⟩) (by first | (simp; done) | (simp; omega) | omega) ?_)) | ((with_reducible refine lst (by with_unfolding_all rfl) (wp_cutB T_u8 (hF1.rdOld hr) hnc (lo := (some (1:Int))) (hi := (some (9:Int))) (mx := none) ?_ (l := 1) (h := 9) (m := c) (by first | (simp; done) | (simp; omega)) (by first | (simp; done) | (simp; omega)) (by first | (simp; done) | (simp; omega)) (by simp) (by omega) (by omega) (by omega) (by omega) ?_)); exact ⟨_, _, _, _, .i64, .i64, .i64, rfl, rfl, rfl, rfl, rfl⟩; intro A2 c2 hr2 hc2 hc3))
          refine (rget_any _ _ _ _ _ (by omega) hr2).mono ?_
          rintro e w2 ⟨rfl, rfl⟩
          rw [hN.out, if_pos (by decide)]
          go_wp2_with (first | ((with_reducible refine lst (by with_unfolding_all rfl) (wp_cutB T_u8 (hF1.rdOld hr) hnc (lo := (some (41:Int))) (hi := (some (49:Int))) (mx := none) ?_ (l := 41) (h := 49) (m := c) (by first | (simp; done) | (simp; omega)) (by first | (simp; done) | (simp; omega)) (by first | (simp; done) | (simp; omega)) (by simp) (by omega) (by omega) (by omega) (by omega) ?_)); exact ⟨_, _, _, _, .i64, .i64, .i64, rfl, rfl, rfl, rfl, rfl⟩; intro A2 c2 hr2 hc2 hc3))
          refine (rget_any _ _ _ _ _ (by omega) hr2).mono ?_
          rintro e w2 ⟨rfl, rfl⟩
          rw [hT.out, if_pos (by decide)]
          go_wp2_with (first | (with_reducible refine lst (by with_unfolding_all rfl) (wp_indexAddr T_u8 (hF1.rdOld hr) (by with_unfolding_all exact ⟨_, _, _, _, rfl, rfl, rfl⟩) (by omega) (by omega) ?_)) | (with_reducible refine lst (by with_unfolding_all rfl) (wp_loadC (hF1.rdOld hr) hx0 Tryd.underlying5 rfl (by with_unfolding_all exact ⟨_, rfl, rfl⟩) (by first | (simp; done) | (simp; omega) | omega) ?_)) | (with_reducible refine lst (by with_unfolding_all rfl) (wp_fbuild Tryd.underlying51 (z := .agg (List.toArray hd0)) (by kernel_rfl) (pl := hdP) (by kernel_rfl) (cs := Z) rfl (vs := [(0, .int .i64 (n1 : Int)), (2, .int .i64 (n2 : Int))]) (by with_unfolding_all rfl) (by with_unfolding_all exact hfl.out) ?_)) | ((with_reducible refine lst (by with_unfolding_all rfl) (wp_falloc hF1 (cs := hd0) (z := .agg (List.toArray (hd0))) rfl (by kernel_rfl) (by with_unfolding_all rfl) ?_)); intro w2 g2 hF2 hz2) | ((with_reducible refine lst (by with_unfolding_all rfl) (wp_fstA0 hF2 (by with_unfolding_all exact ⟨_, _, rfl, rfl, rfl⟩) (by rw [hZl]; kernel_rfl) hZ1.out (by rw [hZl, hz0.out]; omega) (spl_all (by rw [hZl, hz0.out])) ?_)); intro w3 hF3 hz3))
          clear hfl hr2 hc2 hc3
          have hCl := box (hd_len (s := .int .i64 (n1 : Int)) (t := .int .i64 (n2 : Int)) hrl.out)
          have hC1 := box (hdL_one (s := .int .i64 (n1 : Int)) (t := .int .i64 (n2 : Int)) (bv_one root) rfl rfl)
          go_loopw [9] (fun x wr => ∃ k : Nat, k ≤ 32 ∧ x = .int .i64 k ∧ Fr [] w wr [.blk g2 51 (hdL (.int .i64 (n1 : Int)) ((root.take k ++ zeros.drop k).map bv) (.int .i64 (n2 : Int))), .blk g1 51 hd0]) (fun x _ => 32 - (intOf x).toNat)
          case atStart => exact ⟨0, by omega, rfl, by rw [List.take_zero, List.nil_append, List.drop_zero, ← hZ.out]; exact hF3⟩
          case round =>
            clear hF2 hF3
            obtain ⟨k, hk, rfl, hF⟩ := hrel
            by_cases hlt : k < 32
            · obtain ⟨y, hy⟩ : ∃ y, root[k]? = some y := ⟨root[k]'(by have := hR.out.1; omega), by simp⟩
              have hyl := box (show l[9 + k]? = some y by rw [hR.out.2, List.getElem?_drop, List.getElem?_take, if_pos (by omega)] at hy; exact hy)
              have hyb := y.toNat_lt
              have hst := box (hd_put (s := .int .i64 (n1 : Int)) (t := .int .i64 (n2 : Int)) hR.out.1 hlt hy)
              have hsl := box (hd_len (s := .int .i64 (n1 : Int)) (t := .int .i64 (n2 : Int)) (dg := (root.take k ++ zeros.drop k).map bv) (by have := hR.out.1; simp [zeros]; omega))
              replace hy := box hy
              go_wp2_with (first | (with_reducible refine lst (by with_unfolding_all rfl) (wp_indexAddr T_u8 (hF.rdOld hr) (by with_unfolding_all exact ⟨_, _, _, _, rfl, rfl, rfl⟩) (by omega) (by omega) ?_)) | (with_reducible refine lst (by with_unfolding_all rfl) (wp_loadC (hF.rdOld hr) hyl Tryd.underlying5 rfl (by with_unfolding_all exact ⟨_, rfl, rfl⟩) (by first | (simp; done) | (simp; omega) | omega) ?_)) | ((with_reducible refine lst (by with_unfolding_all rfl) (wp_fst0 hF (by with_unfolding_all exact ⟨_, _, rfl, rfl, rfl⟩) (by kernel_rfl) rfl rfl (by rw [hsl.out]; omega) hst.out ?_)); intro w4 hF4 hz4))
              go_roundw
              case rel => exact ⟨k + 1, by omega, by go_num, hF4⟩
              case measure => simp [intOf]; omega
            · obtain rfl : k = 32 := by omega
              rw [List.take_of_length_le (by have := hR.out.1; omega), show zeros.drop 32 = [] from rfl, List.append_nil] at hF
              have hF4 := hF
              go_wp2_with (first | (with_reducible refine lst (by with_unfolding_all rfl) (wp_fldA0 hF4 Tryd.underlying51 rfl (by with_unfolding_all exact ⟨_, rfl, rfl⟩) (ds := (hdL (.int .i64 (n1 : Int)) (root.map bv) (.int .i64 (n2 : Int)))) (by rw [hCl.out]; kernel_rfl) (take_all _) ?_)) | ((with_reducible refine lst (by with_unfolding_all rfl) (wp_fstA1 hF4 (by with_unfolding_all exact ⟨_, _, rfl, rfl, rfl⟩) (by rw [hCl.out]; kernel_rfl) hC1.out (by rw [hCl.out, hz0.out]; omega) (spl_all (by rw [hCl.out, hz0.out])) ?_)); intro w5 hF5 hz5))
              exact bodyPost_ret (results_cellF2_1 hF5 rfl _ rfl Tryd.underlying51 rfl (by rw [hCl.out]; kernel_rfl)) rfl ⟨by rw [hD.out]; rfl, hF5.below⟩
        · rw [if_pos h1, if_neg h2] at hD
          replace hD := box hD
          replace hl := box hl
          go_enter Tryd.func20, Tryd.ntmps20
          go_wp2_with (first | ((with_reducible refine lst (by with_unfolding_all rfl) (wp_falloc hF0 (cs := hd0) (z := .agg (List.toArray (hd0))) rfl (by kernel_rfl) (by with_unfolding_all rfl) ?_)); intro w1 g1 hF1 hz1) | (with_reducible refine lst (by with_unfolding_all rfl) (wp_indexAddr T_u8 (hF1.rdOld hr) (by with_unfolding_all exact ⟨_, _, _, _, rfl, rfl, rfl⟩) (by omega) (by omega) ?_)) | (with_reducible refine lst (by with_unfolding_all rfl) (wp_loadC (hF1.rdOld hr) hx0 Tryd.underlying5 rfl (by with_unfolding_all exact ⟨_, rfl, rfl⟩) (by first | (simp; done) | (simp; omega) | omega) ?_)) | ((with_reducible refine lst (by with_unfolding_all rfl) (wp_cutB T_u8 (hF1.rdOld hr) hnc (lo := (some (1:Int))) (hi := (some (9:Int))) (mx := none) ?_ (l := 1) (h := 9) (m := c) (by first | (simp; done) | (simp; omega)) (by first | (simp; done) | (simp; omega)) (by first | (simp; done) | (simp; omega)) (by simp) (by omega) (by omega) (by omega) (by omega) ?_)); exact ⟨_, _, _, _, .i64, .i64, .i64, rfl, rfl, rfl, rfl, rfl⟩; intro A2 c2 hr2 hc2 hc3))
          refine (rget_any _ _ _ _ _ (by omega) hr2).mono ?_
          rintro e w2 ⟨rfl, rfl⟩
          rw [hN.out, if_pos (by decide)]
          go_wp2_with (first | ((with_reducible refine lst (by with_unfolding_all rfl) (wp_cutB T_u8 (hF1.rdOld hr) hnc (lo := (some (41:Int))) (hi := (some (49:Int))) (mx := none) ?_ (l := 41) (h := 49) (m := c) (by first | (simp; done) | (simp; omega)) (by first | (simp; done) | (simp; omega)) (by first | (simp; done) | (simp; omega)) (by simp) (by omega) (by omega) (by omega) (by omega) ?_)); exact ⟨_, _, _, _, .i64, .i64, .i64, rfl, rfl, rfl, rfl, rfl⟩; intro A2 c2 hr2 hc2 hc3))
          refine (rget_any _ _ _ _ _ (by omega) hr2).mono ?_
          rintro e w2 ⟨rfl, rfl⟩
          rw [hT.out, if_pos (by decide)]
          go_wp2_with (first | (with_reducible refine lst (by with_unfolding_all rfl) (wp_indexAddr T_u8 (hF1.rdOld hr) (by with_unfolding_all exact ⟨_, _, _, _, rfl, rfl, rfl⟩) (by omega) (by omega) ?_)) | (with_reducible refine lst (by with_unfolding_all rfl) (wp_loadC (hF1.rdOld hr) hx0 Tryd.underlying5 rfl (by with_unfolding_all exact ⟨_, rfl, rfl⟩) (by first | (simp; done) | (simp; omega) | omega) ?_)) | (with_reducible refine lst (by with_unfolding_all rfl) (wp_fbuild Tryd.underlying51 (z := .agg (List.toArray hd0)) (by kernel_rfl) (pl := hdP) (by kernel_rfl) (cs := hd0) rfl (vs := []) (by with_unfolding_all rfl) (by with_unfolding_all exact hd0_fill) ?_)) | ((with_reducible refine lst (by with_unfolding_all rfl) (wp_fstA0 hF1 (by with_unfolding_all exact ⟨_, _, rfl, rfl, rfl⟩) (by rw [hz0.out]; kernel_rfl) hd0_one (by rw [hz0.out]; omega) (spl_all rfl) ?_)); intro w2 hF2 hz2))
          exact bodyPost_ret (results_cellF2_0 hF2 rfl _ rfl Tryd.underlying51 rfl (by rw [hz0.out]; kernel_rfl)) rfl ⟨by rw [hD.out]; rfl, hF2.below⟩
      · rw [if_neg h1] at hD
        replace hD := box hD
        replace hl := box hl
        go_enter Tryd.func20, Tryd.ntmps20
        go_wp2_with (first | ((with_reducible refine lst (by with_unfolding_all rfl) (wp_falloc hF0 (cs := hd0) (z := .agg (List.toArray (hd0))) rfl (by kernel_rfl) (by with_unfolding_all rfl) ?_)); intro w1 g1 hF1 hz1) | (with_reducible refine lst (by with_unfolding_all rfl) (wp_indexAddr T_u8 (hF1.rdOld hr) (by with_unfolding_all exact ⟨_, _, _, _, rfl, rfl, rfl⟩) (by omega) (by omega) ?_)) | (with_reducible refine lst (by with_unfolding_all rfl) (wp_loadC (hF1.rdOld hr) hx0 Tryd.underlying5 rfl (by with_unfolding_all exact ⟨_, rfl, rfl⟩) (by first | (simp; done) | (simp; omega) | omega) ?_)) | ((with_reducible refine lst (by with_unfolding_all rfl) (wp_cutB T_u8 (hF1.rdOld hr) hnc (lo := (some (1:Int))) (hi := (some (9:Int))) (mx := none) ?_ (l := 1) (h := 9) (m := c) (by first | (simp; done) | (simp; omega)) (by first | (simp; done) | (simp; omega)) (by first | (simp; done) | (simp; omega)) (by simp) (by omega) (by omega) (by omega) (by omega) ?_)); exact ⟨_, _, _, _, .i64, .i64, .i64, rfl, rfl, rfl, rfl, rfl⟩; intro A2 c2 hr2 hc2 hc3))
        refine (rget_any _ _ _ _ _ (by omega) hr2).mono ?_
        rintro e w2 ⟨rfl, rfl⟩
        rw [hN.out, if_pos (by decide)]
        go_wp2_with (first | ((with_reducible refine lst (by with_unfolding_all rfl) (wp_cutB T_u8 (hF1.rdOld hr) hnc (lo := (some (41:Int))) (hi := (some (49:Int))) (mx := none) ?_ (l := 41) (h := 49) (m := c) (by first | (simp; done) | (simp; omega)) (by first | (simp; done) | (simp; omega)) (by first | (simp; done) | (simp; omega)) (by simp) (by omega) (by omega) (by omega) (by omega) ?_)); exact ⟨_, _, _, _, .i64, .i64, .i64, rfl, rfl, rfl, rfl, rfl⟩; intro A2 c2 hr2 hc2 hc3))
        refine (rget_any _ _ _ _ _ (by omega) hr2).mono ?_
        rintro e w2 ⟨rfl, rfl⟩
        rw [hT.out, if_pos (by decide)]
        go_wp2_with (first | (with_reducible refine lst (by with_unfolding_all rfl) (wp_indexAddr T_u8 (hF1.rdOld hr) (by with_unfolding_all exact ⟨_, _, _, _, rfl, rfl, rfl⟩) (by omega) (by omega) ?_)) | (with_reducible refine lst (by with_unfolding_all rfl) (wp_loadC (hF1.rdOld hr) hx0 Tryd.underlying5 rfl (by with_unfolding_all exact ⟨_, rfl, rfl⟩) (by first | (simp; done) | (simp; omega) | omega) ?_)) | (with_reducible refine lst (by with_unfolding_all rfl) (wp_fbuild Tryd.underlying51 (z := .agg (List.toArray hd0)) (by kernel_rfl) (pl := hdP) (by kernel_rfl) (cs := hd0) rfl (vs := []) (by with_unfolding_all rfl) (by with_unfolding_all exact hd0_fill) ?_)) | ((with_reducible refine lst (by with_unfolding_all rfl) (wp_fstA0 hF1 (by with_unfolding_all exact ⟨_, _, rfl, rfl, rfl⟩) (by rw [hz0.out]; kernel_rfl) hd0_one (by rw [hz0.out]; omega) (spl_all rfl) ?_)); intro w2 hF2 hz2))
        exact bodyPost_ret (results_cellF2_0 hF2 rfl _ rfl Tryd.underlying51 rfl (by rw [hz0.out]; kernel_rfl)) rfl ⟨by rw [hD.out]; rfl, hF2.below⟩
    · have hD : Box (hdD l = (Hd.zero, 10)) := box (by unfold hdD; rw [if_pos (by omega), if_neg (by rw [hx0]; simpa using hx7)])
      have ne7 : ((x.toNat : Int) != 7) = true := by
        rw [bne_iff_ne]; intro h; exact hx7 (UInt8.toNat_inj.1 (by show x.toNat = 7; omega))
      generalize hdD l = D at *
      replace hl := box hl
      replace hx := box hx
      replace hx0 := box hx0
      go_enter Tryd.func20, Tryd.ntmps20
      go_wp2_with (first | ((with_reducible refine lst (by with_unfolding_all rfl) (wp_falloc hF0 (cs := hd0) (z := .agg (List.toArray (hd0))) rfl (by kernel_rfl) (by with_unfolding_all rfl) ?_)); intro w1 g1 hF1 hz1) | ((with_reducible refine lst (by with_unfolding_all rfl) (wp_cutB T_u8 (hF1.rdOld hr) hnc (lo := (some (1:Int))) (hi := (some (9:Int))) (mx := none) ?_ (l := 1) (h := 9) (m := c) (by first | (simp; done) | (simp; omega)) (by first | (simp; done) | (simp; omega)) (by first | (simp; done) | (simp; omega)) (by simp) (by omega) (by omega) (by omega) (by omega) ?_)); exact ⟨_, _, _, _, .i64, .i64, .i64, rfl, rfl, rfl, rfl, rfl⟩; intro A2 c2 hr2 hc2 hc3))
      refine (rget_any _ _ _ _ _ (by omega) hr2).mono ?_
      rintro e w2 ⟨rfl, rfl⟩
      rw [if_pos (by decide)]
      go_wp2_with (first | ((with_reducible refine lst (by with_unfolding_all rfl) (wp_cutB T_u8 (hF1.rdOld hr) hnc (lo := (some (41:Int))) (hi := (some (49:Int))) (mx := none) ?_ (l := 41) (h := 49) (m := c) (by first | (simp; done) | (simp; omega)) (by first | (simp; done) | (simp; omega)) (by first | (simp; done) | (simp; omega)) (by simp) (by omega) (by omega) (by omega) (by omega) ?_)); exact ⟨_, _, _, _, .i64, .i64, .i64, rfl, rfl, rfl, rfl, rfl⟩; intro A2 c2 hr2 hc2 hc3))
      refine (rget_any _ _ _ _ _ (by omega) hr2).mono ?_
      rintro e w2 ⟨rfl, rfl⟩
      rw [if_pos (by decide)]
      go_wp2_with (first | (with_reducible refine lst (by with_unfolding_all rfl) (wp_indexAddr T_u8 (hF1.rdOld hr) (by with_unfolding_all exact ⟨_, _, _, _, rfl, rfl, rfl⟩) (by omega) (by omega) ?_)) | (with_reducible refine lst (by with_unfolding_all rfl) (wp_loadC (hF1.rdOld hr) hx0 Tryd.underlying5 rfl (by with_unfolding_all exact ⟨_, rfl, rfl⟩) (by first | (simp; done) | (simp; omega) | omega) ?_)) | (with_reducible refine lst (by with_unfolding_all rfl) (wp_fbuild Tryd.underlying51 (z := .agg (List.toArray hd0)) (by kernel_rfl) (pl := hdP) (by kernel_rfl) (cs := hd0) rfl (vs := []) (by with_unfolding_all rfl) (by with_unfolding_all exact hd0_fill) ?_)) | ((with_reducible refine lst (by with_unfolding_all rfl) (wp_fstA0 hF1 (by with_unfolding_all exact ⟨_, _, rfl, rfl, rfl⟩) (by rw [hz0.out]; kernel_rfl) hd0_one (by rw [hz0.out]; omega) (spl_all rfl) ?_)); intro w2 hF2 hz2))
      exact bodyPost_ret (results_cellF2_0 hF2 rfl _ rfl Tryd.underlying51 rfl (by rw [hz0.out]; kernel_rfl)) rfl ⟨by rw [hD.out]; rfl, hF2.below⟩
  · have hD : Box (hdD l = (Hd.zero, 10)) := box (by unfold hdD; rw [if_neg (by omega)])
    generalize hdD l = D at *
    replace hl := box hl
    go_enter Tryd.func20, Tryd.ntmps20
    go_wp2_with (first | ((with_reducible refine lst (by with_unfolding_all rfl) (wp_falloc hF0 (cs := hd0) (z := .agg (List.toArray (hd0))) rfl (by kernel_rfl) (by with_unfolding_all rfl) ?_)); intro w1 g1 hF1 hz1) | (with_reducible refine lst (by with_unfolding_all rfl) (wp_fbuild Tryd.underlying51 (z := .agg (List.toArray hd0)) (by kernel_rfl) (pl := hdP) (by kernel_rfl) (cs := hd0) rfl (vs := []) (by with_unfolding_all rfl) (by with_unfolding_all exact hd0_fill) ?_)) | ((with_reducible refine lst (by with_unfolding_all rfl) (wp_fstA0 hF1 (by with_unfolding_all exact ⟨_, _, rfl, rfl, rfl⟩) (by rw [hz0.out]; kernel_rfl) hd0_one (by rw [hz0.out]; omega) (spl_all rfl) ?_)); intro w2 hF2 hz2))
    exact bodyPost_ret (results_cellF2_0 hF2 rfl _ rfl Tryd.underlying51 rfl (by rw [hz0.out]; kernel_rfl)) rfl ⟨by rw [hD.out]; rfl, hF2.below⟩
end Go.Proofs.YtpdbjhgphgcjoaaDoor

namespace Go.Proofs.YtpdbjhgphgcjoaaDoor
open Go.RowKit

def awR : Rec := ⟨2, ⟨#[97]⟩, ⟨#[98]⟩, zeros, 1⟩
def awB : List UInt8 := [2, 1, 97, 1, 98, 0, 0, 0, 0, 0, 0, 0, 1]
theorem awR_ok : recOk awR = true := by with_unfolding_all rfl
theorem awR_b : recB awR = awB := by
  unfold recB awR textL
  rw [cnt_small (by decide), cnt_small (by decide)]
  rfl
theorem awB_d : recD awB = (awR, 0) := by rw [← awR_b]; exact recD_back zeros_32 awR_ok
theorem hd_fill1 {s : Value} (hs : s.cells = #[s]) : Instr.fill (fun i : Nat => hdP[i]?) hd0.toArray [(0, s)] = some (hdL s (zeros.map bv) (.int .i64 0)).toArray := by
  unfold hd0
  rw [fill_step (off := 0) (size := 1) rfl (by rw [hs]; rfl) (by rw [hd_len zeros_len]; omega), hs, hdL_0]
  rfl
theorem recB_len {r : Rec} (hd : r.d.length = 32) (h : recOk r = true) : (recB r).length ≤ 1000 := by
  obtain ⟨_, hr, ht, _, _⟩ := recOk_iff h
  have hrs := repo_size hr
  have hts := tag_size ht
  rw [← str_len] at hrs hts
  unfold recB
  have t1 := textL_len r.repo.data.toList (by omega)
  have t2 := textL_len r.tag.data.toList (by omega)
  have p8 := putL_len r.t.toNat 8
  simp only [List.length_append, List.length_cons, List.length_nil]
  split
  · omega
  · simp only [List.length_nil]; omega
theorem recE_len {r : Rec} (hd : r.d.length = 32) : (if recOk r = true then recB r else []).length ≤ 1000 := by
  split
  · rename_i h; exact recB_len hd h
  · exact Nat.zero_le _
theorem same_self (A B : Option Addr) (n m c d : Nat) (l : List UInt8) (w : World) (hm : n ≤ 9223372036854775807) (hr : Rd w (· < w.heap.size) A 1 n (l.map bv)) (hr2 : Rd w (· < w.heap.size) B 1 m (l.map bv)) :
    Calls Tryd.prog 13 #[.slice A n c, .slice B m d] w fun e w' => e = .returned (.bool true) ∧ Below w.heap.size w w' := by
  have h := same_any A B n m c d l l w hm hr hr2
  rwa [beq_self_eq_true] at h

set_option maxRecDepth 20000 in
set_option maxHeartbeats 1600000 in
theorem awake_any (w : World) (hM : MaxW w) : Calls Tryd.prog 10 #[] w fun e w' => e = .returned (.bool true) ∧ Below w.heap.size w w' := by
  have hF0 := Fr.nil w
  have h1 := box (fun w h => enc_any awR w h zeros_32 (by decide) (by decide))
  rw [awR_ok, awR_b] at h1
  simp only [if_true, Rec.cells] at h1
  have h2 := box (fun A c w hM hnc hr => dec_any A 13 c awB w hM (by decide) hnc hr)
  rw [awB_d] at h2
  have hz0 := box rc0_len
  have hC : Box (awR.cells.length = 36) := box (rc_len zeros_len)
  have h3 := box (fun w => righth_any ⟨1, zeros, 0⟩ w zeros_32)
  rw [show hdOk ⟨1, zeros, 0⟩ = true by decide] at h3
  go_enter Tryd.func10, Tryd.ntmps10
  go_wp2_with (first | (with_reducible refine lst (by with_unfolding_all rfl) (wp_fbuild Tryd.underlying31 (z := .agg (List.toArray rc0)) (by kernel_rfl) (pl := rcP) (by kernel_rfl) (cs := awR.cells) rfl (vs := [(0, .int .i64 2), (1, .string ⟨#[97]⟩), (2, .string ⟨#[98]⟩), (4, .int .i64 1)]) (by with_unfolding_all rfl) (by with_unfolding_all exact rc_fill_nd rfl rfl rfl rfl) ?_)))
  refine (h1.out _ hM).mono ?_
  rintro e w1 ⟨v1, rfl, ho1, hb1⟩
  obtain ⟨A1, c1, rfl, hn1, hr1⟩ := ho1.arg
  have hF1 := hF0.gotB hb1 ho1
  go_wp2_with fail
  refine (h2.out _ _ _ (hF1.maxW hM) hn1 (hF1.rdOwn (i := 0) rfl)).mono ?_
  rintro e w2 ⟨rfl, hb2⟩
  have hF2 := hF1.call hb2
  go_wp2_with (first | ((with_reducible refine lst (by with_unfolding_all rfl) (wp_falloc hF2 (cs := rc0) (z := .agg (List.toArray (rc0))) rfl (by kernel_rfl) (by with_unfolding_all rfl) ?_)); intro w3 g3 hF3 hz3) | ((with_reducible refine lst (by with_unfolding_all rfl) (wp_fstA0 hF3 (by with_unfolding_all exact ⟨_, _, rfl, rfl, rfl⟩) (by rw [hC.out]; kernel_rfl) (Rec.one _) (by rw [hC.out, hz0.out]; omega) (spl_all (by rw [hC.out, hz0.out])) ?_)); intro w4 hF4 hz4) | ((with_reducible refine lst (by with_unfolding_all rfl) (wp_fbsl T_u8 hF4 (vs := [.int .u8 2, .int .u8 1, .int .u8 97, .int .u8 1, .int .u8 98, .int .u8 0, .int .u8 0, .int .u8 0, .int .u8 0, .int .u8 0, .int .u8 0, .int .u8 0, .int .u8 1]) (by with_unfolding_all rfl) (by with_unfolding_all rfl) (by with_unfolding_all rfl) (by decide) (by simp [Value.cells]) ?_)); intro w5 g5 hF5 hz5))
  have hF5' : Fr _ _ w5 (Ent.bytes _ 5 (.slice (some ⟨g5, 0, none⟩) 13 13) awB :: _) := hF5
  refine (same_self _ _ _ _ _ _ awB _ (by decide) (hF5.rdOwn (i := 2) rfl) (hF5'.rdOwn (i := 0) rfl)).mono ?_
  rintro e w6 ⟨rfl, hb6⟩
  have hF6 := hF5.call hb6
  have htg : (awR.tag.toList == [98]) = true := by with_unfolding_all rfl
  go_wp2_with (first | (with_reducible refine lst (by with_unfolding_all rfl) (wp_fld1 hF6 Tryd.underlying9 rfl (by with_unfolding_all exact ⟨_, rfl, rfl⟩) rfl ?_)) | (with_reducible refine lst (by with_unfolding_all rfl) (wp_fbuild Tryd.underlying46 (z := .agg (List.toArray hd0)) (by kernel_rfl) (pl := hdP) (by kernel_rfl) (cs := (hdL (.int .i64 1) (zeros.map bv) (.int .i64 0))) rfl (vs := [(0, .int .i64 1)]) (by with_unfolding_all rfl) (by with_unfolding_all exact hd_fill1 rfl) ?_)))
  refine (h3.out _).mono ?_
  rintro e w7 ⟨rfl, hb7⟩
  have hF7 := hF6.call hb7
  go_wp2_with fail
  go_ret
  exact ⟨rfl, hF7.below⟩
end Go.Proofs.YtpdbjhgphgcjoaaDoor
