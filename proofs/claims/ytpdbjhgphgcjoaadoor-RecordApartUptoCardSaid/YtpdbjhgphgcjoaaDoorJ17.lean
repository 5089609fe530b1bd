/-
  Layer 14: the walk of DecodeHead.
-/
import Derived.Test.YtpdbjhgphgcjoaaDoorJ16
import Derived.Test.YtpdbjhgphgcjoaaDoorJ13
import Derived.StillTailTactics
namespace Go.Proofs.YtpdbjhgphgcjoaaDoor
open Go.RowKit

def hdN (l : List UInt8) : Nat := getN ((l.take 9).drop 1)
def hdT (l : List UInt8) : Nat := getN ((l.take 49).drop 41)
def hdR (l : List UInt8) : List UInt8 := (l.take 41).drop 9
def hdD (l : List UInt8) : Hd × Int :=
  if l.length = 49 then if l[0]? = some 7 then if hdN l ≤ 1048576 then if hdT l ≤ 1099511627776 then (⟨hdN l, hdR l, hdT l⟩, 0) else (Hd.zero, 10) else (Hd.zero, 10) else (Hd.zero, 10) else (Hd.zero, 10)
theorem hd_fill {s t : Value} (hs : s.cells = #[s]) (ht : t.cells = #[t]) :
    Instr.fill (fun i : Nat => hdP[i]?) hd0.toArray [(0, s), (2, t)] = some (hdL s (zeros.map bv) t).toArray := by
  unfold hd0
  rw [fill_step (off := 0) (size := 1) rfl (by rw [hs]; rfl) (by rw [hd_len zeros_len]; omega), hs, hdL_0,
    fill_step (off := 33) (size := 1) rfl (by rw [ht]; rfl) (by rw [hd_len zeros_len]; omega), ht, hdL_33 zeros_len]
  rfl
theorem hd0_fill : Instr.fill (fun i : Nat => hdP[i]?) hd0.toArray [] = some hd0.toArray := rfl

section
variable {P : Program} {o : Oper} {a : Act} {w : World} {ops : Array Oper}
theorem run_cutB {t e : TypeId} (T : SlT P t e 1 1 (.int .u8 0)) {S : Nat → Prop} {A : Option Addr} {n c : Nat} {bs : List UInt8} (hr : Rd w S A 1 n (bs.map bv)) (hnc : n ≤ c)
    {lo hi mx : Option Int} (ho : IsCut o a t A n c lo hi mx) {l h m : Nat} (hl : lo.getD 0 = (l : Int)) (hh : hi.getD (n : Int) = (h : Int)) (hm : mx.getD (c : Int) = (m : Int)) (hmx : mx.isSome = true → hi.isSome = true)
    (h1 : l ≤ h) (h2 : h ≤ n) (h3 : h ≤ m) (h4 : m ≤ c) :
    ∃ A' c', (execOp a.eval o).run P w = .ok (.value (.slice A' (h - l) c')) w ∧ Rd w S A' 1 (h - l) (((bs.take h).drop l).map bv) ∧ h - l ≤ c' ∧ c' ≤ c := by
  obtain ⟨x, ol, oh, om, k1, k2, k3, ho, hx, b1, b2, b3⟩ := ho
  obtain ⟨i', hi', _, hsz, _⟩ := info_parts T.info
  have hrc := hr.cut (m = l) h1 h2 (fun hml => by omega)
  simp only [Nat.mul_one, ← List.map_take, ← List.map_drop] at hrc
  refine ⟨if m = l then A else A.map (·.add l), m - l, ?_, hrc, by omega, by omega⟩
  unfold execOp
  have hrun : ∀ (lv hv mv : Option Value), lv = lo.map (.int k1) → hv = hi.map (.int k2) → mv = mx.map (.int k3) →
      (Instr.sliceBounds true n c lv hv mv).run P w = .ok (l, h, m) w := by
    intro lv hv mv e1 e2 e3
    subst e1 e2 e3
    have h5 : h ≤ c := by omega
    have h6 : l ≤ n := by omega
    cases lo <;> cases hi <;> cases mx <;> simp at hl hh hm hmx <;> subst_vars <;> simp [Instr.sliceBounds, run_bound, h1, h3, h4, h5, h6] <;> omega
  have e1 : ol.map a.eval = lo.map (.int k1) := b1
  have e2 : oh.map a.eval = hi.map (.int k2) := b2
  have e3 : om.map a.eval = mx.map (.int k3) := b3
  simp [ho, hx, Instr.sliceAt, Instr.slice, run_underlying T.und, hrun _ _ _ e1 e2 e3, sizeOf, typeInfo, hi', hsz]
theorem still_cut {t e : TypeId} (T : SlT P t e 1 1 (.int .u8 0)) {S : Nat → Prop} {A : Option Addr} {n c : Nat} {bs : List UInt8} (hr : Rd w S A 1 n (bs.map bv)) (hnc : n ≤ c)
    {lo hi mx : Option Int} {Q : Act → Prop} {rest : List Oper} (hw : Region.wanted o (yielded ops a.tmps) = true) (ho : IsCut o a t A n c lo hi mx) {l h m : Nat} (hl : lo.getD 0 = (l : Int)) (hh : hi.getD (n : Int) = (h : Int)) (hm : mx.getD (c : Int) = (m : Int)) (hmx : mx.isSome = true → hi.isSome = true)
    (h1 : l ≤ h) (h2 : h ≤ n) (h3 : h ≤ m) (h4 : m ≤ c)
    (k : ∀ A' c', Rd w S A' 1 (h - l) (((bs.take h).drop l).map bv) → h - l ≤ c' → c' ≤ c → wpStill P ops w Q rest (a.put o.dst (.slice A' (h - l) c'))) : wpStill P ops w Q (o :: rest) a := by
  obtain ⟨A', c', hrun, hr', h5, h6⟩ := run_cutB T hr hnc ho hl hh hm hmx h1 h2 h3 h4
  simp only [wpStill, hw, if_true, Oper.still, hrun, Oper.stillUpon_value]
  exact k A' c' hr' h5 h6
end

set_option maxRecDepth 20000 in
set_option maxHeartbeats 1600000 in
theorem dech_any (A : Option Addr) (n c : Nat) (l : List UInt8) (w : World) (hm : n ≤ 140737488355000) (hnc : n ≤ c) (hr : Rd w (· < w.heap.size) A 1 n (l.map bv)) :
    Calls Tryd.prog 17 #[.slice A n c] w fun e w' => e = .returned (.tuple #[.agg (hdD l).1.cells.toArray, .int .i64 (hdD l).2]) ∧ Below w.heap.size w w' := by
  have hl := hr.bytes_len
  have hF0 := Fr.nil w
  have hz0 := box hd0_len
  by_cases h49 : n = 49
  · subst h49
    obtain ⟨x, hx⟩ : ∃ x, l[0]? = some x := ⟨l[0]'(by omega), by simp⟩
    have hx0 : l[0]? = some x := hx
    have hxb := x.toNat_lt
    by_cases hx7 : x = 7
    · subst hx7
      have hD : hdD l = if hdN l ≤ 1048576 then if hdT l ≤ 1099511627776 then (⟨hdN l, hdR l, hdT l⟩, 0) else (Hd.zero, 10) else (Hd.zero, 10) := by
        unfold hdD; rw [if_pos (by omega), if_pos hx0]
      have hN : hdN l = getN ((l.take 9).drop 1) := rfl
      have hT : hdT l = getN ((l.take 49).drop 41) := rfl
      have hR : Box ((hdR l).length = 32 ∧ hdR l = (l.take 41).drop 9) := box ⟨by unfold hdR; simp only [List.length_drop, List.length_take]; omega, rfl⟩
      replace hN := box hN.symm
      replace hT := box hT.symm
      generalize hdN l = n1 at *
      generalize hdT l = n2 at *
      generalize hdR l = root at *
      generalize hdD l = D at *
      replace hx0 := box hx0
      replace hx := box hx
      by_cases h1 : n1 ≤ 1048576
      · by_cases h2 : n2 ≤ 1099511627776
        · rw [if_pos h1, if_pos h2] at hD
          replace hD := box hD
          replace hl := box hl
          obtain ⟨Z, hZ⟩ : ∃ Z : List Value, Z = hdL (.int .i64 (n1 : Int)) (zeros.map bv) (.int .i64 (n2 : Int)) := ⟨_, rfl⟩
          have hZl : Z.length = 34 := by rw [hZ]; exact hd_len zeros_len
          have hrl : (root.map bv).length = 32 := by rw [List.length_map]; exact hR.out.1
          have hcp : Box (spl Z 1 ((root.map bv).take 32) = hdL (.int .i64 (n1 : Int)) (root.map bv) (.int .i64 (n2 : Int))) := box (by
            rw [List.take_of_length_le (by omega), hZ]
            exact hdL_1 (by rw [hrl]; exact zeros_len))
          have hfl := box (hd_fill (s := .int .i64 (n1 : Int)) (t := .int .i64 (n2 : Int)) rfl rfl)
          rw [← hZ] at hfl
          replace hZ := box hZ
          replace hrl := box hrl
          have hZ1 := box (show ∀ u ∈ Z, u.oneCell' = true by rw [hZ.out]; exact hdL_one (bv_one _) rfl rfl)
          go_enter Tryd.func17, Tryd.ntmps17
          go_wp2_with (first | ((with_reducible refine lst (by with_unfolding_all rfl) (wp_falloc hF0 (cs := hd0) (z := .agg (List.toArray (hd0))) rfl (by kernel_rfl) (by with_unfolding_all rfl) ?_)); intro w1 g1 hF1 hz1) | (with_reducible refine lst (by with_unfolding_all rfl) (wp_indexAddr T_u8 (hF1.rdOld hr) (by with_unfolding_all exact ⟨_, _, _, _, rfl, rfl, rfl⟩) (by omega) (by omega) ?_)) | (with_reducible refine lst (by with_unfolding_all rfl) (wp_loadC (hF1.rdOld hr) hx0 Tryd.underlying5 rfl (by with_unfolding_all exact ⟨_, rfl, rfl⟩) (by first | (simp; done) | (simp; omega) | omega) ?_)) | ((with_reducible refine lst (by with_unfolding_all rfl) (wp_cutB T_u8 (hF1.rdOld hr) hnc (lo := (some (1:Int))) (hi := (some (9:Int))) (mx := none) ?_ (l := 1) (h := 9) (m := c) (by first | (simp; done) | (simp; omega)) (by first | (simp; done) | (simp; omega)) (by first | (simp; done) | (simp; omega)) (by simp) (by omega) (by omega) (by omega) (by omega) ?_)); exact ⟨_, _, _, _, .i64, .i64, .i64, rfl, rfl, rfl, rfl, rfl⟩; intro A2 c2 hr2 hc2 hc3))
          refine (get_any _ _ _ _ _ (by omega) hr2).mono ?_
          rintro e w2 ⟨rfl, rfl⟩
          rw [hN.out, if_pos (by decide)]
          go_wp2_with (first | ((with_reducible refine lst (by with_unfolding_all rfl) (wp_cutB T_u8 (hF1.rdOld hr) hnc (lo := (some (41:Int))) (hi := none) (mx := none) ?_ (l := 41) (h := 49) (m := c) (by first | (simp; done) | (simp; omega)) (by first | (simp; done) | (simp; omega)) (by first | (simp; done) | (simp; omega)) (by simp) (by omega) (by omega) (by omega) (by omega) ?_)); exact ⟨_, _, _, _, .i64, .i64, .i64, rfl, rfl, rfl, rfl, rfl⟩; intro A2 c2 hr2 hc2 hc3))
          refine (get_any _ _ _ _ _ (by omega) hr2).mono ?_
          rintro e w2 ⟨rfl, rfl⟩
          rw [hT.out, if_pos (by decide)]
          go_wp2_with (first | (with_reducible refine lst (by with_unfolding_all rfl) (wp_fbuild Tryd.underlying46 (z := .agg (List.toArray hd0)) (by kernel_rfl) (pl := hdP) (by kernel_rfl) (cs := Z) rfl (vs := [(0, .int .i64 (n1 : Int)), (2, .int .i64 (n2 : Int))]) (by with_unfolding_all rfl) (by with_unfolding_all exact hfl.out) ?_)) | ((with_reducible refine lst (by with_unfolding_all rfl) (wp_falloc hF1 (cs := hd0) (z := .agg (List.toArray (hd0))) rfl (by kernel_rfl) (by with_unfolding_all rfl) ?_)); intro w2 g2 hF2 hz2) | ((with_reducible refine lst (by with_unfolding_all rfl) (wp_fstA0 hF2 (by with_unfolding_all exact ⟨_, _, rfl, rfl, rfl⟩) (by rw [hZl]; kernel_rfl) hZ1.out (by rw [hZl, hz0.out]; omega) (spl_all (by rw [hZl, hz0.out])) ?_)); intro w3 hF3 hz3))
          clear hfl hr2 hc2 hc3
          have hCl := box (hd_len (s := .int .i64 (n1 : Int)) (t := .int .i64 (n2 : Int)) hrl.out)
          have hC1 := box (hdL_one (s := .int .i64 (n1 : Int)) (t := .int .i64 (n2 : Int)) (bv_one root) rfl rfl)
          go_still_tail 4, (by kernel_rfl)
          change wpStill _ _ w3.drew _ _ _
          have hFd := hF3.drew
          have hr3 := hFd.rdOld hr
          with_reducible refine still_cut T_u8 hr3 hnc (lo := some (9:Int)) (hi := some (41:Int)) (mx := none) ?_ ?_ (l := 9) (h := 41) (m := c) rfl rfl rfl (by simp) (by omega) (by omega) (by omega) (by omega) ?_
          · with_unfolding_all rfl
          · with_unfolding_all exact ⟨_, _, _, _, .i64, .i64, .i64, rfl, rfl, rfl, rfl, rfl⟩
          intro A9 c9 hr9 hc9 hc8
          refine wpStill_nil ?_
          change wpList _ _ _ _ _ w3.drew
          rw [← hR.out.2] at hr9
          go_wp2_with (first | ((with_reducible refine lst (by with_unfolding_all rfl) (wp_fcopy0 Tryd.underlying25 (by kernel_rfl) hFd hr9 (bv_one _) (by with_unfolding_all rfl) (by with_unfolding_all rfl) (by with_unfolding_all rfl) (by first | (simp; done) | (simp; omega)) hcp.out ?_)); intro w4 hF4 hz4) | (with_reducible refine lst (by with_unfolding_all rfl) (wp_fldA0 hF4 Tryd.underlying46 rfl (by with_unfolding_all exact ⟨_, rfl, rfl⟩) (ds := (hdL (.int .i64 (n1 : Int)) (root.map bv) (.int .i64 (n2 : Int)))) (by rw [hCl.out]; kernel_rfl) (take_all _) ?_)) | ((with_reducible refine lst (by with_unfolding_all rfl) (wp_fstA1 hF4 (by with_unfolding_all exact ⟨_, _, rfl, rfl, rfl⟩) (by rw [hCl.out]; kernel_rfl) hC1.out (by rw [hCl.out, hz0.out]; omega) (spl_all (by rw [hCl.out, hz0.out])) ?_)); intro w5 hF5 hz5))
          (try simp only [Exit.inBlock, Exit.then])
          exact bodyPost_ret (results_cellF2_1 hF5 rfl _ rfl Tryd.underlying46 rfl (by rw [hCl.out]; kernel_rfl)) rfl ⟨by rw [hD.out]; rfl, hF5.below⟩
        · rw [if_pos h1, if_neg h2] at hD
          replace hD := box hD
          replace hl := box hl
          go_enter Tryd.func17, Tryd.ntmps17
          go_wp2_with (first | ((with_reducible refine lst (by with_unfolding_all rfl) (wp_falloc hF0 (cs := hd0) (z := .agg (List.toArray (hd0))) rfl (by kernel_rfl) (by with_unfolding_all rfl) ?_)); intro w1 g1 hF1 hz1) | (with_reducible refine lst (by with_unfolding_all rfl) (wp_indexAddr T_u8 (hF1.rdOld hr) (by with_unfolding_all exact ⟨_, _, _, _, rfl, rfl, rfl⟩) (by omega) (by omega) ?_)) | (with_reducible refine lst (by with_unfolding_all rfl) (wp_loadC (hF1.rdOld hr) hx0 Tryd.underlying5 rfl (by with_unfolding_all exact ⟨_, rfl, rfl⟩) (by first | (simp; done) | (simp; omega) | omega) ?_)) | ((with_reducible refine lst (by with_unfolding_all rfl) (wp_cutB T_u8 (hF1.rdOld hr) hnc (lo := (some (1:Int))) (hi := (some (9:Int))) (mx := none) ?_ (l := 1) (h := 9) (m := c) (by first | (simp; done) | (simp; omega)) (by first | (simp; done) | (simp; omega)) (by first | (simp; done) | (simp; omega)) (by simp) (by omega) (by omega) (by omega) (by omega) ?_)); exact ⟨_, _, _, _, .i64, .i64, .i64, rfl, rfl, rfl, rfl, rfl⟩; intro A2 c2 hr2 hc2 hc3))
          refine (get_any _ _ _ _ _ (by omega) hr2).mono ?_
          rintro e w2 ⟨rfl, rfl⟩
          rw [hN.out, if_pos (by decide)]
          go_wp2_with (first | ((with_reducible refine lst (by with_unfolding_all rfl) (wp_cutB T_u8 (hF1.rdOld hr) hnc (lo := (some (41:Int))) (hi := none) (mx := none) ?_ (l := 41) (h := 49) (m := c) (by first | (simp; done) | (simp; omega)) (by first | (simp; done) | (simp; omega)) (by first | (simp; done) | (simp; omega)) (by simp) (by omega) (by omega) (by omega) (by omega) ?_)); exact ⟨_, _, _, _, .i64, .i64, .i64, rfl, rfl, rfl, rfl, rfl⟩; intro A2 c2 hr2 hc2 hc3))
          refine (get_any _ _ _ _ _ (by omega) hr2).mono ?_
          rintro e w2 ⟨rfl, rfl⟩
          rw [hT.out, if_pos (by decide)]
          go_wp2_with (first | (with_reducible refine lst (by with_unfolding_all rfl) (wp_fbuild Tryd.underlying46 (z := .agg (List.toArray hd0)) (by kernel_rfl) (pl := hdP) (by kernel_rfl) (cs := hd0) rfl (vs := []) (by with_unfolding_all rfl) (by with_unfolding_all exact hd0_fill) ?_)) | ((with_reducible refine lst (by with_unfolding_all rfl) (wp_fstA0 hF1 (by with_unfolding_all exact ⟨_, _, rfl, rfl, rfl⟩) (by rw [hz0.out]; kernel_rfl) hd0_one (by rw [hz0.out]; omega) (spl_all rfl) ?_)); intro w2 hF2 hz2))
          exact bodyPost_ret (results_cellF2_0 hF2 rfl _ rfl Tryd.underlying46 rfl (by rw [hz0.out]; kernel_rfl)) rfl ⟨by rw [hD.out]; rfl, hF2.below⟩
      · rw [if_neg h1] at hD
        replace hD := box hD
        replace hl := box hl
        go_enter Tryd.func17, Tryd.ntmps17
        go_wp2_with (first | ((with_reducible refine lst (by with_unfolding_all rfl) (wp_falloc hF0 (cs := hd0) (z := .agg (List.toArray (hd0))) rfl (by kernel_rfl) (by with_unfolding_all rfl) ?_)); intro w1 g1 hF1 hz1) | (with_reducible refine lst (by with_unfolding_all rfl) (wp_indexAddr T_u8 (hF1.rdOld hr) (by with_unfolding_all exact ⟨_, _, _, _, rfl, rfl, rfl⟩) (by omega) (by omega) ?_)) | (with_reducible refine lst (by with_unfolding_all rfl) (wp_loadC (hF1.rdOld hr) hx0 Tryd.underlying5 rfl (by with_unfolding_all exact ⟨_, rfl, rfl⟩) (by first | (simp; done) | (simp; omega) | omega) ?_)) | ((with_reducible refine lst (by with_unfolding_all rfl) (wp_cutB T_u8 (hF1.rdOld hr) hnc (lo := (some (1:Int))) (hi := (some (9:Int))) (mx := none) ?_ (l := 1) (h := 9) (m := c) (by first | (simp; done) | (simp; omega)) (by first | (simp; done) | (simp; omega)) (by first | (simp; done) | (simp; omega)) (by simp) (by omega) (by omega) (by omega) (by omega) ?_)); exact ⟨_, _, _, _, .i64, .i64, .i64, rfl, rfl, rfl, rfl, rfl⟩; intro A2 c2 hr2 hc2 hc3))
        refine (get_any _ _ _ _ _ (by omega) hr2).mono ?_
        rintro e w2 ⟨rfl, rfl⟩
        rw [hN.out, if_pos (by decide)]
        go_wp2_with (first | ((with_reducible refine lst (by with_unfolding_all rfl) (wp_cutB T_u8 (hF1.rdOld hr) hnc (lo := (some (41:Int))) (hi := none) (mx := none) ?_ (l := 41) (h := 49) (m := c) (by first | (simp; done) | (simp; omega)) (by first | (simp; done) | (simp; omega)) (by first | (simp; done) | (simp; omega)) (by simp) (by omega) (by omega) (by omega) (by omega) ?_)); exact ⟨_, _, _, _, .i64, .i64, .i64, rfl, rfl, rfl, rfl, rfl⟩; intro A2 c2 hr2 hc2 hc3))
        refine (get_any _ _ _ _ _ (by omega) hr2).mono ?_
        rintro e w2 ⟨rfl, rfl⟩
        rw [hT.out, if_pos (by decide)]
        go_wp2_with (first | (with_reducible refine lst (by with_unfolding_all rfl) (wp_fbuild Tryd.underlying46 (z := .agg (List.toArray hd0)) (by kernel_rfl) (pl := hdP) (by kernel_rfl) (cs := hd0) rfl (vs := []) (by with_unfolding_all rfl) (by with_unfolding_all exact hd0_fill) ?_)) | ((with_reducible refine lst (by with_unfolding_all rfl) (wp_fstA0 hF1 (by with_unfolding_all exact ⟨_, _, rfl, rfl, rfl⟩) (by rw [hz0.out]; kernel_rfl) hd0_one (by rw [hz0.out]; omega) (spl_all rfl) ?_)); intro w2 hF2 hz2))
        exact bodyPost_ret (results_cellF2_0 hF2 rfl _ rfl Tryd.underlying46 rfl (by rw [hz0.out]; kernel_rfl)) rfl ⟨by rw [hD.out]; rfl, hF2.below⟩
    · have hD : Box (hdD l = (Hd.zero, 10)) := box (by unfold hdD; rw [if_pos (by omega), if_neg (by rw [hx0]; simpa using hx7)])
      have ne7 : ((x.toNat : Int) != 7) = true := by
        rw [bne_iff_ne]; intro h; exact hx7 (UInt8.toNat_inj.1 (by show x.toNat = 7; omega))
      generalize hdD l = D at *
      replace hl := box hl
      replace hx := box hx
      replace hx0 := box hx0
      go_enter Tryd.func17, Tryd.ntmps17
      go_wp2_with (first | ((with_reducible refine lst (by with_unfolding_all rfl) (wp_falloc hF0 (cs := hd0) (z := .agg (List.toArray (hd0))) rfl (by kernel_rfl) (by with_unfolding_all rfl) ?_)); intro w1 g1 hF1 hz1) | (with_reducible refine lst (by with_unfolding_all rfl) (wp_indexAddr T_u8 (hF1.rdOld hr) (by with_unfolding_all exact ⟨_, _, _, _, rfl, rfl, rfl⟩) (by omega) (by omega) ?_)) | (with_reducible refine lst (by with_unfolding_all rfl) (wp_loadC (hF1.rdOld hr) hx0 Tryd.underlying5 rfl (by with_unfolding_all exact ⟨_, rfl, rfl⟩) (by first | (simp; done) | (simp; omega) | omega) ?_)) | (with_reducible refine lst (by with_unfolding_all rfl) (wp_fbuild Tryd.underlying46 (z := .agg (List.toArray hd0)) (by kernel_rfl) (pl := hdP) (by kernel_rfl) (cs := hd0) rfl (vs := []) (by with_unfolding_all rfl) (by with_unfolding_all exact hd0_fill) ?_)) | ((with_reducible refine lst (by with_unfolding_all rfl) (wp_fstA0 hF1 (by with_unfolding_all exact ⟨_, _, rfl, rfl, rfl⟩) (by rw [hz0.out]; kernel_rfl) hd0_one (by rw [hz0.out]; omega) (spl_all rfl) ?_)); intro w2 hF2 hz2))
      exact bodyPost_ret (results_cellF2_0 hF2 rfl _ rfl Tryd.underlying46 rfl (by rw [hz0.out]; kernel_rfl)) rfl ⟨by rw [hD.out]; rfl, hF2.below⟩
  · have hD : Box (hdD l = (Hd.zero, 10)) := box (by unfold hdD; rw [if_neg (by omega)])
    generalize hdD l = D at *
    replace hl := box hl
    go_enter Tryd.func17, Tryd.ntmps17
    go_wp2_with (first | ((with_reducible refine lst (by with_unfolding_all rfl) (wp_falloc hF0 (cs := hd0) (z := .agg (List.toArray (hd0))) rfl (by kernel_rfl) (by with_unfolding_all rfl) ?_)); intro w1 g1 hF1 hz1) | (with_reducible refine lst (by with_unfolding_all rfl) (wp_fbuild Tryd.underlying46 (z := .agg (List.toArray hd0)) (by kernel_rfl) (pl := hdP) (by kernel_rfl) (cs := hd0) rfl (vs := []) (by with_unfolding_all rfl) (by with_unfolding_all exact hd0_fill) ?_)) | ((with_reducible refine lst (by with_unfolding_all rfl) (wp_fstA0 hF1 (by with_unfolding_all exact ⟨_, _, rfl, rfl, rfl⟩) (by rw [hz0.out]; kernel_rfl) hd0_one (by rw [hz0.out]; omega) (spl_all rfl) ?_)); intro w2 hF2 hz2))
    exact bodyPost_ret (results_cellF2_0 hF2 rfl _ rfl Tryd.underlying46 rfl (by rw [hz0.out]; kernel_rfl)) rfl ⟨by rw [hD.out]; rfl, hF2.below⟩
end Go.Proofs.YtpdbjhgphgcjoaaDoor
