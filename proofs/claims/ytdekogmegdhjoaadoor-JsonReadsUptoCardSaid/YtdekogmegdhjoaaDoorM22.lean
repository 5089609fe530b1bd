/-
  Layer 6: the law JsonNests, walked.
  Layer 6: what the rows' listed variables hold, in the walks' words.
  What the second form's bound gives of a slice: its room.
-/
import Derived.Test.YtdekogmegdhjoaaDoorM11
import Derived.Test.YtdekogmegdhjoaaDoorM04
import Derived.Test.YtdekogmegdhjoaaDoorM21
import Derived.Test.YtdekogmegdhjoaaDoorRows
import Derived.Lib.LaidU8T
import Derived.Stop.LaidErr
import Derived.Lib.LaidTab
import Derived.MakeChecks
import Derived.LaidLaws
namespace Go.Proofs.YtdekogmegdhjoaaDoor
open Go.RowKit
set_option linter.unusedSimpArgs false

theorem u_mod (x : Int) (m : Nat) (h0 : 0 < m) (h : m ≤ 5000) : ∃ D : Nat, D < m ∧ wrap64 ((IntKind.u64.wrap x).tmod (m : Int)) = (D : Int) := by
  have h1 : 0 ≤ IntKind.u64.wrap x := by
    simp only [IntKind.wrap, IntKind.bits, IntKind.signed]
    simp
    omega
  have h2 : 0 ≤ (IntKind.u64.wrap x).tmod (m : Int) := Int.tmod_nonneg _ h1
  have h3 : (IntKind.u64.wrap x).tmod (m : Int) < m := Int.tmod_lt_of_pos _ (by omega)
  refine ⟨((IntKind.u64.wrap x).tmod (m : Int)).toNat, by omega, ?_⟩
  unfold wrap64
  omega
theorem par_t {i : Nat} (h : i % 2 = 0) : ((i : Int) % 2 == 0) = true := by rw [beq_iff_eq]; omega
theorem par_f {i : Nat} (h : ¬ i % 2 = 0) : ((i : Int) % 2 == 0) = false := by rw [beq_eq_false_iff_ne]; omega

set_option maxRecDepth 20000 in
set_option maxHeartbeats 12800000 in
theorem jsonNests_any (x y : Int) (w : World) (hL : LibsAt w.heap.size w) :
    Calls Tryd.prog 4 #[.int .i64 x, .int .i64 y] w fun e w' => e = .returned (.bool true) ∧ Below w.heap.size w w' := by
  have hF0 := Fr.nil w
  obtain ⟨D, hD, hDe⟩ := u_mod x 20 (by decide) (by decide)
  obtain ⟨M, hM, hMe⟩ := u_mod y 5000 (by decide) (by decide)
  have hDe' : wrap64 ((IntKind.u64.wrap x).tmod 20) = (D : Int) := hDe
  have hMe' : wrap64 ((IntKind.u64.wrap y).tmod 5000) = (M : Int) := hMe
  clear hDe hMe
  replace hDe' := box hDe'
  replace hMe' := box hMe'
  go_enter Tryd.func4, Tryd.ntmps4
  go_upto_region 3 with (fail)
  rw [hDe'.out, hMe'.out]
  clear hDe' hMe'
  go_wp2
  go_loopg [5, 26] D (fun k v s wr => ∃ i : Nat, i ≤ D ∧ Box (k = D - i) ∧ s = .int .i64 (i : Int) ∧ Fr [] w wr [Ent.bytes w.heap.size 5 v (nestP i)])
  case atStart => exact ⟨0, by omega, box rfl, rfl, hF0.pushNil _⟩
  case round =>
    obtain ⟨i, hi, hk, rfl, hF⟩ := hrel
    clear hF0
    obtain ⟨Ao, co, rfl, hco, hro⟩ := (hF.own (i := 0) rfl).arg
    have hln := nestP_len i
    by_cases hlt : i < D
    · by_cases hpar : i % 2 = 0
      · have p1 := par_t hpar
        have hnx : Box (nestP (i + 1) = nestP i ++ [91]) := box (by rw [nestP, if_pos hpar])
        replace hpar := box hpar
        go_wp2_with (first | ((with_reducible refine lst (by with_unfolding_all rfl) (wp_fbsl T_u8 hF (vs := [bv 91]) (by with_unfolding_all rfl) (by with_unfolding_all rfl) (by with_unfolding_all rfl) (by decide) (by simp [bv, Value.cells]) ?_)); intro w2 g2 hF2 hz2; have hr2 : Rd w2 (· < w2.heap.size) (some ⟨g2, 0, none⟩) 1 1 ([91].map bv) := hF2.rdOwn0; replace hF2 : Fr _ _ w2 (Ent.bytes _ 5 (.slice (some ⟨g2, 0, none⟩) 1 1) [91] :: _) := hF2) | ((with_reducible refine lst (by with_unfolding_all rfl) (wp_fapp1 T_u8 hF2 (Nat.le_refl _) hr2 (by with_unfolding_all exact ⟨_, _, rfl, rfl, rfl⟩) (by omega) ?_)); intro v3 w3 hF3 hz3))
        go_roundg (D - (i + 1))
        case rel => exact ⟨i + 1, by omega, box rfl, by go_num, by rw [hnx.out]; exact hF3.tail⟩
        case measure => have := hk.out; omega
      · have p1 := par_f hpar
        have hnx : Box (nestP (i + 1) = nestP i ++ [123, 34, 97, 34, 58]) := box (by rw [nestP, if_neg hpar])
        replace hpar := box hpar
        go_wp2_with (first | ((with_reducible refine lst (by with_unfolding_all rfl) (wp_fappS T_u8 Tryd.underlying9 hF (i := 0) rfl (Nat.le_refl _) (by with_unfolding_all exact ⟨_, _, rfl, rfl, rfl⟩) (by rw [show (⟨#[123, 34, 97, 34, 58]⟩ : ByteArray).size = 5 from rfl]; omega) ?_)); intro v3 w3 hF3 hz3; simp only [List.set_cons_zero, List.set_cons_succ] at hF3))
        go_roundg (D - (i + 1))
        case rel => exact ⟨i + 1, by omega, box rfl, by go_num, by rw [hnx.out]; exact hF3⟩
        case measure => have := hk.out; omega
    · have hiD : D = i := by omega
      subst hiD
      clear hk hi hlt
      obtain ⟨P, hP⟩ : ∃ P, P = nestP D := ⟨_, rfl⟩
      rw [← hP] at hF hln hro hco
      rw [← hP]
      replace hP := box hP
      go_wp2_with (first | ((with_reducible refine lst (by with_unfolding_all rfl) (wp_fbsl T_u8 hF (vs := [bv 49]) (by with_unfolding_all rfl) (by with_unfolding_all rfl) (by with_unfolding_all rfl) (by decide) (by simp [bv, Value.cells]) ?_)); intro w2 g2 hF2 hz2; have hr2 : Rd w2 (· < w2.heap.size) (some ⟨g2, 0, none⟩) 1 1 ([49].map bv) := hF2.rdOwn0; replace hF2 : Fr _ _ w2 (Ent.bytes _ 5 (.slice (some ⟨g2, 0, none⟩) 1 1) [49] :: _) := hF2) | ((with_reducible refine lst (by with_unfolding_all rfl) (wp_fapp1 T_u8 hF2 (Nat.le_refl _) hr2 (by with_unfolding_all exact ⟨_, _, rfl, rfl, rfl⟩) (by omega) ?_)); intro v3 w3 hF3 hz3))
      have hF4 := hF3.tail
      clear hF hF2 hF3 hro
      go_loopg [5, 9] D (fun k v s wr => ∃ (j : Nat) (X : List UInt8), j ≤ D ∧ Box (k = j) ∧ s = .int .i64 ((j : Int) - 1) ∧ Box (X ++ nestC j = nestC D) ∧ X.length ≤ 20 ∧ Fr [] w wr [Ent.bytes w.heap.size 5 v (P ++ [49] ++ X)])
      case atStart => exact ⟨D, [], Nat.le_refl _, box rfl, rfl, box rfl, by simp, by simpa using hF4⟩
      case round =>
        obtain ⟨j, X, hj, hk, rfl, hX, hXl, hF⟩ := hrel
        clear hF4
        obtain ⟨Ao, co, rfl, hco, hro⟩ := (hF.own (i := 0) rfl).arg
        have hYl : (P ++ [49] ++ X).length ≤ 200 := by simp; omega
        obtain ⟨Y, hY⟩ : ∃ Y, Y = P ++ [49] ++ X := ⟨_, rfl⟩
        rw [← hY] at hF hro hco hYl
        rw [← hY]
        replace hY := box hY
        by_cases hj0 : j = 0
        · subst hj0
          have hXe : X = nestC D := by have := hX.out; simpa [nestC] using this
          clear hk hX hj
          have hFc := hF.pushNil 5
          go_wp2_with (first | ((with_reducible refine lst (by with_unfolding_all rfl) (wp_fbsl T_u8 hFc (vs := [bv 91]) (by with_unfolding_all rfl) (by with_unfolding_all rfl) (by with_unfolding_all rfl) (by decide) (by simp [bv, Value.cells]) ?_)); intro w4 g4 hF4 hz4; have hr4 : Rd w4 (· < w4.heap.size) (some ⟨g4, 0, none⟩) 1 1 ([91].map bv) := hF4.rdOwn0; replace hF4 : Fr _ _ w4 (Ent.bytes _ 5 (.slice (some ⟨g4, 0, none⟩) 1 1) [91] :: _) := hF4) | ((with_reducible refine lst (by with_unfolding_all rfl) (wp_fapp1 T_u8 hF4 (Nat.le_refl _) hr4 (by with_unfolding_all exact ⟨_, _, rfl, rfl, rfl⟩) (by simp) ?_)); intro v5 w5 hF5 hz5))
          have hF6 := hF5.tail
          clear hF hFc hF4 hF5
          go_loopg [6, 59] M (fun k v s wr => ∃ i : Nat, i ≤ M ∧ Box (k = M - i) ∧ s = .int .i64 (i : Int) ∧ Fr [] w wr [Ent.bytes w.heap.size 5 v (zB i), Ent.bytes w.heap.size 5 (.slice Ao Y.length co) Y])
          case atStart => exact ⟨0, by omega, box rfl, rfl, hF6⟩
          case round =>
            obtain ⟨i, hi, hk, rfl, hF⟩ := hrel
            clear hF6
            obtain ⟨Az, cz, rfl, hcz, hrz⟩ := (hF.own (i := 0) rfl).arg
            have hzl : (zB i).length ≤ 2 * i + 1 := by
              cases i with
              | zero => exact Nat.le_refl _
              | succ i => rw [zB_len]; omega
            by_cases hlt : i < M
            · by_cases h0 : 0 < i
              · have hnx : Box (zB (i + 1) = zB i ++ [44] ++ [48]) := box (by rw [zB, if_neg (by omega)])
                go_wp2_with (first | ((with_reducible refine lst (by with_unfolding_all rfl) (wp_fbsl T_u8 hF (vs := [bv 44]) (by with_unfolding_all rfl) (by with_unfolding_all rfl) (by with_unfolding_all rfl) (by decide) (by simp [bv, Value.cells]) ?_)); intro w2 g2 hF2 hz2; have hr2 : Rd w2 (· < w2.heap.size) (some ⟨g2, 0, none⟩) 1 1 ([44].map bv) := hF2.rdOwn0; replace hF2 : Fr _ _ w2 (Ent.bytes _ 5 (.slice (some ⟨g2, 0, none⟩) 1 1) [44] :: _) := hF2) | ((with_reducible refine lst (by with_unfolding_all rfl) (wp_fapp1 T_u8 hF2 (Nat.le_refl _) hr2 (by with_unfolding_all exact ⟨_, _, rfl, rfl, rfl⟩) (by omega) ?_)); intro v3 w3 hF3 hz3) | ((with_reducible refine lst (by with_unfolding_all rfl) (wp_fbsl T_u8 hF3 (vs := [bv 48]) (by with_unfolding_all rfl) (by with_unfolding_all rfl) (by with_unfolding_all rfl) (by decide) (by simp [bv, Value.cells]) ?_)); intro w4 g4 hF4 hz4; have hr4 : Rd w4 (· < w4.heap.size) (some ⟨g4, 0, none⟩) 1 1 ([48].map bv) := hF4.rdOwn0; replace hF4 : Fr _ _ w4 (Ent.bytes _ 5 (.slice (some ⟨g4, 0, none⟩) 1 1) [48] :: _) := hF4) | ((with_reducible refine lst (by with_unfolding_all rfl) (wp_fapp2 T_u8 hF4 (Nat.le_refl _) hr4 (by with_unfolding_all exact ⟨_, _, rfl, rfl, rfl⟩) (by simp; omega) ?_)); intro v5 w5 hF5 hz5))
                go_roundg (M - (i + 1))
                case rel => exact ⟨i + 1, by omega, box rfl, by go_num, by rw [hnx.out]; exact hF5.tail.tail⟩
                case measure => have := hk.out; omega
              · obtain rfl : i = 0 := by omega
                go_wp2_with (first | ((with_reducible refine lst (by with_unfolding_all rfl) (wp_fbsl T_u8 hF (vs := [bv 48]) (by with_unfolding_all rfl) (by with_unfolding_all rfl) (by with_unfolding_all rfl) (by decide) (by simp [bv, Value.cells]) ?_)); intro w4 g4 hF4 hz4; have hr4 : Rd w4 (· < w4.heap.size) (some ⟨g4, 0, none⟩) 1 1 ([48].map bv) := hF4.rdOwn0; replace hF4 : Fr _ _ w4 (Ent.bytes _ 5 (.slice (some ⟨g4, 0, none⟩) 1 1) [48] :: _) := hF4) | ((with_reducible refine lst (by with_unfolding_all rfl) (wp_fapp1 T_u8 hF4 (Nat.le_refl _) hr4 (by with_unfolding_all exact ⟨_, _, rfl, rfl, rfl⟩) (by omega) ?_)); intro v5 w5 hF5 hz5))
                go_roundg (M - 1)
                case rel => exact ⟨1, by omega, box rfl, rfl, hF5.tail⟩
                case measure => have := hk.out; omega
            · have hiM : M = i := by omega
              subst hiM
              clear hk hi hlt hzl
              have hYe : Y = nestP D ++ [49] ++ nestC D := by rw [hY.out, hP.out, hXe]
              have hzll : (zB M).length ≤ 10000 := by
                cases M with
                | zero => simp [zB]
                | succ i => rw [zB_len]; omega
              have hmk : (P.length : Int) = ((nestP D).length : Int) := by rw [hP.out]
              have hok := nests_ok D hD
              unfold nestOk at hok
              have hzp := zL_parse (k := M) hM
              have hpr := parse_F hF (hL.on hF.below) hF.size hco (by omega) (hF.rdOwn (i := 1) rfl)
              rw [hYe] at hpr
              have hro1 := hF.rdOwn (i := 1) rfl
              clear hXe hY hXl hro
              rw [← hYe] at hpr
              cases hj : jParse Y with
              | ok v =>
                rw [← hYe, hj] at hok
                rw [hj] at hpr
                unfold ParseEndF at hpr
                simp only [] at hpr hok
                simp only [Bool.and_eq_true, decide_eq_true_eq, Bool.or_eq_true, beq_iff_eq] at hok
                obtain ⟨hD16, hkid⟩ := hok
                have d1 : decide ((D : Int) ≤ 16) = true := decide_eq_true (by omega)
                have d2 : decide ((16 : Int) < (D : Int)) = false := decide_eq_false (by omega)
                clear hj hYe
                go_wp2_with fail
                refine hpr.mono ?_
                rintro e w7 ⟨cs, es, rfl, hvt, hF7⟩
                obtain ⟨kv, nv, tv, nsv, ksv⟩ := v
                obtain ⟨An, nn, cn, Ak, ck, xs, TE, hcn, hck, rfl, -, -, -⟩ := hvt.kids hF7
                have hkl : ksv.length = 1 ∨ D = 0 := hkid.symm
                clear hkid hvt hpr
                have hF8 := hF7.perm (List.perm_append_comm (l₁ := es))
                simp only [List.cons_append, List.nil_append] at hF8
                go_upto_region 25 with (first | ((with_reducible refine lst (by with_unfolding_all rfl) (wp_falloc hF8 (cs := vl0) (z := .agg (List.toArray (vl0))) rfl (by kernel_rfl) (by with_unfolding_all rfl) ?_)); intro w9 g9 hF9 hz9) | ((with_reducible refine lst (by with_unfolding_all rfl) (wp_fstA0 hF9 (by with_unfolding_all exact ⟨_, _, rfl, rfl, rfl⟩) (by rw [vlL_len]; kernel_rfl) vlL_one vlL_fit vlL_spl ?_)); intro w10 hF10 hz10))
                rcases Nat.lt_or_ge M 4096 with hM4 | hM4
                · obtain ⟨u, hu, hul⟩ := hzp.1 hM4
                  have m1 : decide ((M : Int) < 4096) = true := decide_eq_true (by omega)
                  clear hzp
                  go_wp2_with (first | ((with_reducible refine lst (by with_unfolding_all rfl) (wp_fbsl T_u8 hF10 (vs := [bv 93]) (by with_unfolding_all rfl) (by with_unfolding_all rfl) (by with_unfolding_all rfl) (by decide) (by simp [bv, Value.cells]) ?_)); intro w14 g14 hF14 hz14; have hr14 : Rd w14 (· < w14.heap.size) (some ⟨g14, 0, none⟩) 1 1 ([93].map bv) := hF14.rdOwn0; replace hF14 : Fr _ _ w14 (Ent.bytes _ 5 (.slice (some ⟨g14, 0, none⟩) 1 1) [93] :: _) := hF14) | ((with_reducible refine lst (by with_unfolding_all rfl) (wp_fapp2 T_u8 hF14 (Nat.le_refl _) hr14 (by with_unfolding_all exact ⟨_, _, rfl, rfl, rfl⟩) (by omega) ?_)); intro v15 w15 hF15 hz15))
                  obtain ⟨A15, c15, rfl, hc15⟩ := hF15.ownParts (i := 2) rfl
                  have hp2 := parse_F hF15 (hL.on hF15.below) hF15.size hc15 (by rw [List.length_append]; simp only [List.length_cons, List.length_nil]; omega) (hF15.rdOwn (i := 2) rfl)
                  rw [show zB M ++ [93] = zL M from rfl, hu] at hp2
                  unfold ParseEndF at hp2
                  simp only [] at hp2
                  clear hu
                  refine hp2.mono ?_
                  rintro e w16 ⟨cs2, es2, rfl, hvt2, hF16⟩
                  obtain ⟨ku, nu, tu, nsu, ksu⟩ := u
                  obtain ⟨An2, nn2, cn2, Ak2, ck2, xs2, TE2, hcn2, hck2, rfl, -, -, -⟩ := hvt2.kids hF16
                  have hul' : ksu.length = M := hul
                  clear hul hvt2 hp2
                  rw [hul']
                  replace hul' := box hul'
                  have hF17 := hF16.perm (List.perm_append_comm (l₁ := es2))
                  simp only [List.cons_append, List.nil_append] at hF17
                  go_upto_region 26 with (first | ((with_reducible refine lst (by with_unfolding_all rfl) (wp_falloc hF17 (cs := vl0) (z := .agg (List.toArray (vl0))) rfl (by kernel_rfl) (by with_unfolding_all rfl) ?_)); intro w18 g18 hF18 hz18) | ((with_reducible refine lst (by with_unfolding_all rfl) (wp_fstA0 hF18 (by with_unfolding_all exact ⟨_, _, rfl, rfl, rfl⟩) (by rw [vlL_len]; kernel_rfl) vlL_one vlL_fit vlL_spl ?_)); intro w19 hF19 hz19))
                  have haw := awake_any _ w.heap.size hF19.size (hL.on hF19.below)
                  rcases Nat.eq_zero_or_pos D with hD0 | hD0
                  · subst hD0
                    clear hkl d1 d2 hmk
                    go_wp2_with fail
                    refine haw.mono ?_
                    rintro e w20 ⟨rfl, hb20⟩
                    have hF20 := hF19.call hb20
                    go_wp2_with (first | (with_reducible refine lst (by with_unfolding_all rfl) (wp_fld2 hF20 Tryd.underlying25 rfl (by with_unfolding_all exact ⟨_, rfl, rfl⟩) rfl ?_)) | (with_reducible refine lst (by with_unfolding_all rfl) (wp_fld0 hF20 Tryd.underlying25 rfl (by with_unfolding_all exact ⟨_, rfl, rfl⟩) rfl ?_)))
                    go_ret
                    exact ⟨rfl, hF20.below⟩
                  · have hk1 : ksv.length = 1 := hkl.resolve_right (by omega)
                    rw [hk1] at hF19
                    rw [hk1]
                    clear hkl
                    replace hk1 := box hk1
                    replace hD0 : 0 < D := hD0
                    go_wp2_with fail
                    refine haw.mono ?_
                    rintro e w20 ⟨rfl, hb20⟩
                    have hF20 := hF19.call hb20
                    go_wp2_with (first | (with_reducible refine lst (by with_unfolding_all rfl) (wp_fld2 hF20 Tryd.underlying25 rfl (by with_unfolding_all exact ⟨_, rfl, rfl⟩) rfl ?_)) | (with_reducible refine lst (by with_unfolding_all rfl) (wp_fld0 hF20 Tryd.underlying25 rfl (by with_unfolding_all exact ⟨_, rfl, rfl⟩) rfl ?_)))
                    go_ret
                    exact ⟨rfl, hF20.below⟩
                · have hu := hzp.2 hM4
                  have m1 : decide ((M : Int) < 4096) = false := decide_eq_false (by omega)
                  have m2 : decide ((4096 : Int) ≤ (M : Int)) = true := decide_eq_true (by omega)
                  clear hzp
                  go_wp2_with (first | ((with_reducible refine lst (by with_unfolding_all rfl) (wp_fbsl T_u8 hF10 (vs := [bv 93]) (by with_unfolding_all rfl) (by with_unfolding_all rfl) (by with_unfolding_all rfl) (by decide) (by simp [bv, Value.cells]) ?_)); intro w14 g14 hF14 hz14; have hr14 : Rd w14 (· < w14.heap.size) (some ⟨g14, 0, none⟩) 1 1 ([93].map bv) := hF14.rdOwn0; replace hF14 : Fr _ _ w14 (Ent.bytes _ 5 (.slice (some ⟨g14, 0, none⟩) 1 1) [93] :: _) := hF14) | ((with_reducible refine lst (by with_unfolding_all rfl) (wp_fapp2 T_u8 hF14 (Nat.le_refl _) hr14 (by with_unfolding_all exact ⟨_, _, rfl, rfl, rfl⟩) (by omega) ?_)); intro v15 w15 hF15 hz15))
                  obtain ⟨A15, c15, rfl, hc15⟩ := hF15.ownParts (i := 2) rfl
                  have hp2 := parse_F hF15 (hL.on hF15.below) hF15.size hc15 (by rw [List.length_append]; simp only [List.length_cons, List.length_nil]; omega) (hF15.rdOwn (i := 2) rfl)
                  rw [show zB M ++ [93] = zL M from rfl, hu] at hp2
                  unfold ParseEndF at hp2
                  simp only [] at hp2
                  clear hu
                  refine hp2.mono ?_
                  rintro e w16 ⟨rfl, hF17⟩
                  clear hp2
                  go_upto_region 26 with (first | ((with_reducible refine lst (by with_unfolding_all rfl) (wp_falloc hF17 (cs := vl0) (z := .agg (List.toArray (vl0))) rfl (by kernel_rfl) (by with_unfolding_all rfl) ?_)); intro w18 g18 hF18 hz18) | ((with_reducible refine lst (by with_unfolding_all rfl) (wp_fstA0 hF18 (by with_unfolding_all exact ⟨_, _, rfl, rfl, rfl⟩) (by rw [vlL_len]; kernel_rfl) vlL_one vlL_fit vlL_spl ?_)); intro w19 hF19 hz19))
                  have haw := awake_any _ w.heap.size hF19.size (hL.on hF19.below)
                  rcases Nat.eq_zero_or_pos D with hD0 | hD0
                  · subst hD0
                    clear hkl d1 d2 hmk
                    go_wp2_with fail
                    refine haw.mono ?_
                    rintro e w20 ⟨rfl, hb20⟩
                    have hF20 := hF19.call hb20
                    go_wp2_with (first | (with_reducible refine lst (by with_unfolding_all rfl) (wp_fld2 hF20 Tryd.underlying25 rfl (by with_unfolding_all exact ⟨_, rfl, rfl⟩) rfl ?_)) | (with_reducible refine lst (by with_unfolding_all rfl) (wp_fld0 hF20 Tryd.underlying25 rfl (by with_unfolding_all exact ⟨_, rfl, rfl⟩) rfl ?_)))
                    go_ret
                    exact ⟨rfl, hF20.below⟩
                  · have hk1 : ksv.length = 1 := hkl.resolve_right (by omega)
                    rw [hk1] at hF19
                    rw [hk1]
                    clear hkl
                    replace hk1 := box hk1
                    replace hD0 : 0 < D := hD0
                    go_wp2_with fail
                    refine haw.mono ?_
                    rintro e w20 ⟨rfl, hb20⟩
                    have hF20 := hF19.call hb20
                    go_wp2_with (first | (with_reducible refine lst (by with_unfolding_all rfl) (wp_fld2 hF20 Tryd.underlying25 rfl (by with_unfolding_all exact ⟨_, rfl, rfl⟩) rfl ?_)) | (with_reducible refine lst (by with_unfolding_all rfl) (wp_fld0 hF20 Tryd.underlying25 rfl (by with_unfolding_all exact ⟨_, rfl, rfl⟩) rfl ?_)))
                    go_ret
                    exact ⟨rfl, hF20.below⟩
              | error z =>
                rw [← hYe, hj] at hok
                rw [hj] at hpr
                unfold ParseEndF at hpr
                simp only [] at hpr hok
                simp only [Bool.and_eq_true, decide_eq_true_eq, beq_iff_eq] at hok
                obtain ⟨⟨hD16, hz2⟩, hz1⟩ := hok
                obtain ⟨z1, z2⟩ := z
                simp only [] at hz1 hz2 hpr
                subst hz2
                have d1 : decide ((D : Int) ≤ 16) = false := decide_eq_false (by omega)
                have d2 : decide ((16 : Int) < (D : Int)) = true := decide_eq_true (by omega)
                have d3 : decide (((nestP D).length : Int) ≤ (z1 : Int)) = false := decide_eq_false (by omega)
                clear hj hYe
                go_wp2_with fail
                refine hpr.mono ?_
                rintro e w7 ⟨rfl, hF8⟩
                clear hpr
                go_upto_region 25 with (first | ((with_reducible refine lst (by with_unfolding_all rfl) (wp_falloc hF8 (cs := vl0) (z := .agg (List.toArray (vl0))) rfl (by kernel_rfl) (by with_unfolding_all rfl) ?_)); intro w9 g9 hF9 hz9) | ((with_reducible refine lst (by with_unfolding_all rfl) (wp_fstA0 hF9 (by with_unfolding_all exact ⟨_, _, rfl, rfl, rfl⟩) (by rw [vlL_len]; kernel_rfl) vlL_one vlL_fit vlL_spl ?_)); intro w10 hF10 hz10))
                rcases Nat.lt_or_ge M 4096 with hM4 | hM4
                · obtain ⟨u, hu, hul⟩ := hzp.1 hM4
                  have m1 : decide ((M : Int) < 4096) = true := decide_eq_true (by omega)
                  clear hzp
                  go_wp2_with (first | ((with_reducible refine lst (by with_unfolding_all rfl) (wp_fbsl T_u8 hF10 (vs := [bv 93]) (by with_unfolding_all rfl) (by with_unfolding_all rfl) (by with_unfolding_all rfl) (by decide) (by simp [bv, Value.cells]) ?_)); intro w14 g14 hF14 hz14; have hr14 : Rd w14 (· < w14.heap.size) (some ⟨g14, 0, none⟩) 1 1 ([93].map bv) := hF14.rdOwn0; replace hF14 : Fr _ _ w14 (Ent.bytes _ 5 (.slice (some ⟨g14, 0, none⟩) 1 1) [93] :: _) := hF14) | ((with_reducible refine lst (by with_unfolding_all rfl) (wp_fapp2 T_u8 hF14 (Nat.le_refl _) hr14 (by with_unfolding_all exact ⟨_, _, rfl, rfl, rfl⟩) (by omega) ?_)); intro v15 w15 hF15 hz15))
                  obtain ⟨A15, c15, rfl, hc15⟩ := hF15.ownParts (i := 2) rfl
                  have hp2 := parse_F hF15 (hL.on hF15.below) hF15.size hc15 (by rw [List.length_append]; simp only [List.length_cons, List.length_nil]; omega) (hF15.rdOwn (i := 2) rfl)
                  rw [show zB M ++ [93] = zL M from rfl, hu] at hp2
                  unfold ParseEndF at hp2
                  simp only [] at hp2
                  clear hu
                  refine hp2.mono ?_
                  rintro e w16 ⟨cs2, es2, rfl, hvt2, hF16⟩
                  obtain ⟨ku, nu, tu, nsu, ksu⟩ := u
                  obtain ⟨An2, nn2, cn2, Ak2, ck2, xs2, TE2, hcn2, hck2, rfl, -, -, -⟩ := hvt2.kids hF16
                  have hul' : ksu.length = M := hul
                  clear hul hvt2 hp2
                  rw [hul']
                  replace hul' := box hul'
                  have hF17 := hF16.perm (List.perm_append_comm (l₁ := es2))
                  simp only [List.cons_append, List.nil_append] at hF17
                  go_upto_region 26 with (first | ((with_reducible refine lst (by with_unfolding_all rfl) (wp_falloc hF17 (cs := vl0) (z := .agg (List.toArray (vl0))) rfl (by kernel_rfl) (by with_unfolding_all rfl) ?_)); intro w18 g18 hF18 hz18) | ((with_reducible refine lst (by with_unfolding_all rfl) (wp_fstA0 hF18 (by with_unfolding_all exact ⟨_, _, rfl, rfl, rfl⟩) (by rw [vlL_len]; kernel_rfl) vlL_one vlL_fit vlL_spl ?_)); intro w19 hF19 hz19))
                  have haw := awake_any _ w.heap.size hF19.size (hL.on hF19.below)
                  go_wp2_with fail
                  refine haw.mono ?_
                  rintro e w20 ⟨rfl, hb20⟩
                  have hF20 := hF19.call hb20
                  go_wp2_with (first | (with_reducible refine lst (by with_unfolding_all rfl) (wp_fld2 hF20 Tryd.underlying25 rfl (by with_unfolding_all exact ⟨_, rfl, rfl⟩) rfl ?_)) | (with_reducible refine lst (by with_unfolding_all rfl) (wp_fld0 hF20 Tryd.underlying25 rfl (by with_unfolding_all exact ⟨_, rfl, rfl⟩) rfl ?_)))
                  go_ret
                  exact ⟨rfl, hF20.below⟩
                · have hu := hzp.2 hM4
                  have m1 : decide ((M : Int) < 4096) = false := decide_eq_false (by omega)
                  have m2 : decide ((4096 : Int) ≤ (M : Int)) = true := decide_eq_true (by omega)
                  clear hzp
                  go_wp2_with (first | ((with_reducible refine lst (by with_unfolding_all rfl) (wp_fbsl T_u8 hF10 (vs := [bv 93]) (by with_unfolding_all rfl) (by with_unfolding_all rfl) (by with_unfolding_all rfl) (by decide) (by simp [bv, Value.cells]) ?_)); intro w14 g14 hF14 hz14; have hr14 : Rd w14 (· < w14.heap.size) (some ⟨g14, 0, none⟩) 1 1 ([93].map bv) := hF14.rdOwn0; replace hF14 : Fr _ _ w14 (Ent.bytes _ 5 (.slice (some ⟨g14, 0, none⟩) 1 1) [93] :: _) := hF14) | ((with_reducible refine lst (by with_unfolding_all rfl) (wp_fapp2 T_u8 hF14 (Nat.le_refl _) hr14 (by with_unfolding_all exact ⟨_, _, rfl, rfl, rfl⟩) (by omega) ?_)); intro v15 w15 hF15 hz15))
                  obtain ⟨A15, c15, rfl, hc15⟩ := hF15.ownParts (i := 2) rfl
                  have hp2 := parse_F hF15 (hL.on hF15.below) hF15.size hc15 (by rw [List.length_append]; simp only [List.length_cons, List.length_nil]; omega) (hF15.rdOwn (i := 2) rfl)
                  rw [show zB M ++ [93] = zL M from rfl, hu] at hp2
                  unfold ParseEndF at hp2
                  simp only [] at hp2
                  clear hu
                  refine hp2.mono ?_
                  rintro e w16 ⟨rfl, hF17⟩
                  clear hp2
                  go_upto_region 26 with (first | ((with_reducible refine lst (by with_unfolding_all rfl) (wp_falloc hF17 (cs := vl0) (z := .agg (List.toArray (vl0))) rfl (by kernel_rfl) (by with_unfolding_all rfl) ?_)); intro w18 g18 hF18 hz18) | ((with_reducible refine lst (by with_unfolding_all rfl) (wp_fstA0 hF18 (by with_unfolding_all exact ⟨_, _, rfl, rfl, rfl⟩) (by rw [vlL_len]; kernel_rfl) vlL_one vlL_fit vlL_spl ?_)); intro w19 hF19 hz19))
                  have haw := awake_any _ w.heap.size hF19.size (hL.on hF19.below)
                  go_wp2_with fail
                  refine haw.mono ?_
                  rintro e w20 ⟨rfl, hb20⟩
                  have hF20 := hF19.call hb20
                  go_wp2_with (first | (with_reducible refine lst (by with_unfolding_all rfl) (wp_fld2 hF20 Tryd.underlying25 rfl (by with_unfolding_all exact ⟨_, rfl, rfl⟩) rfl ?_)) | (with_reducible refine lst (by with_unfolding_all rfl) (wp_fld0 hF20 Tryd.underlying25 rfl (by with_unfolding_all exact ⟨_, rfl, rfl⟩) rfl ?_)))
                  go_ret
                  exact ⟨rfl, hF20.below⟩
        · obtain ⟨j', rfl⟩ : ∃ j', j = j' + 1 := ⟨j - 1, by omega⟩
          have hjj : ((j' + 1 : Nat) : Int) - 1 = (j' : Int) := by omega
          rw [hjj]
          clear hjj hj0
          by_cases hpar : j' % 2 = 0
          · have p1 : (j' : Int) % 2 = 0 := by omega
            have hX2 : Box (X ++ [93] ++ nestC j' = nestC D) := box (by rw [← hX.out, nestC, if_pos hpar]; simp)
            replace hpar := box hpar
            go_wp2_with (first | ((with_reducible refine lst (by with_unfolding_all rfl) (wp_fbsl T_u8 hF (vs := [bv 93]) (by with_unfolding_all rfl) (by with_unfolding_all rfl) (by with_unfolding_all rfl) (by decide) (by simp [bv, Value.cells]) ?_)); intro w2 g2 hF2 hz2; have hr2 : Rd w2 (· < w2.heap.size) (some ⟨g2, 0, none⟩) 1 1 ([93].map bv) := hF2.rdOwn0; replace hF2 : Fr _ _ w2 (Ent.bytes _ 5 (.slice (some ⟨g2, 0, none⟩) 1 1) [93] :: _) := hF2) | ((with_reducible refine lst (by with_unfolding_all rfl) (wp_fapp1 T_u8 hF2 (Nat.le_refl _) hr2 (by with_unfolding_all exact ⟨_, _, rfl, rfl, rfl⟩) (by omega) ?_)); intro v3 w3 hF3 hz3))
            go_roundg j'
            case rel => exact ⟨j', X ++ [93], by omega, box rfl, by go_num, hX2, by have := congrArg List.length hX2.out; simp [nestC_len] at this ⊢; omega, by have h3 := hF3.tail; rw [hY.out, List.append_assoc] at h3; exact h3⟩
            case measure => have := hk.out; omega
          · have p1 : (j' : Int) % 2 = 1 := by omega
            have hX2 : Box (X ++ [125] ++ nestC j' = nestC D) := box (by rw [← hX.out, nestC, if_neg hpar]; simp)
            replace hpar := box hpar
            go_wp2_with (first | ((with_reducible refine lst (by with_unfolding_all rfl) (wp_fbsl T_u8 hF (vs := [bv 125]) (by with_unfolding_all rfl) (by with_unfolding_all rfl) (by with_unfolding_all rfl) (by decide) (by simp [bv, Value.cells]) ?_)); intro w2 g2 hF2 hz2; have hr2 : Rd w2 (· < w2.heap.size) (some ⟨g2, 0, none⟩) 1 1 ([125].map bv) := hF2.rdOwn0; replace hF2 : Fr _ _ w2 (Ent.bytes _ 5 (.slice (some ⟨g2, 0, none⟩) 1 1) [125] :: _) := hF2) | ((with_reducible refine lst (by with_unfolding_all rfl) (wp_fapp1 T_u8 hF2 (Nat.le_refl _) hr2 (by with_unfolding_all exact ⟨_, _, rfl, rfl, rfl⟩) (by omega) ?_)); intro v3 w3 hF3 hz3))
            go_roundg j'
            case rel => exact ⟨j', X ++ [125], by omega, box rfl, by go_num, hX2, by have := congrArg List.length hX2.out; simp [nestC_len] at this ⊢; omega, by have h3 := hF3.tail; rw [hY.out, List.append_assoc] at h3; exact h3⟩
            case measure => have := hk.out; omega
end Go.Proofs.YtdekogmegdhjoaaDoor

namespace Go.Proofs.YtdekogmegdhjoaaDoor
open Go.RowKit Go.Lib

theorem cell_old {w w' : World} (hb : Below w.heap.size w w') {a : Addr} {v : Value} (h : w.cell? a = some v) : w'.cell? a = some v := by
  have hlt : a.block < w.heap.size := by
    rcases Nat.lt_or_ge a.block w.heap.size with h' | h'
    · exact h'
    · exfalso
      unfold World.cell? at h
      rw [Array.getElem?_eq_none h'] at h
      cases h
  rw [← h]
  exact World.cell?_of_block (w := w) (hb.block _ hlt)
theorem var_old {P : Program} {w w' : World} (hb : Below w.heap.size w w') {n : String} {cs : Array Value} (h : w.var? P n = some cs) : w'.var? P n = some cs := by
  unfold World.var? at *
  cases hg : P.globalNamed n with
  | none => simp [hg] at h
  | some g =>
    simp only [hg, Option.bind_some] at h ⊢
    have hlt : g < w.heap.size := by
      rcases Nat.lt_or_ge g w.heap.size with h' | h'
      · exact h'
      · rw [Array.getElem?_eq_none h'] at h; simp at h
    rw [hb.block g hlt]
    exact h
theorem laid_all (W : World) (h : laidMetH Tryd.prog Rows.jsonNestsUptoRow.laid W) : laidMet Tryd.prog Rows.jsonNestsUptoRow.laid W := by
  rwa [MakeChecks.laidMetH_plain _ _ _ (by kernel_rfl)] at h
theorem first_eq : Rows.laid_unicode_utf8_first = firstData := by kernel_rfl
theorem accept_eq : (Rows.laid_unicode_utf8_acceptRanges : DataW Unit) = acceptData := by kernel_rfl
theorem pow_eq : (Rows.laid_internal_strconv_uint64pow10 : DataW Unit) = tabData .u64 pow10Tab := by kernel_rfl
theorem star_errs : "*" ++ "errors.errorString" = "*errors.errorString" := by decide
theorem row_errs (u : TypeId) (h : Tryd.prog.typeName? 3 u = some "*errors.errorString") : u = 139 :=
  typeName_ptr_named (nm := "errors.errorString") (by rw [star_errs]; kernel_rfl) (by kernel_rfl) (by decide) u (by rw [star_errs]; exact h)
theorem libs_of (W : World) (h : laidMetH Tryd.prog Rows.jsonNestsUptoRow.laid W) : LibsAt W.heap.size W := by
  have hL := laid_all W h
  have hL2 : laidMet Tryd.prog [("math/bits.deBruijn32tab", Rows.laid_math_bits_deBruijn32tab), ("math/bits.deBruijn64tab", Rows.laid_math_bits_deBruijn64tab), ("internal/strconv.uint64pow10", Rows.laid_internal_strconv_uint64pow10), ("unicode/utf8.acceptRanges", Rows.laid_unicode_utf8_acceptRanges), ("strconv.ErrRange", Rows.laid_strconv_ErrRange), ("strconv.ErrSyntax", Rows.laid_strconv_ErrSyntax), ("unicode/utf8.first", Rows.laid_unicode_utf8_first)] W := hL
  rw [first_eq, accept_eq, pow_eq] at hL2
  have hU : U8Tabs W := utf8Tabs_of_readsT (U8Types.of196 Tryd.laysValid) ⟨by kernel_rfl, by kernel_rfl, by kernel_rfl, by kernel_rfl, by kernel_rfl, by kernel_rfl, by kernel_rfl⟩ (laidMet.reads hL2 (by simp)) (laidMet.reads hL2 (by simp))
  have hP : TabIs Tryd.prog W "internal/strconv.uint64pow10" .u64 pow10Tab := tabIs_of_head (g := 4) (by kernel_rfl) (by kernel_rfl) (t := 133) Tryd.underlying133 Tryd.underlying111 (by kernel_rfl) (by kernel_rfl) hL2.tail.tail
  obtain ⟨a1, s1, hv1, _⟩ := laid_sentinel (g := 3) hL2.tail.tail.tail.tail (by kernel_rfl) (by kernel_rfl) Tryd.underlying90 row_errs Tryd.underlying139 Tryd.underlying141 rfl rfl Tryd.underlying9 (by kernel_rfl) (by kernel_rfl)
  obtain ⟨a2, s2, hv2, _⟩ := laid_sentinel (g := 2) hL2.tail.tail.tail.tail.tail (by kernel_rfl) (by kernel_rfl) Tryd.underlying90 row_errs Tryd.underlying139 Tryd.underlying141 rfl rfl Tryd.underlying9 (by kernel_rfl) (by kernel_rfl)
  exact ⟨fun w' hb => ⟨fun c hc => cell_old hb (hU.1 c hc), fun i hi => ⟨cell_old hb (hU.2 i hi).1, cell_old hb (hU.2 i hi).2⟩⟩, tabBelow_of_tabIs hP, ⟨_, _, fun w' hb => var_old hb hv2⟩, ⟨_, _, fun w' hb => var_old hb hv1⟩⟩
end Go.Proofs.YtdekogmegdhjoaaDoor

namespace Go.Proofs.YtdekogmegdhjoaaDoor

theorem bulk_pos {H : Type} : ∀ d : DataW H, 1 ≤ Rows.uptoBulk d
  | .lit l => by cases l <;> simp [Rows.uptoBulk]
  | .nil => by simp [Rows.uptoBulk]
  | .ptr d => by simp [Rows.uptoBulk]
  | .slice e s => by simp [Rows.uptoBulk]
  | .agg p => by simp [Rows.uptoBulk]
  | .iface t d => by simp [Rows.uptoBulk]
  | .map e => by simp [Rows.uptoBulk]
  | .held h => by simp [Rows.uptoBulk]
theorem bulk_len {H : Type} : ∀ l : List (DataW H), l.length ≤ Rows.uptoBulkAll l
  | [] => Nat.zero_le _
  | d :: r => by have h1 := bulk_pos d; have h2 := bulk_len r; simp only [Rows.uptoBulkAll, List.length_cons]; omega
theorem bulk_cap {H : Type} (e s : List (DataW H)) : e.length + s.length + 1 ≤ Rows.uptoBulk (.slice e s) := by
  have h1 := bulk_len e
  have h2 := bulk_len s
  simp only [Rows.uptoBulk]; omega
end Go.Proofs.YtdekogmegdhjoaaDoor
