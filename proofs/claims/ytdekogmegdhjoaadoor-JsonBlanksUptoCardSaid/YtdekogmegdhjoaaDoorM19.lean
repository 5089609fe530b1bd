/-
  Layer 6: the law JsonBlanks, walked.
  Layer 6: the law JsonBlanks, at any byte.
  Layer 6 in plain words: lists and objects in one another; a list of many values.
-/
import Derived.Test.YtdekogmegdhjoaaDoorM16
import Derived.Test.YtdekogmegdhjoaaDoorM03
import Derived.Test.YtdekogmegdhjoaaDoorM18
import Derived.Test.YtdekogmegdhjoaaDoorM01
import Derived.Test.YtdekogmegdhjoaaDoorM06
namespace Go.Proofs.YtdekogmegdhjoaaDoor
open Go.RowKit
set_option linter.unusedSimpArgs false

mutual
theorem JGood.k0 {L : Nat} : ∀ (v : JV), JGood L v → JK0 v
  | .mk k n t ns ks, h => by rw [JGood] at h; rw [JK0]; exact ⟨h.1, JGoodL.k0 ks h.2.2.2.2.2.2.2.2.2.2⟩
theorem JGoodL.k0 {L : Nat} : ∀ (ks : List JV), JGoodL L ks → JK0L ks
  | [], _ => by rw [JK0L]; trivial
  | v :: vs, h => by rw [JGoodL] at h; rw [JK0L]; exact ⟨JGood.k0 v h.1, JGoodL.k0 vs h.2⟩
end
theorem blank_back {bl : UInt8} (hb : jBlank bl = true) {u : JV} (hw : jW u ≤ 1048576) {l : List UInt8} (h : jWrite u = (l, 0)) :
    l.foldl (wStep bl) ([bl], false, false) = ([bl] ++ jWide bl (jBare u), false, false) ∧ ((jWide bl (jBare u)).length ≤ 65500 → jParse ([bl] ++ jWide bl (jBare u) ++ [bl, 32]) = .ok (jBare u)) := by
  unfold jWrite at h
  split at h
  · injection h with h1 h2; cases h2
  · rename_i x hx
    split at h
    · injection h with h1 h2; cases h2
    · injection h with h1 h2
      have hr := jRight_bare 16 u 0 x hx
      have hf := jFull_bare 16 u 0 x hx
      have hg := good_bare 1048576 16 u 0 x hw hx
      refine ⟨?_, fun hl => jParse_wide hb hg hr hl⟩
      rw [← h1, ← hf]
      exact wFold_full _ _ (JGood.k0 _ hg)
theorem blank_at : ∀ n, n < 4 → ∃ bl, ([32, 9, 10, 13] : List UInt8)[n]? = some bl ∧ jBlank bl = true := by
  intro n hn
  match n, hn with
  | 0, _ => exact ⟨_, rfl, by decide⟩
  | 1, _ => exact ⟨_, rfl, by decide⟩
  | 2, _ => exact ⟨_, rfl, by decide⟩
  | 3, _ => exact ⟨_, rfl, by decide⟩
theorem u8_rem4 (y : UInt8) : (y.toNat : Int) % 4 = ((y.toNat % 4 : Nat) : Int) := by omega
theorem take_fold {bl : UInt8} {l : List UInt8} {j : Nat} {y : UInt8} {st st' : List UInt8 × Bool × Bool} {i0 : List UInt8 × Bool × Bool} (hy : l[j]? = some y) (h : (l.take j).foldl (wStep bl) i0 = st) (hs : wStep bl st y = st') : (l.take (j + 1)).foldl (wStep bl) i0 = st' := by
  rw [List.take_add_one, hy, Option.toList_some, List.foldl_append, h]
  exact hs
set_option maxRecDepth 20000 in
set_option maxHeartbeats 25600000 in
theorem jsonBlanks_any (v : JV) (cs : List Value) (ah : UInt8) (w : World) (hL : LibsAt w.heap.size w) (hv : VRd w (· < w.heap.size) v cs) (hw : jW v ≤ 1048576) (hji : JI v) :
    Calls Tryd.prog 9 #[.agg cs.toArray, .int .u8 (ah.toNat : Int)] w fun e w' => e = .returned (.bool true) ∧ Below w.heap.size w w' := by
  have hwu := box (Nat.le_trans (jW_cut 20 v 300) hw)
  have hcl := box hv.len
  have hco := box (VRd.one hv)
  have hsm := jW_sm v hw
  have hw1 := Nat.le_trans (jW_cut 20 v 300) hw
  have hsm1 := jW_sm _ hw1
  have htx1 := jW_tx _ hw1
  have htot1 := jTot_w (jCutN 20 v 300).1
  have hfl1 := jW_full _ (JI_cut 20 v 300 hji)
  have hdp := jCutN_dep 20 v 300
  have hct := jCut_dep (D := 20) (by decide) hdp
  obtain ⟨u, hu⟩ : ∃ u, u = (jCutN 20 v 300).1 := ⟨_, rfl⟩
  rw [← hu] at hsm1 hdp hct htx1 hw1 htot1 hfl1
  have htot : jTot u ≤ 10000000 := by omega
  have hfl : 6 * (jFull u).length ≤ 140737480000000 := by omega
  clear htot1 hfl1 hw1
  replace hct := box hct
  replace hu := box hu
  replace hw := box hw
  replace hdp := box hdp
  replace hfl := box hfl
  replace htot := box htot
  replace hji := box hji
  have hF0 := Fr.nil w
  go_enter Tryd.func9, Tryd.ntmps9
  go_upto_region 2 with (first | ((with_reducible refine lst (by with_unfolding_all rfl) (wp_fbox hF0 (cs := cs) rfl (by with_unfolding_all rfl) (by with_unfolding_all rfl) ?_)); intro w1 g1 hF1 hz1) | ((with_reducible refine lst (by with_unfolding_all rfl) (wp_falloc hF1 (cs := [(.int .i64 0)]) (z := (.int .i64 0)) rfl (by kernel_rfl) (by with_unfolding_all rfl) ?_)); intro w2 g2 hF2 hz2) | ((with_reducible refine lst (by with_unfolding_all rfl) (wp_fst0 hF2 (by with_unfolding_all exact ⟨_, _, rfl, rfl, rfl⟩) (by kernel_rfl) rfl rfl (by first | decide | (simp; done) | (simp; omega)) (spl1' _ (.int .i64 ((300 : Nat) : Int))) ?_)); intro w3 hF3 hz3))
  have hg2 := fr_new hF3 rfl
  have hcu := box (cut_any 20 v cs w3 g2 300 w.heap.size (by decide) (by decide) (hv.onG hF3.below) hsm hg2 hF3.size (hF3.blk (i := 0) rfl))
  go_wp2_with (first | (with_reducible refine lst (by with_unfolding_all rfl) (wp_fldA1 hF3 Tryd.underlying33 rfl (by with_unfolding_all exact ⟨_, rfl, rfl⟩) (ds := cs) (by rw [hcl.out]; kernel_rfl) (take_all _) ?_)))
  refine hcu.out.mono ?_
  rintro e w4 ⟨cs1, es1, rfl, hvc, h4⟩
  have hF4 := hF3.putG (i := 0) rfl h4
  simp only [List.set_cons_zero, List.cons_append, List.nil_append] at hF4
  have hvc1 := hvc.keep (w' := w) (fun k hk => (hF3.below.block k hk).symm)
  rw [← hu.out] at hvc1
  have hvl1 := box hvc.len
  have hvo1 := box hvc.one
  replace hvc1 := box hvc1
  clear hcu h4 hvc hF0 hF1 hF2 hF3
  go_upto_region 3 with (first | ((with_reducible refine lst (by with_unfolding_all rfl) (wp_fstA1 hF4 (by with_unfolding_all exact ⟨_, _, rfl, rfl, rfl⟩) (by rw [hvl1.out]; kernel_rfl) hvo1.out (by rw [hvl1.out, hcl.out]; decide) (spl_all (by rw [hvl1.out, hcl.out])) ?_)); intro w5 hF5 hz5))
  have hrd5 := hvc1.out.rdF hF5 hF5.size hF5.below (by intro e he; simp [he])
  have hto := box (to_any 20 u cs1 w5 (by decide) hrd5 hsm1)
  go_wp2_with (first | (with_reducible refine lst (by with_unfolding_all rfl) (wp_fldA1 hF5 Tryd.underlying33 rfl (by with_unfolding_all exact ⟨_, rfl, rfl⟩) (ds := cs1) (by rw [hvl1.out]; kernel_rfl) (take_all _) ?_)))
  refine hto.out.mono ?_
  rintro e w6 ⟨cs2, es2, rfl, hvt2, h6⟩
  rw [hct.out] at hvt2
  have hF6 := hF5.joinR h6
  simp only [List.cons_append] at hF6
  have hb6 := hF6.below
  have hL6 := (hL.on hb6).up hb6.size
  have hv1 := hvc1.out.rdF hF6 hF6.size hF6.below (by intro e he; simp [he])
  have hv2 := hvt2.rdF hF6 (by intro e he; simp [he])
  have hr1 : Rd w6 (· < w6.heap.size) (some ⟨g1, 0, none⟩) 1 5 cs1 := hF6.rdBlk (i := 1) rfl hvl1.out (by rw [List.drop_zero, ← hvl1.out, List.take_length])
  clear hto h6 hF4 hF5 hF6 hvt2 hrd5 hL hvc1
  have hG6 := Fr.nil w6
  have hwr := box (write_F hG6 hL6 (Nat.le_refl _) hv2 hsm1 htx1 hfl.out)
  go_wp2_with fail
  refine hwr.out.mono ?_
  rintro e w7 ⟨A7, n7, c7, rfl, hn7, hc7, hG7⟩
  clear hwr hG6 hv2
  have hcc1 : (cs1.drop 0).take cs1.length = cs1 := by rw [List.drop_zero, List.take_length]
  replace hcc1 := box hcc1

  rw [← hu.out] at hwu
  obtain ⟨⟨l, f⟩, hR⟩ : ∃ R, R = jWrite u := ⟨_, rfl⟩
  rw [← hR] at hn7 hG7
  rw [← hR]
  simp only [] at hn7 hG7
  obtain ⟨hln, hf0, hf8⟩ := jWrite_len hR.symm
  have hn65 : n7 ≤ 65536 := by omega
  replace hn7 := box hn7
  replace hR := box hR
  clear hln hf0
  go_upto_region 4 with fail
  have haw := box (awake_any w7 w6.heap.size hG7.below.size (hL6.on hG7.below))
  by_cases hf : f = 0 ∧ n7 ≤ 3000
  · obtain ⟨hf, hn3⟩ := hf
    subst hf
    have d1 : decide ((3000 : Int) < (n7 : Int)) = false := decide_eq_false (by omega)
    obtain ⟨bl, hbl, hblk⟩ := blank_at (ah.toNat % 4) (by omega)
    obtain ⟨hpl, hgd, hcb⟩ := jBack hwu.out hR.out.symm
    obtain ⟨hfo, hpw⟩ := blank_back hblk hwu.out hR.out.symm
    have hbs := hgd.sm _
    obtain ⟨bu, hbu⟩ : ∃ b, b = jBare u := ⟨_, rfl⟩
    rw [← hbu] at hcb hbs hfo hpw
    have hj4 := box (u8_rem4 ah)
    replace hbl := box hbl
    replace hgd := box hgd
    replace hcb := box hcb
    replace hfo := box hfo
    replace hpw := box hpw
    replace hblk := box hblk
    clear hpl hf8
    go_wp2_with fail
    refine haw.out.mono ?_
    rintro e w8 ⟨rfl, hb8⟩
    have hG8 := hG7.call hb8
    clear haw hb8 hG7
    go_wp2_with (first | ((with_reducible refine lst (by with_unfolding_all rfl) (wp_sidx Tryd.underlying9 (k := ah.toNat % 4) (by first | exact hj4.out | omega) hbl.out (by with_unfolding_all exact ⟨_, _, _, rfl, rfl, rfl⟩) ?_))) | ((with_reducible refine lst (by with_unfolding_all rfl) (wp_fbsl T_u8 hG8 (vs := [bv bl]) (by with_unfolding_all rfl) (by with_unfolding_all rfl) (by with_unfolding_all rfl) (by decide) (by simp [bv, Value.cells]) ?_)); intro w9 g9 hF9 hz9; have hr9 : Rd w9 (· < w9.heap.size) (some ⟨g9, 0, none⟩) 1 1 ([bl].map bv) := hF9.rdOwn0; replace hF9 : Fr _ _ w9 (Ent.bytes _ 5 (.slice (some ⟨g9, 0, none⟩) 1 1) [bl] :: _) := hF9))
    go_loopg [9, 10, 11, 44] n7 (fun gk v q e i wr => ∃ (j : Nat) (o : List UInt8) (qq ee : Bool), j ≤ n7 ∧ Box (gk = n7 - j) ∧ q = .bool qq ∧ e = .bool ee ∧ i = .int .i64 (j : Int) ∧ Box ((l.take j).foldl (wStep bl) ([bl], false, false) = (o, qq, ee)) ∧ o.length ≤ 1 + 3 * j ∧ Fr [] w6 wr [Ent.bytes w6.heap.size 5 v o, .rd A7 1 n7 (l.map bv)])
    case atStart => exact ⟨0, [bl], false, false, by omega, box rfl, rfl, rfl, rfl, box rfl, by simp, hF9⟩
    case round =>
      clear hF9 hG8
      obtain ⟨j, o, qq, ee, hj, hk, rfl, rfl, rfl, hst, hol, hF⟩ := hrel
      have hkf : Box (gk = n7 - j) := hk
      clear hk
      obtain ⟨Ao, co, rfl, hco, hro⟩ := (hF.own (i := 0) rfl).arg
      have hr7 := hF.rd (i := 1) rfl
      by_cases hlt : j < n7
      · obtain ⟨y, hy'⟩ : ∃ y, l[j]? = some y := ⟨l[j]'(by have := hn7.out; omega), by simp⟩
        have hy := box hy'
        have hyb := y.toNat_lt
        have htf := fun st' (h : wStep bl (o, qq, ee) y = st') => take_fold hy' hst.out h
        clear hy' hst
        replace htf := box htf
        cases qq with
        | true =>
          cases ee with
          | true =>
            by_cases h34 : y = 34
            · subst h34
              go_wp2_with (first | (with_reducible refine lst (by with_unfolding_all rfl) (wp_indexAddr T_u8 hr7 (by with_unfolding_all exact ⟨_, _, _, _, rfl, rfl, rfl⟩) (by omega) (by omega) ?_)) | (with_reducible refine lst (by with_unfolding_all rfl) (wp_loadC hr7 hy Tryd.underlying5 rfl (by with_unfolding_all exact ⟨_, rfl, rfl⟩) (by first | (simp; done) | (simp; omega) | omega) ?_)) | ((with_reducible refine lst (by with_unfolding_all rfl) (wp_fbsl T_u8 hF (vs := [bv 34]) (by with_unfolding_all rfl) (by with_unfolding_all rfl) (by with_unfolding_all rfl) (by decide) (by simp [bv, Value.cells]) ?_)); intro w10 g10 hF10 hz10; have hr10 : Rd w10 (· < w10.heap.size) (some ⟨g10, 0, none⟩) 1 1 ([34].map bv) := hF10.rdOwn0; replace hF10 : Fr _ _ w10 (Ent.bytes _ 5 (.slice (some ⟨g10, 0, none⟩) 1 1) [34] :: _) := hF10) | ((with_reducible refine lst (by with_unfolding_all rfl) (wp_fapp1 T_u8 hF10 (Nat.le_refl _) hr10 (by with_unfolding_all exact ⟨_, _, rfl, rfl, rfl⟩) (by omega) ?_)); intro v11 w11 hF11 hz11))
              go_roundg (n7 - (j + 1))
              case rel => exact ⟨j + 1, o ++ [34], true, false, by omega, box rfl, rfl, rfl, by go_num, box (htf.out _ (by simp [wStep, jSgn])), by simp only [List.length_append, List.length_cons, List.length_nil]; omega, hF11.tail⟩
              case measure => have := hkf.out; omega
            have n34 : ((y.toNat : Int) == 34) = false := u8_ne h34
            by_cases h92 : y = 92
            · subst h92
              go_wp2_with (first | (with_reducible refine lst (by with_unfolding_all rfl) (wp_indexAddr T_u8 hr7 (by with_unfolding_all exact ⟨_, _, _, _, rfl, rfl, rfl⟩) (by omega) (by omega) ?_)) | (with_reducible refine lst (by with_unfolding_all rfl) (wp_loadC hr7 hy Tryd.underlying5 rfl (by with_unfolding_all exact ⟨_, rfl, rfl⟩) (by first | (simp; done) | (simp; omega) | omega) ?_)) | ((with_reducible refine lst (by with_unfolding_all rfl) (wp_fbsl T_u8 hF (vs := [bv 92]) (by with_unfolding_all rfl) (by with_unfolding_all rfl) (by with_unfolding_all rfl) (by decide) (by simp [bv, Value.cells]) ?_)); intro w10 g10 hF10 hz10; have hr10 : Rd w10 (· < w10.heap.size) (some ⟨g10, 0, none⟩) 1 1 ([92].map bv) := hF10.rdOwn0; replace hF10 : Fr _ _ w10 (Ent.bytes _ 5 (.slice (some ⟨g10, 0, none⟩) 1 1) [92] :: _) := hF10) | ((with_reducible refine lst (by with_unfolding_all rfl) (wp_fapp1 T_u8 hF10 (Nat.le_refl _) hr10 (by with_unfolding_all exact ⟨_, _, rfl, rfl, rfl⟩) (by omega) ?_)); intro v11 w11 hF11 hz11))
              go_roundg (n7 - (j + 1))
              case rel => exact ⟨j + 1, o ++ [92], true, false, by omega, box rfl, rfl, rfl, by go_num, box (htf.out _ (by simp [wStep, jSgn])), by simp only [List.length_append, List.length_cons, List.length_nil]; omega, hF11.tail⟩
              case measure => have := hkf.out; omega
            have n92 : ((y.toNat : Int) == 92) = false := u8_ne h92
            have hws : Box (wStep bl (o, true, true) y = (o ++ [y], true, false)) := box (by simp [wStep, jSgn, h34, h92])
            clear h34 h92
            go_wp2_with (first | (with_reducible refine lst (by with_unfolding_all rfl) (wp_indexAddr T_u8 hr7 (by with_unfolding_all exact ⟨_, _, _, _, rfl, rfl, rfl⟩) (by omega) (by omega) ?_)) | (with_reducible refine lst (by with_unfolding_all rfl) (wp_loadC hr7 hy Tryd.underlying5 rfl (by with_unfolding_all exact ⟨_, rfl, rfl⟩) (by first | (simp; done) | (simp; omega) | omega) ?_)) | ((with_reducible refine lst (by with_unfolding_all rfl) (wp_fbsl T_u8 hF (vs := [bv y]) (by with_unfolding_all rfl) (by with_unfolding_all rfl) (by with_unfolding_all rfl) (by decide) (by simp [bv, Value.cells]) ?_)); intro w10 g10 hF10 hz10; have hr10 : Rd w10 (· < w10.heap.size) (some ⟨g10, 0, none⟩) 1 1 ([y].map bv) := hF10.rdOwn0; replace hF10 : Fr _ _ w10 (Ent.bytes _ 5 (.slice (some ⟨g10, 0, none⟩) 1 1) [y] :: _) := hF10) | ((with_reducible refine lst (by with_unfolding_all rfl) (wp_fapp1 T_u8 hF10 (Nat.le_refl _) hr10 (by with_unfolding_all exact ⟨_, _, rfl, rfl, rfl⟩) (by omega) ?_)); intro v11 w11 hF11 hz11))
            go_roundg (n7 - (j + 1))
            case rel => exact ⟨j + 1, o ++ [y], true, false, by omega, box rfl, rfl, rfl, by go_num, box (htf.out _ hws.out), by simp only [List.length_append, List.length_cons, List.length_nil]; omega, hF11.tail⟩
            case measure => have := hkf.out; omega
          | false =>
            by_cases h34 : y = 34
            · subst h34
              go_wp2_with (first | (with_reducible refine lst (by with_unfolding_all rfl) (wp_indexAddr T_u8 hr7 (by with_unfolding_all exact ⟨_, _, _, _, rfl, rfl, rfl⟩) (by omega) (by omega) ?_)) | (with_reducible refine lst (by with_unfolding_all rfl) (wp_loadC hr7 hy Tryd.underlying5 rfl (by with_unfolding_all exact ⟨_, rfl, rfl⟩) (by first | (simp; done) | (simp; omega) | omega) ?_)) | ((with_reducible refine lst (by with_unfolding_all rfl) (wp_fbsl T_u8 hF (vs := [bv 34]) (by with_unfolding_all rfl) (by with_unfolding_all rfl) (by with_unfolding_all rfl) (by decide) (by simp [bv, Value.cells]) ?_)); intro w10 g10 hF10 hz10; have hr10 : Rd w10 (· < w10.heap.size) (some ⟨g10, 0, none⟩) 1 1 ([34].map bv) := hF10.rdOwn0; replace hF10 : Fr _ _ w10 (Ent.bytes _ 5 (.slice (some ⟨g10, 0, none⟩) 1 1) [34] :: _) := hF10) | ((with_reducible refine lst (by with_unfolding_all rfl) (wp_fapp1 T_u8 hF10 (Nat.le_refl _) hr10 (by with_unfolding_all exact ⟨_, _, rfl, rfl, rfl⟩) (by omega) ?_)); intro v11 w11 hF11 hz11))
              go_roundg (n7 - (j + 1))
              case rel => exact ⟨j + 1, o ++ [34], false, false, by omega, box rfl, rfl, rfl, by go_num, box (htf.out _ (by simp [wStep, jSgn])), by simp only [List.length_append, List.length_cons, List.length_nil]; omega, hF11.tail⟩
              case measure => have := hkf.out; omega
            have n34 : ((y.toNat : Int) == 34) = false := u8_ne h34
            by_cases h92 : y = 92
            · subst h92
              go_wp2_with (first | (with_reducible refine lst (by with_unfolding_all rfl) (wp_indexAddr T_u8 hr7 (by with_unfolding_all exact ⟨_, _, _, _, rfl, rfl, rfl⟩) (by omega) (by omega) ?_)) | (with_reducible refine lst (by with_unfolding_all rfl) (wp_loadC hr7 hy Tryd.underlying5 rfl (by with_unfolding_all exact ⟨_, rfl, rfl⟩) (by first | (simp; done) | (simp; omega) | omega) ?_)) | ((with_reducible refine lst (by with_unfolding_all rfl) (wp_fbsl T_u8 hF (vs := [bv 92]) (by with_unfolding_all rfl) (by with_unfolding_all rfl) (by with_unfolding_all rfl) (by decide) (by simp [bv, Value.cells]) ?_)); intro w10 g10 hF10 hz10; have hr10 : Rd w10 (· < w10.heap.size) (some ⟨g10, 0, none⟩) 1 1 ([92].map bv) := hF10.rdOwn0; replace hF10 : Fr _ _ w10 (Ent.bytes _ 5 (.slice (some ⟨g10, 0, none⟩) 1 1) [92] :: _) := hF10) | ((with_reducible refine lst (by with_unfolding_all rfl) (wp_fapp1 T_u8 hF10 (Nat.le_refl _) hr10 (by with_unfolding_all exact ⟨_, _, rfl, rfl, rfl⟩) (by omega) ?_)); intro v11 w11 hF11 hz11))
              go_roundg (n7 - (j + 1))
              case rel => exact ⟨j + 1, o ++ [92], true, true, by omega, box rfl, rfl, rfl, by go_num, box (htf.out _ (by simp [wStep, jSgn])), by simp only [List.length_append, List.length_cons, List.length_nil]; omega, hF11.tail⟩
              case measure => have := hkf.out; omega
            have n92 : ((y.toNat : Int) == 92) = false := u8_ne h92
            have hws : Box (wStep bl (o, true, false) y = (o ++ [y], true, false)) := box (by simp [wStep, jSgn, h34, h92])
            clear h34 h92
            go_wp2_with (first | (with_reducible refine lst (by with_unfolding_all rfl) (wp_indexAddr T_u8 hr7 (by with_unfolding_all exact ⟨_, _, _, _, rfl, rfl, rfl⟩) (by omega) (by omega) ?_)) | (with_reducible refine lst (by with_unfolding_all rfl) (wp_loadC hr7 hy Tryd.underlying5 rfl (by with_unfolding_all exact ⟨_, rfl, rfl⟩) (by first | (simp; done) | (simp; omega) | omega) ?_)) | ((with_reducible refine lst (by with_unfolding_all rfl) (wp_fbsl T_u8 hF (vs := [bv y]) (by with_unfolding_all rfl) (by with_unfolding_all rfl) (by with_unfolding_all rfl) (by decide) (by simp [bv, Value.cells]) ?_)); intro w10 g10 hF10 hz10; have hr10 : Rd w10 (· < w10.heap.size) (some ⟨g10, 0, none⟩) 1 1 ([y].map bv) := hF10.rdOwn0; replace hF10 : Fr _ _ w10 (Ent.bytes _ 5 (.slice (some ⟨g10, 0, none⟩) 1 1) [y] :: _) := hF10) | ((with_reducible refine lst (by with_unfolding_all rfl) (wp_fapp1 T_u8 hF10 (Nat.le_refl _) hr10 (by with_unfolding_all exact ⟨_, _, rfl, rfl, rfl⟩) (by omega) ?_)); intro v11 w11 hF11 hz11))
            go_roundg (n7 - (j + 1))
            case rel => exact ⟨j + 1, o ++ [y], true, false, by omega, box rfl, rfl, rfl, by go_num, box (htf.out _ hws.out), by simp only [List.length_append, List.length_cons, List.length_nil]; omega, hF11.tail⟩
            case measure => have := hkf.out; omega
        | false =>
          cases ee with
          | true =>
            by_cases h91 : y = 91
            · subst h91
              go_wp2_with (first | (with_reducible refine lst (by with_unfolding_all rfl) (wp_indexAddr T_u8 hr7 (by with_unfolding_all exact ⟨_, _, _, _, rfl, rfl, rfl⟩) (by omega) (by omega) ?_)) | (with_reducible refine lst (by with_unfolding_all rfl) (wp_loadC hr7 hy Tryd.underlying5 rfl (by with_unfolding_all exact ⟨_, rfl, rfl⟩) (by first | (simp; done) | (simp; omega) | omega) ?_)) | ((with_reducible refine lst (by with_unfolding_all rfl) (wp_fbsl T_u8 hF (vs := [bv bl, bv 91, bv bl]) (by with_unfolding_all rfl) (by with_unfolding_all rfl) (by with_unfolding_all rfl) (by decide) (by simp [bv, Value.cells]) ?_)); intro w10 g10 hF10 hz10; have hr10 : Rd w10 (· < w10.heap.size) (some ⟨g10, 0, none⟩) 1 3 (([bl,91,bl] : List UInt8).map bv) := hF10.rdOwn (i := 0) rfl) | ((with_reducible refine lst (by with_unfolding_all rfl) (wp_fapp1 T_u8 hF10 (Nat.le_refl _) hr10 (by with_unfolding_all exact ⟨_, _, rfl, rfl, rfl⟩) (by omega) ?_)); intro v11 w11 hF11 hz11))
              go_roundg (n7 - (j + 1))
              case rel => exact ⟨j + 1, o ++ [bl, 91, bl], false, true, by omega, box rfl, rfl, rfl, by go_num, box (htf.out _ (by simp [wStep, jSgn])), by simp only [List.length_append, List.length_cons, List.length_nil]; omega, hF11.tail⟩
              case measure => have := hkf.out; omega
            have n91 : ((y.toNat : Int) == 91) = false := u8_ne h91
            by_cases h93 : y = 93
            · subst h93
              go_wp2_with (first | (with_reducible refine lst (by with_unfolding_all rfl) (wp_indexAddr T_u8 hr7 (by with_unfolding_all exact ⟨_, _, _, _, rfl, rfl, rfl⟩) (by omega) (by omega) ?_)) | (with_reducible refine lst (by with_unfolding_all rfl) (wp_loadC hr7 hy Tryd.underlying5 rfl (by with_unfolding_all exact ⟨_, rfl, rfl⟩) (by first | (simp; done) | (simp; omega) | omega) ?_)) | ((with_reducible refine lst (by with_unfolding_all rfl) (wp_fbsl T_u8 hF (vs := [bv bl, bv 93, bv bl]) (by with_unfolding_all rfl) (by with_unfolding_all rfl) (by with_unfolding_all rfl) (by decide) (by simp [bv, Value.cells]) ?_)); intro w10 g10 hF10 hz10; have hr10 : Rd w10 (· < w10.heap.size) (some ⟨g10, 0, none⟩) 1 3 (([bl,93,bl] : List UInt8).map bv) := hF10.rdOwn (i := 0) rfl) | ((with_reducible refine lst (by with_unfolding_all rfl) (wp_fapp1 T_u8 hF10 (Nat.le_refl _) hr10 (by with_unfolding_all exact ⟨_, _, rfl, rfl, rfl⟩) (by omega) ?_)); intro v11 w11 hF11 hz11))
              go_roundg (n7 - (j + 1))
              case rel => exact ⟨j + 1, o ++ [bl, 93, bl], false, true, by omega, box rfl, rfl, rfl, by go_num, box (htf.out _ (by simp [wStep, jSgn])), by simp only [List.length_append, List.length_cons, List.length_nil]; omega, hF11.tail⟩
              case measure => have := hkf.out; omega
            have n93 : ((y.toNat : Int) == 93) = false := u8_ne h93
            by_cases h123 : y = 123
            · subst h123
              go_wp2_with (first | (with_reducible refine lst (by with_unfolding_all rfl) (wp_indexAddr T_u8 hr7 (by with_unfolding_all exact ⟨_, _, _, _, rfl, rfl, rfl⟩) (by omega) (by omega) ?_)) | (with_reducible refine lst (by with_unfolding_all rfl) (wp_loadC hr7 hy Tryd.underlying5 rfl (by with_unfolding_all exact ⟨_, rfl, rfl⟩) (by first | (simp; done) | (simp; omega) | omega) ?_)) | ((with_reducible refine lst (by with_unfolding_all rfl) (wp_fbsl T_u8 hF (vs := [bv bl, bv 123, bv bl]) (by with_unfolding_all rfl) (by with_unfolding_all rfl) (by with_unfolding_all rfl) (by decide) (by simp [bv, Value.cells]) ?_)); intro w10 g10 hF10 hz10; have hr10 : Rd w10 (· < w10.heap.size) (some ⟨g10, 0, none⟩) 1 3 (([bl,123,bl] : List UInt8).map bv) := hF10.rdOwn (i := 0) rfl) | ((with_reducible refine lst (by with_unfolding_all rfl) (wp_fapp1 T_u8 hF10 (Nat.le_refl _) hr10 (by with_unfolding_all exact ⟨_, _, rfl, rfl, rfl⟩) (by omega) ?_)); intro v11 w11 hF11 hz11))
              go_roundg (n7 - (j + 1))
              case rel => exact ⟨j + 1, o ++ [bl, 123, bl], false, true, by omega, box rfl, rfl, rfl, by go_num, box (htf.out _ (by simp [wStep, jSgn])), by simp only [List.length_append, List.length_cons, List.length_nil]; omega, hF11.tail⟩
              case measure => have := hkf.out; omega
            have n123 : ((y.toNat : Int) == 123) = false := u8_ne h123
            by_cases h125 : y = 125
            · subst h125
              go_wp2_with (first | (with_reducible refine lst (by with_unfolding_all rfl) (wp_indexAddr T_u8 hr7 (by with_unfolding_all exact ⟨_, _, _, _, rfl, rfl, rfl⟩) (by omega) (by omega) ?_)) | (with_reducible refine lst (by with_unfolding_all rfl) (wp_loadC hr7 hy Tryd.underlying5 rfl (by with_unfolding_all exact ⟨_, rfl, rfl⟩) (by first | (simp; done) | (simp; omega) | omega) ?_)) | ((with_reducible refine lst (by with_unfolding_all rfl) (wp_fbsl T_u8 hF (vs := [bv bl, bv 125, bv bl]) (by with_unfolding_all rfl) (by with_unfolding_all rfl) (by with_unfolding_all rfl) (by decide) (by simp [bv, Value.cells]) ?_)); intro w10 g10 hF10 hz10; have hr10 : Rd w10 (· < w10.heap.size) (some ⟨g10, 0, none⟩) 1 3 (([bl,125,bl] : List UInt8).map bv) := hF10.rdOwn (i := 0) rfl) | ((with_reducible refine lst (by with_unfolding_all rfl) (wp_fapp1 T_u8 hF10 (Nat.le_refl _) hr10 (by with_unfolding_all exact ⟨_, _, rfl, rfl, rfl⟩) (by omega) ?_)); intro v11 w11 hF11 hz11))
              go_roundg (n7 - (j + 1))
              case rel => exact ⟨j + 1, o ++ [bl, 125, bl], false, true, by omega, box rfl, rfl, rfl, by go_num, box (htf.out _ (by simp [wStep, jSgn])), by simp only [List.length_append, List.length_cons, List.length_nil]; omega, hF11.tail⟩
              case measure => have := hkf.out; omega
            have n125 : ((y.toNat : Int) == 125) = false := u8_ne h125
            by_cases h44 : y = 44
            · subst h44
              go_wp2_with (first | (with_reducible refine lst (by with_unfolding_all rfl) (wp_indexAddr T_u8 hr7 (by with_unfolding_all exact ⟨_, _, _, _, rfl, rfl, rfl⟩) (by omega) (by omega) ?_)) | (with_reducible refine lst (by with_unfolding_all rfl) (wp_loadC hr7 hy Tryd.underlying5 rfl (by with_unfolding_all exact ⟨_, rfl, rfl⟩) (by first | (simp; done) | (simp; omega) | omega) ?_)) | ((with_reducible refine lst (by with_unfolding_all rfl) (wp_fbsl T_u8 hF (vs := [bv bl, bv 44, bv bl]) (by with_unfolding_all rfl) (by with_unfolding_all rfl) (by with_unfolding_all rfl) (by decide) (by simp [bv, Value.cells]) ?_)); intro w10 g10 hF10 hz10; have hr10 : Rd w10 (· < w10.heap.size) (some ⟨g10, 0, none⟩) 1 3 (([bl,44,bl] : List UInt8).map bv) := hF10.rdOwn (i := 0) rfl) | ((with_reducible refine lst (by with_unfolding_all rfl) (wp_fapp1 T_u8 hF10 (Nat.le_refl _) hr10 (by with_unfolding_all exact ⟨_, _, rfl, rfl, rfl⟩) (by omega) ?_)); intro v11 w11 hF11 hz11))
              go_roundg (n7 - (j + 1))
              case rel => exact ⟨j + 1, o ++ [bl, 44, bl], false, true, by omega, box rfl, rfl, rfl, by go_num, box (htf.out _ (by simp [wStep, jSgn])), by simp only [List.length_append, List.length_cons, List.length_nil]; omega, hF11.tail⟩
              case measure => have := hkf.out; omega
            have n44 : ((y.toNat : Int) == 44) = false := u8_ne h44
            by_cases h58 : y = 58
            · subst h58
              go_wp2_with (first | (with_reducible refine lst (by with_unfolding_all rfl) (wp_indexAddr T_u8 hr7 (by with_unfolding_all exact ⟨_, _, _, _, rfl, rfl, rfl⟩) (by omega) (by omega) ?_)) | (with_reducible refine lst (by with_unfolding_all rfl) (wp_loadC hr7 hy Tryd.underlying5 rfl (by with_unfolding_all exact ⟨_, rfl, rfl⟩) (by first | (simp; done) | (simp; omega) | omega) ?_)) | ((with_reducible refine lst (by with_unfolding_all rfl) (wp_fbsl T_u8 hF (vs := [bv bl, bv 58, bv bl]) (by with_unfolding_all rfl) (by with_unfolding_all rfl) (by with_unfolding_all rfl) (by decide) (by simp [bv, Value.cells]) ?_)); intro w10 g10 hF10 hz10; have hr10 : Rd w10 (· < w10.heap.size) (some ⟨g10, 0, none⟩) 1 3 (([bl,58,bl] : List UInt8).map bv) := hF10.rdOwn (i := 0) rfl) | ((with_reducible refine lst (by with_unfolding_all rfl) (wp_fapp1 T_u8 hF10 (Nat.le_refl _) hr10 (by with_unfolding_all exact ⟨_, _, rfl, rfl, rfl⟩) (by omega) ?_)); intro v11 w11 hF11 hz11))
              go_roundg (n7 - (j + 1))
              case rel => exact ⟨j + 1, o ++ [bl, 58, bl], false, true, by omega, box rfl, rfl, rfl, by go_num, box (htf.out _ (by simp [wStep, jSgn])), by simp only [List.length_append, List.length_cons, List.length_nil]; omega, hF11.tail⟩
              case measure => have := hkf.out; omega
            have n58 : ((y.toNat : Int) == 58) = false := u8_ne h58
            by_cases h34 : y = 34
            · subst h34
              clear h91 n91 h93 n93 h123 n123 h125 n125 h44 n44 h58 n58
              go_wp2_with (first | (with_reducible refine lst (by with_unfolding_all rfl) (wp_indexAddr T_u8 hr7 (by with_unfolding_all exact ⟨_, _, _, _, rfl, rfl, rfl⟩) (by omega) (by omega) ?_)) | (with_reducible refine lst (by with_unfolding_all rfl) (wp_loadC hr7 hy Tryd.underlying5 rfl (by with_unfolding_all exact ⟨_, rfl, rfl⟩) (by first | (simp; done) | (simp; omega) | omega) ?_)) | ((with_reducible refine lst (by with_unfolding_all rfl) (wp_fbsl T_u8 hF (vs := [bv 34]) (by with_unfolding_all rfl) (by with_unfolding_all rfl) (by with_unfolding_all rfl) (by decide) (by simp [bv, Value.cells]) ?_)); intro w10 g10 hF10 hz10; have hr10 : Rd w10 (· < w10.heap.size) (some ⟨g10, 0, none⟩) 1 1 ([34].map bv) := hF10.rdOwn0; replace hF10 : Fr _ _ w10 (Ent.bytes _ 5 (.slice (some ⟨g10, 0, none⟩) 1 1) [34] :: _) := hF10) | ((with_reducible refine lst (by with_unfolding_all rfl) (wp_fapp1 T_u8 hF10 (Nat.le_refl _) hr10 (by with_unfolding_all exact ⟨_, _, rfl, rfl, rfl⟩) (by omega) ?_)); intro v11 w11 hF11 hz11))
              go_roundg (n7 - (j + 1))
              case rel => exact ⟨j + 1, o ++ [34], false, false, by omega, box rfl, rfl, rfl, by go_num, box (htf.out _ (by simp [wStep, jSgn])), by simp only [List.length_append, List.length_cons, List.length_nil]; omega, hF11.tail⟩
              case measure => have := hkf.out; omega
            have n34 : ((y.toNat : Int) == 34) = false := u8_ne h34
            by_cases h92 : y = 92
            · subst h92
              clear h91 n91 h93 n93 h123 n123 h125 n125 h44 n44 h58 n58
              go_wp2_with (first | (with_reducible refine lst (by with_unfolding_all rfl) (wp_indexAddr T_u8 hr7 (by with_unfolding_all exact ⟨_, _, _, _, rfl, rfl, rfl⟩) (by omega) (by omega) ?_)) | (with_reducible refine lst (by with_unfolding_all rfl) (wp_loadC hr7 hy Tryd.underlying5 rfl (by with_unfolding_all exact ⟨_, rfl, rfl⟩) (by first | (simp; done) | (simp; omega) | omega) ?_)) | ((with_reducible refine lst (by with_unfolding_all rfl) (wp_fbsl T_u8 hF (vs := [bv 92]) (by with_unfolding_all rfl) (by with_unfolding_all rfl) (by with_unfolding_all rfl) (by decide) (by simp [bv, Value.cells]) ?_)); intro w10 g10 hF10 hz10; have hr10 : Rd w10 (· < w10.heap.size) (some ⟨g10, 0, none⟩) 1 1 ([92].map bv) := hF10.rdOwn0; replace hF10 : Fr _ _ w10 (Ent.bytes _ 5 (.slice (some ⟨g10, 0, none⟩) 1 1) [92] :: _) := hF10) | ((with_reducible refine lst (by with_unfolding_all rfl) (wp_fapp1 T_u8 hF10 (Nat.le_refl _) hr10 (by with_unfolding_all exact ⟨_, _, rfl, rfl, rfl⟩) (by omega) ?_)); intro v11 w11 hF11 hz11))
              go_roundg (n7 - (j + 1))
              case rel => exact ⟨j + 1, o ++ [92], false, false, by omega, box rfl, rfl, rfl, by go_num, box (htf.out _ (by simp [wStep, jSgn])), by simp only [List.length_append, List.length_cons, List.length_nil]; omega, hF11.tail⟩
              case measure => have := hkf.out; omega
            have n92 : ((y.toNat : Int) == 92) = false := u8_ne h92
            have hws : Box (wStep bl (o, false, true) y = (o ++ [y], false, false)) := box (by simp [wStep, jSgn, h91, h93, h123, h125, h44, h58, h34, h92])
            clear h91 h93 h123 h125 h44 h58 h34 h92
            go_wp2_with (first | (with_reducible refine lst (by with_unfolding_all rfl) (wp_indexAddr T_u8 hr7 (by with_unfolding_all exact ⟨_, _, _, _, rfl, rfl, rfl⟩) (by omega) (by omega) ?_)) | (with_reducible refine lst (by with_unfolding_all rfl) (wp_loadC hr7 hy Tryd.underlying5 rfl (by with_unfolding_all exact ⟨_, rfl, rfl⟩) (by first | (simp; done) | (simp; omega) | omega) ?_)) | ((with_reducible refine lst (by with_unfolding_all rfl) (wp_fbsl T_u8 hF (vs := [bv y]) (by with_unfolding_all rfl) (by with_unfolding_all rfl) (by with_unfolding_all rfl) (by decide) (by simp [bv, Value.cells]) ?_)); intro w10 g10 hF10 hz10; have hr10 : Rd w10 (· < w10.heap.size) (some ⟨g10, 0, none⟩) 1 1 ([y].map bv) := hF10.rdOwn0; replace hF10 : Fr _ _ w10 (Ent.bytes _ 5 (.slice (some ⟨g10, 0, none⟩) 1 1) [y] :: _) := hF10) | ((with_reducible refine lst (by with_unfolding_all rfl) (wp_fapp1 T_u8 hF10 (Nat.le_refl _) hr10 (by with_unfolding_all exact ⟨_, _, rfl, rfl, rfl⟩) (by omega) ?_)); intro v11 w11 hF11 hz11))
            go_roundg (n7 - (j + 1))
            case rel => exact ⟨j + 1, o ++ [y], false, false, by omega, box rfl, rfl, rfl, by go_num, box (htf.out _ hws.out), by simp only [List.length_append, List.length_cons, List.length_nil]; omega, hF11.tail⟩
            case measure => have := hkf.out; omega
          | false =>
            by_cases h91 : y = 91
            · subst h91
              go_wp2_with (first | (with_reducible refine lst (by with_unfolding_all rfl) (wp_indexAddr T_u8 hr7 (by with_unfolding_all exact ⟨_, _, _, _, rfl, rfl, rfl⟩) (by omega) (by omega) ?_)) | (with_reducible refine lst (by with_unfolding_all rfl) (wp_loadC hr7 hy Tryd.underlying5 rfl (by with_unfolding_all exact ⟨_, rfl, rfl⟩) (by first | (simp; done) | (simp; omega) | omega) ?_)) | ((with_reducible refine lst (by with_unfolding_all rfl) (wp_fbsl T_u8 hF (vs := [bv bl, bv 91, bv bl]) (by with_unfolding_all rfl) (by with_unfolding_all rfl) (by with_unfolding_all rfl) (by decide) (by simp [bv, Value.cells]) ?_)); intro w10 g10 hF10 hz10; have hr10 : Rd w10 (· < w10.heap.size) (some ⟨g10, 0, none⟩) 1 3 (([bl,91,bl] : List UInt8).map bv) := hF10.rdOwn (i := 0) rfl) | ((with_reducible refine lst (by with_unfolding_all rfl) (wp_fapp1 T_u8 hF10 (Nat.le_refl _) hr10 (by with_unfolding_all exact ⟨_, _, rfl, rfl, rfl⟩) (by omega) ?_)); intro v11 w11 hF11 hz11))
              go_roundg (n7 - (j + 1))
              case rel => exact ⟨j + 1, o ++ [bl, 91, bl], false, false, by omega, box rfl, rfl, rfl, by go_num, box (htf.out _ (by simp [wStep, jSgn])), by simp only [List.length_append, List.length_cons, List.length_nil]; omega, hF11.tail⟩
              case measure => have := hkf.out; omega
            have n91 : ((y.toNat : Int) == 91) = false := u8_ne h91
            by_cases h93 : y = 93
            · subst h93
              go_wp2_with (first | (with_reducible refine lst (by with_unfolding_all rfl) (wp_indexAddr T_u8 hr7 (by with_unfolding_all exact ⟨_, _, _, _, rfl, rfl, rfl⟩) (by omega) (by omega) ?_)) | (with_reducible refine lst (by with_unfolding_all rfl) (wp_loadC hr7 hy Tryd.underlying5 rfl (by with_unfolding_all exact ⟨_, rfl, rfl⟩) (by first | (simp; done) | (simp; omega) | omega) ?_)) | ((with_reducible refine lst (by with_unfolding_all rfl) (wp_fbsl T_u8 hF (vs := [bv bl, bv 93, bv bl]) (by with_unfolding_all rfl) (by with_unfolding_all rfl) (by with_unfolding_all rfl) (by decide) (by simp [bv, Value.cells]) ?_)); intro w10 g10 hF10 hz10; have hr10 : Rd w10 (· < w10.heap.size) (some ⟨g10, 0, none⟩) 1 3 (([bl,93,bl] : List UInt8).map bv) := hF10.rdOwn (i := 0) rfl) | ((with_reducible refine lst (by with_unfolding_all rfl) (wp_fapp1 T_u8 hF10 (Nat.le_refl _) hr10 (by with_unfolding_all exact ⟨_, _, rfl, rfl, rfl⟩) (by omega) ?_)); intro v11 w11 hF11 hz11))
              go_roundg (n7 - (j + 1))
              case rel => exact ⟨j + 1, o ++ [bl, 93, bl], false, false, by omega, box rfl, rfl, rfl, by go_num, box (htf.out _ (by simp [wStep, jSgn])), by simp only [List.length_append, List.length_cons, List.length_nil]; omega, hF11.tail⟩
              case measure => have := hkf.out; omega
            have n93 : ((y.toNat : Int) == 93) = false := u8_ne h93
            by_cases h123 : y = 123
            · subst h123
              go_wp2_with (first | (with_reducible refine lst (by with_unfolding_all rfl) (wp_indexAddr T_u8 hr7 (by with_unfolding_all exact ⟨_, _, _, _, rfl, rfl, rfl⟩) (by omega) (by omega) ?_)) | (with_reducible refine lst (by with_unfolding_all rfl) (wp_loadC hr7 hy Tryd.underlying5 rfl (by with_unfolding_all exact ⟨_, rfl, rfl⟩) (by first | (simp; done) | (simp; omega) | omega) ?_)) | ((with_reducible refine lst (by with_unfolding_all rfl) (wp_fbsl T_u8 hF (vs := [bv bl, bv 123, bv bl]) (by with_unfolding_all rfl) (by with_unfolding_all rfl) (by with_unfolding_all rfl) (by decide) (by simp [bv, Value.cells]) ?_)); intro w10 g10 hF10 hz10; have hr10 : Rd w10 (· < w10.heap.size) (some ⟨g10, 0, none⟩) 1 3 (([bl,123,bl] : List UInt8).map bv) := hF10.rdOwn (i := 0) rfl) | ((with_reducible refine lst (by with_unfolding_all rfl) (wp_fapp1 T_u8 hF10 (Nat.le_refl _) hr10 (by with_unfolding_all exact ⟨_, _, rfl, rfl, rfl⟩) (by omega) ?_)); intro v11 w11 hF11 hz11))
              go_roundg (n7 - (j + 1))
              case rel => exact ⟨j + 1, o ++ [bl, 123, bl], false, false, by omega, box rfl, rfl, rfl, by go_num, box (htf.out _ (by simp [wStep, jSgn])), by simp only [List.length_append, List.length_cons, List.length_nil]; omega, hF11.tail⟩
              case measure => have := hkf.out; omega
            have n123 : ((y.toNat : Int) == 123) = false := u8_ne h123
            by_cases h125 : y = 125
            · subst h125
              go_wp2_with (first | (with_reducible refine lst (by with_unfolding_all rfl) (wp_indexAddr T_u8 hr7 (by with_unfolding_all exact ⟨_, _, _, _, rfl, rfl, rfl⟩) (by omega) (by omega) ?_)) | (with_reducible refine lst (by with_unfolding_all rfl) (wp_loadC hr7 hy Tryd.underlying5 rfl (by with_unfolding_all exact ⟨_, rfl, rfl⟩) (by first | (simp; done) | (simp; omega) | omega) ?_)) | ((with_reducible refine lst (by with_unfolding_all rfl) (wp_fbsl T_u8 hF (vs := [bv bl, bv 125, bv bl]) (by with_unfolding_all rfl) (by with_unfolding_all rfl) (by with_unfolding_all rfl) (by decide) (by simp [bv, Value.cells]) ?_)); intro w10 g10 hF10 hz10; have hr10 : Rd w10 (· < w10.heap.size) (some ⟨g10, 0, none⟩) 1 3 (([bl,125,bl] : List UInt8).map bv) := hF10.rdOwn (i := 0) rfl) | ((with_reducible refine lst (by with_unfolding_all rfl) (wp_fapp1 T_u8 hF10 (Nat.le_refl _) hr10 (by with_unfolding_all exact ⟨_, _, rfl, rfl, rfl⟩) (by omega) ?_)); intro v11 w11 hF11 hz11))
              go_roundg (n7 - (j + 1))
              case rel => exact ⟨j + 1, o ++ [bl, 125, bl], false, false, by omega, box rfl, rfl, rfl, by go_num, box (htf.out _ (by simp [wStep, jSgn])), by simp only [List.length_append, List.length_cons, List.length_nil]; omega, hF11.tail⟩
              case measure => have := hkf.out; omega
            have n125 : ((y.toNat : Int) == 125) = false := u8_ne h125
            by_cases h44 : y = 44
            · subst h44
              go_wp2_with (first | (with_reducible refine lst (by with_unfolding_all rfl) (wp_indexAddr T_u8 hr7 (by with_unfolding_all exact ⟨_, _, _, _, rfl, rfl, rfl⟩) (by omega) (by omega) ?_)) | (with_reducible refine lst (by with_unfolding_all rfl) (wp_loadC hr7 hy Tryd.underlying5 rfl (by with_unfolding_all exact ⟨_, rfl, rfl⟩) (by first | (simp; done) | (simp; omega) | omega) ?_)) | ((with_reducible refine lst (by with_unfolding_all rfl) (wp_fbsl T_u8 hF (vs := [bv bl, bv 44, bv bl]) (by with_unfolding_all rfl) (by with_unfolding_all rfl) (by with_unfolding_all rfl) (by decide) (by simp [bv, Value.cells]) ?_)); intro w10 g10 hF10 hz10; have hr10 : Rd w10 (· < w10.heap.size) (some ⟨g10, 0, none⟩) 1 3 (([bl,44,bl] : List UInt8).map bv) := hF10.rdOwn (i := 0) rfl) | ((with_reducible refine lst (by with_unfolding_all rfl) (wp_fapp1 T_u8 hF10 (Nat.le_refl _) hr10 (by with_unfolding_all exact ⟨_, _, rfl, rfl, rfl⟩) (by omega) ?_)); intro v11 w11 hF11 hz11))
              go_roundg (n7 - (j + 1))
              case rel => exact ⟨j + 1, o ++ [bl, 44, bl], false, false, by omega, box rfl, rfl, rfl, by go_num, box (htf.out _ (by simp [wStep, jSgn])), by simp only [List.length_append, List.length_cons, List.length_nil]; omega, hF11.tail⟩
              case measure => have := hkf.out; omega
            have n44 : ((y.toNat : Int) == 44) = false := u8_ne h44
            by_cases h58 : y = 58
            · subst h58
              go_wp2_with (first | (with_reducible refine lst (by with_unfolding_all rfl) (wp_indexAddr T_u8 hr7 (by with_unfolding_all exact ⟨_, _, _, _, rfl, rfl, rfl⟩) (by omega) (by omega) ?_)) | (with_reducible refine lst (by with_unfolding_all rfl) (wp_loadC hr7 hy Tryd.underlying5 rfl (by with_unfolding_all exact ⟨_, rfl, rfl⟩) (by first | (simp; done) | (simp; omega) | omega) ?_)) | ((with_reducible refine lst (by with_unfolding_all rfl) (wp_fbsl T_u8 hF (vs := [bv bl, bv 58, bv bl]) (by with_unfolding_all rfl) (by with_unfolding_all rfl) (by with_unfolding_all rfl) (by decide) (by simp [bv, Value.cells]) ?_)); intro w10 g10 hF10 hz10; have hr10 : Rd w10 (· < w10.heap.size) (some ⟨g10, 0, none⟩) 1 3 (([bl,58,bl] : List UInt8).map bv) := hF10.rdOwn (i := 0) rfl) | ((with_reducible refine lst (by with_unfolding_all rfl) (wp_fapp1 T_u8 hF10 (Nat.le_refl _) hr10 (by with_unfolding_all exact ⟨_, _, rfl, rfl, rfl⟩) (by omega) ?_)); intro v11 w11 hF11 hz11))
              go_roundg (n7 - (j + 1))
              case rel => exact ⟨j + 1, o ++ [bl, 58, bl], false, false, by omega, box rfl, rfl, rfl, by go_num, box (htf.out _ (by simp [wStep, jSgn])), by simp only [List.length_append, List.length_cons, List.length_nil]; omega, hF11.tail⟩
              case measure => have := hkf.out; omega
            have n58 : ((y.toNat : Int) == 58) = false := u8_ne h58
            by_cases h34 : y = 34
            · subst h34
              clear h91 n91 h93 n93 h123 n123 h125 n125 h44 n44 h58 n58
              go_wp2_with (first | (with_reducible refine lst (by with_unfolding_all rfl) (wp_indexAddr T_u8 hr7 (by with_unfolding_all exact ⟨_, _, _, _, rfl, rfl, rfl⟩) (by omega) (by omega) ?_)) | (with_reducible refine lst (by with_unfolding_all rfl) (wp_loadC hr7 hy Tryd.underlying5 rfl (by with_unfolding_all exact ⟨_, rfl, rfl⟩) (by first | (simp; done) | (simp; omega) | omega) ?_)) | ((with_reducible refine lst (by with_unfolding_all rfl) (wp_fbsl T_u8 hF (vs := [bv 34]) (by with_unfolding_all rfl) (by with_unfolding_all rfl) (by with_unfolding_all rfl) (by decide) (by simp [bv, Value.cells]) ?_)); intro w10 g10 hF10 hz10; have hr10 : Rd w10 (· < w10.heap.size) (some ⟨g10, 0, none⟩) 1 1 ([34].map bv) := hF10.rdOwn0; replace hF10 : Fr _ _ w10 (Ent.bytes _ 5 (.slice (some ⟨g10, 0, none⟩) 1 1) [34] :: _) := hF10) | ((with_reducible refine lst (by with_unfolding_all rfl) (wp_fapp1 T_u8 hF10 (Nat.le_refl _) hr10 (by with_unfolding_all exact ⟨_, _, rfl, rfl, rfl⟩) (by omega) ?_)); intro v11 w11 hF11 hz11))
              go_roundg (n7 - (j + 1))
              case rel => exact ⟨j + 1, o ++ [34], true, false, by omega, box rfl, rfl, rfl, by go_num, box (htf.out _ (by simp [wStep, jSgn])), by simp only [List.length_append, List.length_cons, List.length_nil]; omega, hF11.tail⟩
              case measure => have := hkf.out; omega
            have n34 : ((y.toNat : Int) == 34) = false := u8_ne h34
            by_cases h92 : y = 92
            · subst h92
              clear h91 n91 h93 n93 h123 n123 h125 n125 h44 n44 h58 n58
              go_wp2_with (first | (with_reducible refine lst (by with_unfolding_all rfl) (wp_indexAddr T_u8 hr7 (by with_unfolding_all exact ⟨_, _, _, _, rfl, rfl, rfl⟩) (by omega) (by omega) ?_)) | (with_reducible refine lst (by with_unfolding_all rfl) (wp_loadC hr7 hy Tryd.underlying5 rfl (by with_unfolding_all exact ⟨_, rfl, rfl⟩) (by first | (simp; done) | (simp; omega) | omega) ?_)) | ((with_reducible refine lst (by with_unfolding_all rfl) (wp_fbsl T_u8 hF (vs := [bv 92]) (by with_unfolding_all rfl) (by with_unfolding_all rfl) (by with_unfolding_all rfl) (by decide) (by simp [bv, Value.cells]) ?_)); intro w10 g10 hF10 hz10; have hr10 : Rd w10 (· < w10.heap.size) (some ⟨g10, 0, none⟩) 1 1 ([92].map bv) := hF10.rdOwn0; replace hF10 : Fr _ _ w10 (Ent.bytes _ 5 (.slice (some ⟨g10, 0, none⟩) 1 1) [92] :: _) := hF10) | ((with_reducible refine lst (by with_unfolding_all rfl) (wp_fapp1 T_u8 hF10 (Nat.le_refl _) hr10 (by with_unfolding_all exact ⟨_, _, rfl, rfl, rfl⟩) (by omega) ?_)); intro v11 w11 hF11 hz11))
              go_roundg (n7 - (j + 1))
              case rel => exact ⟨j + 1, o ++ [92], false, false, by omega, box rfl, rfl, rfl, by go_num, box (htf.out _ (by simp [wStep, jSgn])), by simp only [List.length_append, List.length_cons, List.length_nil]; omega, hF11.tail⟩
              case measure => have := hkf.out; omega
            have n92 : ((y.toNat : Int) == 92) = false := u8_ne h92
            have hws : Box (wStep bl (o, false, false) y = (o ++ [y], false, false)) := box (by simp [wStep, jSgn, h91, h93, h123, h125, h44, h58, h34, h92])
            clear h91 h93 h123 h125 h44 h58 h34 h92
            go_wp2_with (first | (with_reducible refine lst (by with_unfolding_all rfl) (wp_indexAddr T_u8 hr7 (by with_unfolding_all exact ⟨_, _, _, _, rfl, rfl, rfl⟩) (by omega) (by omega) ?_)) | (with_reducible refine lst (by with_unfolding_all rfl) (wp_loadC hr7 hy Tryd.underlying5 rfl (by with_unfolding_all exact ⟨_, rfl, rfl⟩) (by first | (simp; done) | (simp; omega) | omega) ?_)) | ((with_reducible refine lst (by with_unfolding_all rfl) (wp_fbsl T_u8 hF (vs := [bv y]) (by with_unfolding_all rfl) (by with_unfolding_all rfl) (by with_unfolding_all rfl) (by decide) (by simp [bv, Value.cells]) ?_)); intro w10 g10 hF10 hz10; have hr10 : Rd w10 (· < w10.heap.size) (some ⟨g10, 0, none⟩) 1 1 ([y].map bv) := hF10.rdOwn0; replace hF10 : Fr _ _ w10 (Ent.bytes _ 5 (.slice (some ⟨g10, 0, none⟩) 1 1) [y] :: _) := hF10) | ((with_reducible refine lst (by with_unfolding_all rfl) (wp_fapp1 T_u8 hF10 (Nat.le_refl _) hr10 (by with_unfolding_all exact ⟨_, _, rfl, rfl, rfl⟩) (by omega) ?_)); intro v11 w11 hF11 hz11))
            go_roundg (n7 - (j + 1))
            case rel => exact ⟨j + 1, o ++ [y], false, false, by omega, box rfl, rfl, rfl, by go_num, box (htf.out _ hws.out), by simp only [List.length_append, List.length_cons, List.length_nil]; omega, hF11.tail⟩
            case measure => have := hkf.out; omega
      · obtain rfl : n7 = j := by omega
        have hall : Box (l.take n7 = l) := box (List.take_of_length_le (by rw [hn7.out]; exact Nat.le_refl _))
        have hst' := hst.out
        rw [hall.out, hfo.out] at hst'
        have hoe : o = [bl] ++ jWide bl bu := ((Prod.mk.injEq _ _ _ _).mp hst').1.symm
        have hpb := hpw.out (by have := congrArg List.length hoe; simp only [List.length_append, List.length_cons, List.length_nil] at this; omega)
        rw [← hoe] at hpb
        clear hst' hst hkf hlt hj
        replace hoe := box hoe
        replace hpb := box hpb
        go_wp2_with (first | ((with_reducible refine lst (by with_unfolding_all rfl) (wp_fbsl T_u8 hF (vs := [bv bl, bv 32]) (by with_unfolding_all rfl) (by with_unfolding_all rfl) (by with_unfolding_all rfl) (by decide) (by simp [bv, Value.cells]) ?_)); intro w10 g10 hF10 hz10; have hr10 : Rd w10 (· < w10.heap.size) (some ⟨g10, 0, none⟩) 1 2 (([bl,32] : List UInt8).map bv) := hF10.rdOwn (i := 0) rfl) | ((with_reducible refine lst (by with_unfolding_all rfl) (wp_fapp1 T_u8 hF10 (Nat.le_refl _) hr10 (by with_unfolding_all exact ⟨_, _, rfl, rfl, rfl⟩) (by omega) ?_)); intro v11 w11 hF11 hz11))
        have hF12 := hF11.tail
        obtain ⟨A12, c12, rfl, hc12, hr12⟩ := (hF12.own (i := 0) rfl).arg
        have hp := parse_F hF12 (hL6.on hF12.below) hF12.below.size hc12 (by simp only [List.length_append, List.length_cons, List.length_nil]; omega) hr12
        rw [hpb.out] at hp
        unfold ParseEndF at hp
        simp only [] at hp
        replace hp := box hp
        clear hF hF10 hF11
        refine hp.out.mono ?_
        rintro e w9 ⟨cs3, es3, rfl, hvt3, hG9⟩
        have hvl3 := box hvt3.len
        have hvo3 := box hvt3.one
        replace hvt3 := box hvt3
        clear hp hF12
        go_upto_region 20 with (first | ((with_reducible refine lst (by with_unfolding_all rfl) (wp_falloc hG9 (cs := vl0) (z := .agg (List.toArray (vl0))) rfl (by kernel_rfl) (by with_unfolding_all rfl) ?_)); intro w15 g15 hF15 hz15) | ((with_reducible refine lst (by with_unfolding_all rfl) (wp_fstA0 hF15 (by with_unfolding_all exact ⟨_, _, rfl, rfl, rfl⟩) (by rw [hvl3.out]; kernel_rfl) hvo3.out (by rw [hvl3.out]; decide) (spl_all (by rw [hvl3.out, vlL_len])) ?_)); intro w16 hF16 hz16))
        clear hG9 hF15
        have hfr := box (fun (w' : World) (es' : List Ent) (hF : Fr [] w6 w' es') (hs : ∀ e ∈ es3, e ∈ es') => from_any 20 bu cs3 w' (by decide) (hvt3.out.rdF hF hs) hbs)
        have hba := box (fun (w' : World) (hb : Below w6.heap.size w6 w') => rbare_any (SizeOf.sizeOf u) u cs1 w' (Nat.le_refl _) (hv1.on hb) hsm1)
        rw [← hbu] at hba
        have hbs' := box hbs
        replace hbu := box hbu
        clear hbs
        have hFd := hF16.drew
        refine wp_region_held (S := fun w' => w'.heap[g15]? = some (.cells (List.toArray cs3) 27 (0, 0)) ∧ Rd w' (· < w6.heap.size) (some ⟨g1, 0, none⟩) 1 5 cs1) (by kernel_rfl) ?_
        change wpAnyH _ _ _ _ _ _ _ _ (World.drew _)
        refine tkp 0 ⟨hFd.blk (i := 0) rfl, hr1.below hFd.below⟩ ?_
        (try simp only [Act.put, List.setIfInBounds_toArray, List.set_cons_zero, List.set_cons_succ])
        refine tkp 1 ⟨hFd.blk (i := 0) rfl, hr1.below hFd.below⟩ ?_
        (try simp only [Act.put, List.setIfInBounds_toArray, List.set_cons_zero, List.set_cons_succ])
        refine tkp 2 ⟨hFd.blk (i := 0) rfl, hr1.below hFd.below⟩ ?_
        (try simp only [Act.put, List.setIfInBounds_toArray, List.set_cons_zero, List.set_cons_succ])
        refine tky 3 (y := yi_fldA (by with_unfolding_all rfl) (fun _ h => h.1) Tryd.underlying27 rfl (by with_unfolding_all exact ⟨_, rfl, rfl⟩) (ds := cs3) (by rw [hvl3.out]; kernel_rfl) (take_all _)) (s := ⟨hFd.blk (i := 0) rfl, hr1.below hFd.below⟩) (h := ?_)
        (try simp only [Act.put, List.setIfInBounds_toArray, List.set_cons_zero, List.set_cons_succ])
        refine tky 5 (y := yi_ldA (by with_unfolding_all rfl) (fun _ h => h.2) (j := 0) Tryd.underlying33 rfl (by with_unfolding_all exact ⟨_, rfl, rfl⟩) (ds := cs1) (by rw [hvl1.out]; kernel_rfl) hcc1.out) (s := ⟨hFd.blk (i := 0) rfl, hr1.below hFd.below⟩) (h := ?_)
        (try simp only [Act.put, List.setIfInBounds_toArray, List.set_cons_zero, List.set_cons_succ])
        refine rdy1 4 (fun K hK => ?_)
        refine stp (by with_unfolding_all rfl) (wp_call Tryd.func15 rfl (by with_unfolding_all rfl) (by with_unfolding_all rfl) (by with_unfolding_all rfl) (hfr.out _ _ hFd (by intro e he; simp [he])) ?_)
        rintro e w31 ⟨cs31, es31, rfl, hvt31, hv31⟩
        refine ⟨_, rfl, ?_⟩
        have hF31 := hFd.joinR hv31
        simp only [List.cons_append] at hF31
        rw [hcb.out] at hvt31
        refine hK.out _ _ (⟨hF31.blk (i := 0) rfl, hr1.below hF31.below⟩) (fun _ => ?_)
        clear hK K
        (try simp only [Act.put, List.setIfInBounds_toArray, List.set_cons_zero, List.set_cons_succ])
        refine rdy1 6 (fun K hK => ?_)
        refine stp (by with_unfolding_all rfl) (wp_call Tryd.func23 rfl (by with_unfolding_all rfl) (by with_unfolding_all rfl) (by with_unfolding_all rfl) (hba.out _ hF31.below) ?_)
        rintro e w32 ⟨cs32, es32, rfl, hvt32, hv32⟩
        refine ⟨_, rfl, ?_⟩
        have hF32 := hF31.joinR hv32
        simp only [List.cons_append] at hF32
        refine hK.out _ _ (⟨hF32.blk (i := 0) rfl, hr1.below hF32.below⟩) (fun _ => ?_)
        clear hK K
        (try simp only [Act.put, List.setIfInBounds_toArray, List.set_cons_zero, List.set_cons_succ])
        refine rdy1 7 (fun K hK => ?_)
        refine stp (by with_unfolding_all rfl) (wp_call Tryd.func14 rfl (by with_unfolding_all rfl) (by with_unfolding_all rfl) (by with_unfolding_all rfl) (same_any _ bu _ _ _ (Nat.le_refl _) (hvt31.rdF hF32 (by intro e he; simp [he])) (hvt32.rdF hF32 (by intro e he; simp [he])) hbs'.out) ?_)
        rintro e w33 ⟨rfl, hb33⟩
        refine ⟨_, rfl, ?_⟩
        have hF33 := hF32.call hb33
        refine hK.out _ _ (⟨hF33.blk (i := 0) rfl, hr1.below hF33.below⟩) (fun _ => ?_)
        clear hK K
        (try simp only [Act.put, List.setIfInBounds_toArray, List.set_cons_zero, List.set_cons_succ])
        refine tkp 8 ⟨hF33.blk (i := 0) rfl, hr1.below hF33.below⟩ ?_
        (try simp only [Act.put, List.setIfInBounds_toArray, List.set_cons_zero, List.set_cons_succ])
        refine tkp 9 ⟨hF33.blk (i := 0) rfl, hr1.below hF33.below⟩ ?_
        (try simp only [Act.put, List.setIfInBounds_toArray, List.set_cons_zero, List.set_cons_succ])
        refine wpAnyH_done (by kernel_rfl) ?_ _
        go_wp2_with fail
        go_ret
        exact ⟨rfl, hb6.trans (hF33.below.mono hb6.size)⟩
  · have hend : ∀ (w8 : World) (hG8 : Fr [] w6 w8 [.rd A7 1 n7 (l.map bv)]), True := fun _ _ => trivial
    clear hend hwu hR
    by_cases hf1 : f = 0
    · subst hf1
      have d1 : decide ((3000 : Int) < (n7 : Int)) = true := decide_eq_true (by omega)
      replace hf := box hf
      go_wp2_with fail
      refine haw.out.mono ?_
      rintro e w8 ⟨rfl, hb8⟩
      have hG8 := hG7.call hb8
      go_upto_region 5 with fail
      have haw := box (awake_any w8 w6.heap.size hG8.below.size (hL6.on hG8.below))
      go_wp2_with fail
      refine haw.out.mono ?_
      rintro e w9 ⟨rfl, hb9⟩
      have hG9 := hG8.call hb9
      go_wp2_with fail
      go_ret
      exact ⟨rfl, hb6.trans (hG9.below.mono hb6.size)⟩
    · have hne : ((f : Int) != 0) = true := by rw [bne_iff_ne]; omega
      replace hf := box hf
      replace hf1 := box hf1
      go_wp2_with fail
      refine haw.out.mono ?_
      rintro e w8 ⟨rfl, hb8⟩
      have hG8 := hG7.call hb8
      go_upto_region 5 with fail
      have haw := box (awake_any w8 w6.heap.size hG8.below.size (hL6.on hG8.below))
      go_wp2_with fail
      refine haw.out.mono ?_
      rintro e w9 ⟨rfl, hb9⟩
      have hG9 := hG8.call hb9
      go_wp2_with fail
      go_ret
      exact ⟨rfl, hb6.trans (hG9.below.mono hb6.size)⟩
end Go.Proofs.YtdekogmegdhjoaaDoor

namespace Go.Proofs.YtdekogmegdhjoaaDoor
open Go.RowKit

theorem jsonBlanks_int (v : JV) (cs : List Value) (x : Int) (hx : (Lit.int .u8 x).wf = true) (w : World) (hL : LibsAt w.heap.size w) (hv : VRd w (· < w.heap.size) v cs) (hw : jW v ≤ 1048576) (hji : JI v) :
    Calls Tryd.prog 9 #[.agg cs.toArray, .int .u8 x] w fun e w' => e = .returned (.bool true) ∧ Below w.heap.size w w' := by
  obtain ⟨c, rfl⟩ := u8_of_wf hx
  exact jsonBlanks_any v cs c w hL hv hw hji
end Go.Proofs.YtdekogmegdhjoaaDoor

namespace Go.Proofs.YtdekogmegdhjoaaDoor

def nestP : Nat → List UInt8
  | 0 => []
  | i + 1 => nestP i ++ (if i % 2 = 0 then [91] else [123, 34, 97, 34, 58])
def nestC : Nat → List UInt8
  | 0 => []
  | i + 1 => (if i % 2 = 0 then 93 else 125) :: nestC i
def nestOk (d : Nat) : Bool :=
  match jParse (nestP d ++ [49] ++ nestC d) with
  | .ok v => decide (d ≤ 16) && (decide (d = 0) || v.kids.length == 1)
  | .error x => decide (16 < d) && (x.2 == 64) && decide (x.1 < (nestP d).length)
theorem nests_ok : ∀ d, d < 20 → nestOk d = true := by decide +kernel
theorem nestP_len : ∀ d, (nestP d).length ≤ 5 * d
  | 0 => Nat.le_refl _
  | d + 1 => by
    have := nestP_len d
    rw [nestP, List.length_append]
    split <;> simp <;> omega
theorem nestC_len : ∀ d, (nestC d).length = d
  | 0 => rfl
  | d + 1 => by rw [nestC, List.length_cons, nestC_len d]
def zB : Nat → List UInt8
  | 0 => [91]
  | i + 1 => zB i ++ (if i = 0 then [] else [44]) ++ [48]
theorem zB_len : ∀ i, (zB (i + 1)).length = 2 * i + 2
  | 0 => rfl
  | i + 1 => by
    rw [zB, List.length_append, List.length_append, zB_len i]
    simp
    omega
theorem zB_at : ∀ (i p : Nat), p < (zB i).length → (zB i)[p]? = some (if p = 0 then 91 else if p % 2 = 1 then 48 else 44)
  | 0, p, h => by
    have : p = 0 := by simp [zB] at h; exact h
    subst this; rfl
  | 1, p, h => by
    have h2 : p < 2 := h
    match p, h2 with
    | 0, _ => rfl
    | 1, _ => rfl
  | i + 2, p, h => by
    have hl := zB_len i
    have hl2 := zB_len (i + 1)
    rw [zB, if_neg (by omega), List.append_assoc]
    rcases Nat.lt_or_ge p (zB (i + 1)).length with h1 | h1
    · rw [List.getElem?_append_left h1]
      exact zB_at (i + 1) p h1
    · rw [List.getElem?_append_right h1, hl]
      rw [hl] at h1
      rw [hl2] at h
      have h3 : p = 2 * i + 2 ∨ p = 2 * i + 3 := by omega
      rcases h3 with rfl | rfl
      · rw [if_neg (by omega), if_neg (by omega), show 2 * i + 2 - (2 * i + 2) = 0 by omega]; rfl
      · rw [if_neg (by omega), if_pos (by omega), show 2 * i + 3 - (2 * i + 2) = 1 by omega]; rfl
/-- A list of zeros. -/
def zL (k : Nat) : List UInt8 := zB k ++ [93]
section
variable {k : Nat}
theorem zL_len (h : 0 < k) : (zL k).length = 2 * k + 1 := by
  obtain ⟨i, rfl⟩ : ∃ i, k = i + 1 := ⟨k - 1, by omega⟩
  unfold zL
  rw [List.length_append, zB_len]; simp; omega
theorem zL_num (h : 0 < k) {j : Nat} (hj : j < k) : (zL k)[2 * j + 1]? = some 48 := by
  obtain ⟨i, rfl⟩ : ∃ i, k = i + 1 := ⟨k - 1, by omega⟩
  have hl := zB_len i
  unfold zL
  rw [List.getElem?_append_left (by omega), zB_at _ _ (by omega), if_neg (by omega), if_pos (by omega)]
theorem zL_sep {j : Nat} (hj : j + 1 < k) : (zL k)[2 * j + 2]? = some 44 := by
  obtain ⟨i, rfl⟩ : ∃ i, k = i + 1 := ⟨k - 1, by omega⟩
  have hl := zB_len i
  unfold zL
  rw [List.getElem?_append_left (by omega), zB_at _ _ (by omega), if_neg (by omega), if_neg (by omega)]
theorem zL_end {j : Nat} (hj : j + 1 = k) : (zL k)[2 * j + 2]? = some 93 := by
  subst hj
  have hl := zB_len j
  unfold zL
  rw [List.getElem?_append_right (by omega), hl, Nat.sub_self]; rfl
theorem zL_val (d : Nat) {j m : Nat} (hj : j < k) (hm : m < 4096) : jValue (zL k) d (2 * j + 1) m = .ok (.mk 3 0 [] [] [], 2 * j + 2, m + 1) := by
  have h0 := zL_num (by omega) hj
  have hn : jNumber (zL k) (2 * j + 1) = .ok (0, 2 * j + 2) := by
    have hp := (List.getElem?_eq_some_iff.1 h0).1
    have h1 : ((zL k).drop (2 * j + 1)).takeWhile jNumC = [48] := by
      rw [List.drop_eq_getElem_cons hp, (List.getElem?_eq_some_iff.1 h0).2, List.takeWhile_cons, if_pos (by decide)]
      have h2 : ∃ x, (zL k)[2 * j + 1 + 1]? = some x ∧ jNumC x = false := by
        by_cases he : j + 1 = k
        · exact ⟨93, zL_end he, by decide⟩
        · exact ⟨44, zL_sep (by omega), by decide⟩
      obtain ⟨x, hx, hx2⟩ := h2
      have hp2 := (List.getElem?_eq_some_iff.1 hx).1
      rw [List.drop_eq_getElem_cons hp2, (List.getElem?_eq_some_iff.1 hx).2, List.takeWhile_cons, if_neg (by rw [hx2]; decide)]
    unfold jNumber
    simp only [h1]
    rfl
  have hw : ∀ val, jValueW (zL k) val (2 * j + 1) m = .ok (.mk 3 0 [] [] [], 2 * j + 2, m + 1) := fun val => by
    unfold jValueW
    rw [h0]
    simp only []
    rw [if_neg (by omega), if_neg (by decide), if_neg (by decide), if_neg (by decide), if_pos (by decide), hn]
  cases d with
  | zero => exact hw _
  | succ d => exact hw _
theorem zL_many (d : Nat) : ∀ (r j f : Nat) (kids : List JV), j + r = k → 0 < r → j < 4096 → r ≤ f → kids.length = j →
    (k < 4096 → ∃ ks, ks.length = k ∧ jManyL (zL k) 5 93 (jValue (zL k) d) f (2 * j + 1) (j + 1) [] kids = .ok (.mk 5 0 [] [] ks, 2 * k + 1, k + 1)) ∧
    (4096 ≤ k → jManyL (zL k) 5 93 (jValue (zL k) d) f (2 * j + 1) (j + 1) [] kids = .error (8191, 8)) := by
  intro r
  induction r with
  | zero => intro j f kids _ h; omega
  | succ r ih =>
    intro j f kids hjr _ hj4 hf hkl
    obtain ⟨f, rfl⟩ : ∃ g, f = g + 1 := ⟨f - 1, by omega⟩
    have hjk : j < k := by omega
    by_cases hlast : j = 4095
    · refine ⟨fun h => by omega, fun _ => ?_⟩
      subst hlast
      rw [jManyL, if_neg (by decide)]
      simp only []
      have hx : jValue (zL k) d (2 * 4095 + 1) (4095 + 1) = .error (8191, 8) := by
        have h0 := zL_num (by omega) hjk
        have hw : ∀ val, jValueW (zL k) val (2 * 4095 + 1) (4095 + 1) = .error (8191, 8) := fun val => by
          unfold jValueW
          rw [h0]
          simp only []
          rw [if_pos trivial]
        cases d with
        | zero => exact hw _
        | succ d => exact hw _
      rw [hx]
    · have hv := zL_val (k := k) d hjk (m := j + 1) (by omega)
      rw [jManyL, if_neg (by decide)]
      simp only [hv]
      by_cases he : j + 1 = k
      · have hx := zL_end he
        refine ⟨fun h4 => ⟨kids ++ [.mk 3 0 [] [] []], by simp; omega, ?_⟩, fun h4 => by omega⟩
        rw [jBlanks_stop hx (by decide)]
        unfold jNext
        rw [hx]
        simp only []
        rw [if_pos trivial, if_neg (by decide), show 2 * j + 2 + 1 = 2 * k + 1 by omega, show j + 1 + 1 = k + 1 by omega]
      · have hx := zL_sep (k := k) (j := j) (by omega)
        have hy := zL_num (k := k) (j := j + 1) (by omega) (by omega)
        have hb : jBlanks (zL k) (2 * j + 2 + 1) = 2 * (j + 1) + 1 := jBlanks_stop (p := 2 * (j + 1) + 1) hy (by decide)
        have hw : jWord (zL k) [44] (2 * j + 2) = .ok (2 * j + 2 + 1) := by
          unfold jWord
          rw [hx]
          simp only []
          rw [if_pos trivial]
          rfl
        have key := ih (j + 1) f (kids ++ [.mk 3 0 [] [] []]) (by omega) (by omega) (by omega) (by omega) (by simp; omega)
        rw [jBlanks_stop hx (by decide)]
        unfold jNext
        rw [hx]
        simp only []
        rw [if_neg (by decide), hw]
        simp only []
        rw [hb, if_neg (by decide)]
        exact key
theorem zL_parse (hk : k < 5000) : (k < 4096 → ∃ v, jParse (zL k) = .ok v ∧ v.kids.length = k) ∧ (4096 ≤ k → jParse (zL k) = .error (8191, 8)) := by
  by_cases h0 : k = 0
  · subst h0
    exact ⟨fun _ => ⟨.mk 5 0 [] [] [], by kernel_rfl, rfl⟩, fun h => by omega⟩
  · have hl := zL_len (k := k) (by omega)
    obtain ⟨i, rfl⟩ : ∃ i, k = i + 1 := ⟨k - 1, by omega⟩
    have hx0 : (zL (i + 1))[0]? = some 91 := by
      unfold zL
      rw [List.getElem?_append_left (by rw [zB_len]; omega), zB_at _ _ (by rw [zB_len]; omega), if_pos rfl]
    have hx1 := zL_num (k := i + 1) (by omega) (j := 0) (by omega)
    have hm : jMany (zL (i + 1)) 5 93 (some (jValue (zL (i + 1)) 15)) 0 1 = jManyL (zL (i + 1)) 5 93 (jValue (zL (i + 1)) 15) (2 * (i + 1) + 1) 1 1 [] [] := by
      unfold jMany
      simp only []
      rw [jBlanks_stop (p := 0 + 1) hx1 (by decide)]
      unfold jNext
      rw [hx1]
      simp only []
      rw [if_neg (by decide), hl]
      rfl
    have hv : jValue (zL (i + 1)) 16 0 0 = jMany (zL (i + 1)) 5 93 (some (jValue (zL (i + 1)) 15)) 0 1 := by
      show jValueW _ _ 0 0 = _
      unfold jValueW
      rw [hx0]
      simp only []
      rw [if_neg (by decide), if_neg (by decide), if_neg (by decide), if_neg (by decide), if_neg (by decide), if_neg (by decide), if_pos trivial]
    have hp : jParse (zL (i + 1)) = match jMany (zL (i + 1)) 5 93 (some (jValue (zL (i + 1)) 15)) 0 1 with
        | .error x => .error x
        | .ok (v, p, _) => if jBlanks (zL (i + 1)) p < (zL (i + 1)).length then .error (jBlanks (zL (i + 1)) p, 10) else .ok v := by
      unfold jParse
      rw [if_neg (by omega), jBlanks_stop hx0 (by decide), hv]
      rfl
    obtain ⟨h1, h2⟩ := zL_many (k := i + 1) 15 (i + 1) 0 (2 * (i + 1) + 1) [] (by omega) (by omega) (by omega) (by omega) rfl
    refine ⟨fun h4 => ?_, fun h4 => ?_⟩
    · obtain ⟨ks, hks, hkk⟩ := h1 h4
      refine ⟨.mk 5 0 [] [] ks, ?_, hks⟩
      have hkk' : jManyL (zL (i + 1)) 5 93 (jValue (zL (i + 1)) 15) (2 * (i + 1) + 1) 1 1 [] [] = .ok (.mk 5 0 [] [] ks, 2 * (i + 1) + 1, i + 1 + 1) := hkk
      rw [hp, hm, hkk']
      simp only []
      rw [jBlanks_end (by rw [hl]; exact Nat.le_refl _), if_neg (by omega)]
    · rw [hp, hm]
      have := h2 h4
      rw [show (2 * 0 + 1 : Nat) = 1 from rfl] at this
      rw [this]
end
end Go.Proofs.YtdekogmegdhjoaaDoor
