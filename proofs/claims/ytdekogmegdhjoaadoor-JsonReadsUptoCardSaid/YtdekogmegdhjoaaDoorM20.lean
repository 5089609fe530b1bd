/-
  Layer 6: the document's reader: a value.
  Layer 6: the document's Parse.
  Layer 6, plain law: a value that was read is not deep, and has no long list. No program is named here.
-/
import Derived.Test.YtdekogmegdhjoaaDoorM19
import Derived.Test.YtdekogmegdhjoaaDoorM04
import Derived.Test.YtdekogmegdhjoaaDoorM18
namespace Go.Proofs.YtdekogmegdhjoaaDoor
open Go.RowKit
set_option linter.unusedSimpArgs false
set_option linter.unusedVariables false


set_option maxRecDepth 20000 in
set_option maxHeartbeats 3200000 in
theorem rvalue_bad (w : World) (g : Nat) (A : Option Addr) (n c p f wh m B : Nat) (b : List UInt8) (J : JR (JV × Nat × Nat)) (z : Int) (hf : f ≠ 0) (hh : w.heap[g]? = some (.cells (rrL A n c p f wh m).toArray 68 (0, 0))) (hg : B ≤ g) (hB : B ≤ w.heap.size) (hr : Rd w (· < B) A 1 n (b.map bv)) :
    Calls Tryd.prog 29 #[.pointer (some ⟨g, 0, none⟩), .int .i64 z] w (RValU w g A n c (jr f wh J)) := by
  have hF0 := Fr.one hh
  have hf1 : ((f : Int) != 0) = true := by rw [bne_iff_ne]; omega
  have hwa := box (fun g1 w' (hF : Fr [g] w w' [.blk g1 33 vl0, .blk g 68 (rrL A n c p f wh m)]) => rwant_bad hf (hF.blk (i := 1) rfl) (hF.rdB hg hB hr))
  clear hh
  replace hf := box hf
  go_enter Tryd.func29, Tryd.ntmps29
  go_wp2_with (first | ((with_reducible refine lst (by with_unfolding_all rfl) (wp_falloc hF0 (cs := vl0) (z := .agg (List.toArray (vl0))) rfl (by kernel_rfl) (by with_unfolding_all rfl) ?_)); intro w1 g1 hF1 hz1))
  refine (hwa.out _ _ hF1).mono ?_
  rintro e w2 ⟨rfl, h2⟩
  have hF2 := hF1.putF (i := 1) rfl h2
  simp only [List.set_cons_succ, List.set_cons_zero] at hF2
  clear hwa hF1
  go_wp2_with (first | (with_reducible refine lst (by with_unfolding_all rfl) (wp_fld1 hF2 Tryd.underlying3 rfl (by with_unfolding_all exact ⟨_, rfl, rfl⟩) rfl ?_)) | (with_reducible refine lst (by with_unfolding_all rfl) (wp_fbuild Tryd.underlying33 (z := .agg (List.toArray vl0)) (by kernel_rfl) (pl := vlP) (by kernel_rfl) (cs := (vlL 0 0 ⟨#[]⟩ (.slice none 0 0) (.slice none 0 0))) rfl (vs := []) (by with_unfolding_all rfl) (by with_unfolding_all rfl) ?_)) | ((with_reducible refine lst (by with_unfolding_all rfl) (wp_fstA0 hF2 (by with_unfolding_all exact ⟨_, _, rfl, rfl, rfl⟩) (by rw [vlL_len]; kernel_rfl) vlL_one vlL_fit vlL_spl ?_)); intro w3 hF3 hz3))
  exact bodyPost_ret (results_cellF rfl _ hF3 (i := 0) rfl rfl Tryd.underlying33 rfl (by rw [vlL_len]; kernel_rfl)) rfl ⟨_, _, .null, p, f, wh, m, rfl, VT.leaf, (((hF3.tail.pushNone 5).pushNone 1).picks [2, 0, 1] rfl (by decide)), .inr ⟨hf.out, jr_bad hf.out⟩⟩
set_option maxRecDepth 20000 in
set_option maxHeartbeats 12800000 in
/-- The reader of values, where its readers of lists and of objects keep their word. -/
theorem rvalue_of (deep : Nat) (val : Option (Nat → Nat → JR (JV × Nat × Nat))) (w : World) (g : Nat) (A : Option Addr) (n c p m B : Nat) (b : List UInt8) (hve : ∀ f, val = some f → ∀ p m, JEr (f p m)) (hh : w.heap[g]? = some (.cells (rrL A n c p 0 0 m).toArray 68 (0, 0))) (hg : B ≤ g) (hB : B ≤ w.heap.size) (hn : n ≤ 65536) (hnc : n ≤ c) (hp : p ≤ n) (hm : m ≤ 4096) (hr : Rd w (· < B) A 1 n (b.map bv))
    (hl5 : ∀ w', p < n → m < 4096 → w'.heap[g]? = some (.cells (rrL A n c p 0 0 (m + 1)).toArray 68 (0, 0)) → B ≤ w'.heap.size → Rd w' (· < B) A 1 n (b.map bv) → Calls Tryd.prog 46 #[.pointer (some ⟨g, 0, none⟩), .int .i64 5, .int .i64 93, .int .i64 (deep : Int)] w' (RVal w' g A n c (jMany b 5 93 val p (m + 1))))
    (hl6 : ∀ w', p < n → m < 4096 → w'.heap[g]? = some (.cells (rrL A n c p 0 0 (m + 1)).toArray 68 (0, 0)) → B ≤ w'.heap.size → Rd w' (· < B) A 1 n (b.map bv) → Calls Tryd.prog 46 #[.pointer (some ⟨g, 0, none⟩), .int .i64 6, .int .i64 125, .int .i64 (deep : Int)] w' (RVal w' g A n c (jMany b 6 125 val p (m + 1)))) :
    Calls Tryd.prog 29 #[.pointer (some ⟨g, 0, none⟩), .int .i64 (deep : Int)] w (RVal w g A n c (jValueW b val p m)) := by
  have hl := box hr.bytes_len
  have hF0 := Fr.one hh
  clear hh
  cases hx : b[p]? with
  | none =>
    have hend : Box (jValueW b val p m = .error (n, 9)) := box (by unfold jValueW; rw [hx, hl.out])
    have hwa := box (fun g1 w' (hF : Fr [g] w w' [.blk g1 33 vl0, .blk g 68 (rrL A n c p 0 0 m)]) => rwant_end hx (hF.blk (i := 1) rfl) (hF.rdB hg hB hr))
    clear hx hl5 hl6 hve
    go_enter Tryd.func29, Tryd.ntmps29
    go_wp2_with (first | ((with_reducible refine lst (by with_unfolding_all rfl) (wp_falloc hF0 (cs := vl0) (z := .agg (List.toArray (vl0))) rfl (by kernel_rfl) (by with_unfolding_all rfl) ?_)); intro w1 g1 hF1 hz1))
    refine (hwa.out _ _ hF1).mono ?_
    rintro e w2 ⟨rfl, h2⟩
    have hF2 := hF1.putF (i := 1) rfl h2
    simp only [List.set_cons_succ, List.set_cons_zero] at hF2
    clear hwa hF1
    go_wp2_with (first | (with_reducible refine lst (by with_unfolding_all rfl) (wp_fld1 hF2 Tryd.underlying3 rfl (by with_unfolding_all exact ⟨_, rfl, rfl⟩) rfl ?_)) | (with_reducible refine lst (by with_unfolding_all rfl) (wp_fbuild Tryd.underlying33 (z := .agg (List.toArray vl0)) (by kernel_rfl) (pl := vlP) (by kernel_rfl) (cs := (vlL 0 0 ⟨#[]⟩ (.slice none 0 0) (.slice none 0 0))) rfl (vs := []) (by with_unfolding_all rfl) (by with_unfolding_all rfl) ?_)) | ((with_reducible refine lst (by with_unfolding_all rfl) (wp_fstA0 hF2 (by with_unfolding_all exact ⟨_, _, rfl, rfl, rfl⟩) (by rw [vlL_len]; kernel_rfl) vlL_one vlL_fit vlL_spl ?_)); intro w3 hF3 hz3))
    exact bodyPost_ret (results_cellF rfl _ hF3 (i := 0) rfl rfl Tryd.underlying33 rfl (by rw [vlL_len]; kernel_rfl)) rfl (RVal.of VT.leaf (((hF3.tail.pushNone 5).pushNone 1).picks [2, 0, 1] rfl (by decide)) (.inr ⟨by decide, hend.out⟩))
  | some x =>
    have hxb := x.toNat_lt
    have hplt := (List.getElem?_eq_some_iff.1 hx).1
    rw [hl.out] at hplt
    have hJ : jValueW b val p m = jValueW b val p m := rfl
    conv at hJ => rhs; unfold jValueW
    rw [hx] at hJ
    simp only [] at hJ
    have hwa := box (fun g1 w' (hF : Fr [g] w w' [.blk g1 33 vl0, .blk g 68 (rrL A n c p 0 0 m)]) => rwant_in hx (hF.blk (i := 1) rfl) (hF.rdB hg hB hr))
    by_cases hm4 : m = 4096
    · rw [if_pos hm4] at hJ
      have hend := box hJ
      have hm5 : ((m : Int) == 4096) = true := by rw [hm4]; rfl
      clear hJ hx hl5 hl6 hm4 hve
      replace hm := box hm
      go_enter Tryd.func29, Tryd.ntmps29
      go_wp2_with (first | ((with_reducible refine lst (by with_unfolding_all rfl) (wp_falloc hF0 (cs := vl0) (z := .agg (List.toArray (vl0))) rfl (by kernel_rfl) (by with_unfolding_all rfl) ?_)); intro w1 g1 hF1 hz1))
      refine (hwa.out _ _ hF1).mono ?_
      rintro e w2 ⟨rfl, h2⟩
      have hF2 := hF1.putF (i := 1) rfl h2
      simp only [List.set_cons_succ, List.set_cons_zero] at hF2
      clear hwa hF1
      go_wp2_with (first | (with_reducible refine lst (by with_unfolding_all rfl) (wp_fld1 hF2 Tryd.underlying3 rfl (by with_unfolding_all exact ⟨_, rfl, rfl⟩) rfl ?_)))
      refine (rfail_ok g A n c p m (p, 8) _ (hF2.blk (i := 1) rfl)).mono ?_
      rintro e w3 ⟨rfl, h3⟩
      have hF3 := hF2.putF (i := 1) rfl h3
      simp only [List.set_cons_succ, List.set_cons_zero] at hF3
      go_wp2_with (first | (with_reducible refine lst (by with_unfolding_all rfl) (wp_fbuild Tryd.underlying33 (z := .agg (List.toArray vl0)) (by kernel_rfl) (pl := vlP) (by kernel_rfl) (cs := (vlL 0 0 ⟨#[]⟩ (.slice none 0 0) (.slice none 0 0))) rfl (vs := []) (by with_unfolding_all rfl) (by with_unfolding_all rfl) ?_)) | ((with_reducible refine lst (by with_unfolding_all rfl) (wp_fstA0 hF3 (by with_unfolding_all exact ⟨_, _, rfl, rfl, rfl⟩) (by rw [vlL_len]; kernel_rfl) vlL_one vlL_fit vlL_spl ?_)); intro w4 hF4 hz4))
      exact bodyPost_ret (results_cellF rfl _ hF4 (i := 0) rfl rfl Tryd.underlying33 rfl (by rw [vlL_len]; kernel_rfl)) rfl (RVal.of VT.leaf (((hF4.tail.pushNone 5).pushNone 1).picks [2, 0, 1] rfl (by decide)) (.inr ⟨by decide, hend.out⟩))
    rw [if_neg hm4] at hJ
    have hm5 : ((m : Int) == 4096) = false := by rw [beq_eq_false_iff_ne]; omega
    have hmlt : m < 4096 := by omega
    clear hm4
    replace hx := box hx
    by_cases hx110 : x = 110
    · subst hx110
      rw [if_pos rfl] at hJ
      have hJb : Box (jValueW b val p m = jb (jWord b [110, 117, 108, 108] p) fun q => .ok (.null, q, m + 1)) := box (by rw [hJ]; unfold jLit jb; cases jWord b [110, 117, 108, 108] p <;> rfl)
      clear hJ hl5 hl6 hve
      go_enter Tryd.func29, Tryd.ntmps29
      go_wp2_with (first | ((with_reducible refine lst (by with_unfolding_all rfl) (wp_falloc hF0 (cs := vl0) (z := .agg (List.toArray (vl0))) rfl (by kernel_rfl) (by with_unfolding_all rfl) ?_)); intro w1 g1 hF1 hz1))
      refine (hwa.out _ _ hF1).mono ?_
      rintro e w2 ⟨rfl, h2⟩
      have hF2 := hF1.putF (i := 1) rfl h2
      simp only [List.set_cons_succ, List.set_cons_zero] at hF2
      clear hF1 hwa h2
      go_wp2_with (first | (with_reducible refine lst (by with_unfolding_all rfl) (wp_fld1 hF2 Tryd.underlying3 rfl (by with_unfolding_all exact ⟨_, rfl, rfl⟩) rfl ?_)) | ((with_reducible refine lst (by with_unfolding_all rfl) (wp_fst1 hF2 (by with_unfolding_all exact ⟨_, _, rfl, rfl, rfl⟩) (by kernel_rfl) rfl rfl (by rw [rrL_len]; decide) (rrL_it (v := (m : Int) + 1) (q := m + 1) (by omega)) ?_)); intro w3 hF3 hz3))
      clear hF2
      refine (rword_u ⟨#[110, 117, 108, 108]⟩ (by decide) (fun _ => rfl) (hF3.blk (i := 1) rfl) hg (Nat.le_trans hB hF3.size) hn (fun _ => hp) (hF3.rdB hg hB hr)).mono ?_
      rintro e w5 ⟨rfl, p5, f5, wh5, m5, h5, hJw, hm6⟩
      have hF5 := hF3.putF (i := 1) rfl h5
      simp only [List.set_cons_succ, List.set_cons_zero] at hF5
      have hJe : Box (JS (jValueW b val p m) f5 wh5 (.ok (.null, p5, m5))) := box ((JS.step (k := fun q => .ok (.null, q, m + 1)) (.inl ⟨rfl, rfl, hJb.out⟩) hJw).congr (fun h => by rw [hm6 h]))
      clear h5 hJw hm6 hF3 hJb
      go_wp2_with (first | (with_reducible refine lst (by with_unfolding_all rfl) (wp_fbuild Tryd.underlying33 (z := .agg (List.toArray vl0)) (by kernel_rfl) (pl := vlP) (by kernel_rfl) (cs := (vlL 0 0 ⟨#[]⟩ (.slice none 0 0) (.slice none 0 0))) rfl (vs := []) (by with_unfolding_all rfl) (by with_unfolding_all rfl) ?_)) | ((with_reducible refine lst (by with_unfolding_all rfl) (wp_fstA0 hF5 (by with_unfolding_all exact ⟨_, _, rfl, rfl, rfl⟩) (by rw [vlL_len]; kernel_rfl) vlL_one vlL_fit vlL_spl ?_)); intro w6 hF6 hz6))
      exact bodyPost_ret (results_cellF rfl _ hF6 (i := 0) rfl rfl Tryd.underlying33 rfl (by rw [vlL_len]; kernel_rfl)) rfl (RVal.of VT.leaf (((hF6.tail.pushNone 5).pushNone 1).picks [2, 0, 1] rfl (by decide)) hJe.out)
    rw [if_neg hx110] at hJ
    have n110 : ((x.toNat : Int) == 110) = false := u8_ne hx110
    clear hx110
    by_cases hx102 : x = 102
    · subst hx102
      rw [if_pos rfl] at hJ
      have hJb : Box (jValueW b val p m = jb (jWord b [102, 97, 108, 115, 101] p) fun q => .ok ((.mk 1 0 [] [] []), q, m + 1)) := box (by rw [hJ]; unfold jLit jb; cases jWord b [102, 97, 108, 115, 101] p <;> rfl)
      clear hJ hl5 hl6 hve
      go_enter Tryd.func29, Tryd.ntmps29
      go_wp2_with (first | ((with_reducible refine lst (by with_unfolding_all rfl) (wp_falloc hF0 (cs := vl0) (z := .agg (List.toArray (vl0))) rfl (by kernel_rfl) (by with_unfolding_all rfl) ?_)); intro w1 g1 hF1 hz1))
      refine (hwa.out _ _ hF1).mono ?_
      rintro e w2 ⟨rfl, h2⟩
      have hF2 := hF1.putF (i := 1) rfl h2
      simp only [List.set_cons_succ, List.set_cons_zero] at hF2
      clear hF1 hwa h2
      go_wp2_with (first | (with_reducible refine lst (by with_unfolding_all rfl) (wp_fld1 hF2 Tryd.underlying3 rfl (by with_unfolding_all exact ⟨_, rfl, rfl⟩) rfl ?_)) | ((with_reducible refine lst (by with_unfolding_all rfl) (wp_fst1 hF2 (by with_unfolding_all exact ⟨_, _, rfl, rfl, rfl⟩) (by kernel_rfl) rfl rfl (by rw [rrL_len]; decide) (rrL_it (v := (m : Int) + 1) (q := m + 1) (by omega)) ?_)); intro w3 hF3 hz3))
      clear hF2
      refine (rword_u ⟨#[102, 97, 108, 115, 101]⟩ (by decide) (fun _ => rfl) (hF3.blk (i := 1) rfl) hg (Nat.le_trans hB hF3.size) hn (fun _ => hp) (hF3.rdB hg hB hr)).mono ?_
      rintro e w5 ⟨rfl, p5, f5, wh5, m5, h5, hJw, hm6⟩
      have hF5 := hF3.putF (i := 1) rfl h5
      simp only [List.set_cons_succ, List.set_cons_zero] at hF5
      have hJe : Box (JS (jValueW b val p m) f5 wh5 (.ok ((.mk 1 0 [] [] []), p5, m5))) := box ((JS.step (k := fun q => .ok ((.mk 1 0 [] [] []), q, m + 1)) (.inl ⟨rfl, rfl, hJb.out⟩) hJw).congr (fun h => by rw [hm6 h]))
      clear h5 hJw hm6 hF3 hJb
      go_wp2_with (first | (with_reducible refine lst (by with_unfolding_all rfl) (wp_fbuild Tryd.underlying33 (z := .agg (List.toArray vl0)) (by kernel_rfl) (pl := vlP) (by kernel_rfl) (cs := (vlL 1 0 ⟨#[]⟩ (.slice none 0 0) (.slice none 0 0))) rfl (vs := [(0, .int .i64 1)]) (by with_unfolding_all rfl) (by with_unfolding_all rfl) ?_)) | ((with_reducible refine lst (by with_unfolding_all rfl) (wp_fstA0 hF5 (by with_unfolding_all exact ⟨_, _, rfl, rfl, rfl⟩) (by rw [vlL_len]; kernel_rfl) vlL_one vlL_fit vlL_spl ?_)); intro w6 hF6 hz6))
      exact bodyPost_ret (results_cellF rfl _ hF6 (i := 0) rfl rfl Tryd.underlying33 rfl (by rw [vlL_len]; kernel_rfl)) rfl (RVal.of VT.leaf (((hF6.tail.pushNone 5).pushNone 1).picks [2, 0, 1] rfl (by decide)) hJe.out)
    rw [if_neg hx102] at hJ
    have n102 : ((x.toNat : Int) == 102) = false := u8_ne hx102
    clear hx102
    by_cases hx116 : x = 116
    · subst hx116
      rw [if_pos rfl] at hJ
      have hJb : Box (jValueW b val p m = jb (jWord b [116, 114, 117, 101] p) fun q => .ok ((.mk 2 0 [] [] []), q, m + 1)) := box (by rw [hJ]; unfold jLit jb; cases jWord b [116, 114, 117, 101] p <;> rfl)
      clear hJ hl5 hl6 hve
      go_enter Tryd.func29, Tryd.ntmps29
      go_wp2_with (first | ((with_reducible refine lst (by with_unfolding_all rfl) (wp_falloc hF0 (cs := vl0) (z := .agg (List.toArray (vl0))) rfl (by kernel_rfl) (by with_unfolding_all rfl) ?_)); intro w1 g1 hF1 hz1))
      refine (hwa.out _ _ hF1).mono ?_
      rintro e w2 ⟨rfl, h2⟩
      have hF2 := hF1.putF (i := 1) rfl h2
      simp only [List.set_cons_succ, List.set_cons_zero] at hF2
      clear hF1 hwa h2
      go_wp2_with (first | (with_reducible refine lst (by with_unfolding_all rfl) (wp_fld1 hF2 Tryd.underlying3 rfl (by with_unfolding_all exact ⟨_, rfl, rfl⟩) rfl ?_)) | ((with_reducible refine lst (by with_unfolding_all rfl) (wp_fst1 hF2 (by with_unfolding_all exact ⟨_, _, rfl, rfl, rfl⟩) (by kernel_rfl) rfl rfl (by rw [rrL_len]; decide) (rrL_it (v := (m : Int) + 1) (q := m + 1) (by omega)) ?_)); intro w3 hF3 hz3))
      clear hF2
      refine (rword_u ⟨#[116, 114, 117, 101]⟩ (by decide) (fun _ => rfl) (hF3.blk (i := 1) rfl) hg (Nat.le_trans hB hF3.size) hn (fun _ => hp) (hF3.rdB hg hB hr)).mono ?_
      rintro e w5 ⟨rfl, p5, f5, wh5, m5, h5, hJw, hm6⟩
      have hF5 := hF3.putF (i := 1) rfl h5
      simp only [List.set_cons_succ, List.set_cons_zero] at hF5
      have hJe : Box (JS (jValueW b val p m) f5 wh5 (.ok ((.mk 2 0 [] [] []), p5, m5))) := box ((JS.step (k := fun q => .ok ((.mk 2 0 [] [] []), q, m + 1)) (.inl ⟨rfl, rfl, hJb.out⟩) hJw).congr (fun h => by rw [hm6 h]))
      clear h5 hJw hm6 hF3 hJb
      go_wp2_with (first | (with_reducible refine lst (by with_unfolding_all rfl) (wp_fbuild Tryd.underlying33 (z := .agg (List.toArray vl0)) (by kernel_rfl) (pl := vlP) (by kernel_rfl) (cs := (vlL 2 0 ⟨#[]⟩ (.slice none 0 0) (.slice none 0 0))) rfl (vs := [(0, .int .i64 2)]) (by with_unfolding_all rfl) (by with_unfolding_all rfl) ?_)) | ((with_reducible refine lst (by with_unfolding_all rfl) (wp_fstA0 hF5 (by with_unfolding_all exact ⟨_, _, rfl, rfl, rfl⟩) (by rw [vlL_len]; kernel_rfl) vlL_one vlL_fit vlL_spl ?_)); intro w6 hF6 hz6))
      exact bodyPost_ret (results_cellF rfl _ hF6 (i := 0) rfl rfl Tryd.underlying33 rfl (by rw [vlL_len]; kernel_rfl)) rfl (RVal.of VT.leaf (((hF6.tail.pushNone 5).pushNone 1).picks [2, 0, 1] rfl (by decide)) hJe.out)
    rw [if_neg hx116] at hJ
    have n116 : ((x.toNat : Int) == 116) = false := u8_ne hx116
    clear hx116
    by_cases hnm : x = 45 ∨ jDig x = true
    · rw [if_pos hnm] at hJ
      have hnum : Box (jNumC x = true) := box (by unfold jNumC; rcases hnm with h | h <;> simp [h])
      have hcd : ((x.toNat : Int) == 45) = true ∨ ((x.toNat : Int) == 45) = false ∧ decide ((48 : Int) ≤ (x.toNat : Int)) = true ∧ decide ((x.toNat : Int) ≤ 57) = true := by
        by_cases h45 : x = 45
        · left; rw [h45]; rfl
        · right; have := dig_char (hnm.resolve_left h45); exact ⟨u8_ne h45, decide_eq_true (by omega), decide_eq_true (by omega)⟩
      clear hnm
      rcases hcd with hcd | ⟨hcd, hcd1, hcd2⟩
      · skip
        have hJb : Box (jValueW b val p m = jNumV b p (m + 1)) := box (by rw [hJ]; unfold jNumV; rfl)
        have her : Box (JEr (jNumV b p (m + 1))) := box (by unfold jNumV; intro y hy; have h1 := jNumber_er b p; cases hN : jNumber b p with | error z => rw [hN] at hy; injection hy with hy; subst hy; exact h1 _ hN | ok z => rw [hN] at hy; cases hy)
        clear hJ hl5 hl6 hve
        go_enter Tryd.func29, Tryd.ntmps29
        go_wp2_with (first | ((with_reducible refine lst (by with_unfolding_all rfl) (wp_falloc hF0 (cs := vl0) (z := .agg (List.toArray (vl0))) rfl (by kernel_rfl) (by with_unfolding_all rfl) ?_)); intro w1 g1 hF1 hz1))
        refine (hwa.out _ _ hF1).mono ?_
        rintro e w2 ⟨rfl, h2⟩
        have hF2 := hF1.putF (i := 1) rfl h2
        simp only [List.set_cons_succ, List.set_cons_zero] at hF2
        clear hF1 hwa h2
        go_wp2_with (first | (with_reducible refine lst (by with_unfolding_all rfl) (wp_fld1 hF2 Tryd.underlying3 rfl (by with_unfolding_all exact ⟨_, rfl, rfl⟩) rfl ?_)) | ((with_reducible refine lst (by with_unfolding_all rfl) (wp_fst1 hF2 (by with_unfolding_all exact ⟨_, _, rfl, rfl, rfl⟩) (by kernel_rfl) rfl rfl (by rw [rrL_len]; decide) (rrL_it (v := (m : Int) + 1) (q := m + 1) (by omega)) ?_)); intro w3 hF3 hz3))
        clear hF2
        refine (rnumber_ok g A n c p (m + 1) B b _ (hF3.blk (i := 1) rfl) hg (Nat.le_trans hB hF3.size) hn hnc hplt (hF3.rdB hg hB hr) x hx.out hnum.out).mono ?_
        rintro e w5 h5'
        obtain ⟨cs, es, v, p5, f5, wh5, m5, rfl, hvt, h5, hJv⟩ := h5'.u her.out
        clear h5'
        have hF5 := hF3.putG (i := 1) rfl h5
        simp only [List.set_cons_succ, List.set_cons_zero, List.cons_append, List.nil_append] at hF5
        have hvl := box hvt.len
        have hvo := box hvt.one
        replace hvt := box hvt
        replace hJv := box hJv
        clear h5 hF3
        go_wp2_with (first | ((with_reducible refine lst (by with_unfolding_all rfl) (wp_fstA0 hF5 (by with_unfolding_all exact ⟨_, _, rfl, rfl, rfl⟩) (by rw [hvl.out]; kernel_rfl) hvo.out (by rw [hvl.out, vlL_len]; decide) (spl_all (by rw [hvl.out, vlL_len])) ?_)); intro w6 hF6 hz6))
        exact bodyPost_ret (results_cellF rfl _ hF6 (i := 0) rfl rfl Tryd.underlying33 rfl (by rw [hvl.out]; kernel_rfl)) rfl (RVal.of hvt.out hF6.tail (.congr (hJb.out ▸ hJv.out) (fun _ => rfl)))
      · skip
        have hJb : Box (jValueW b val p m = jNumV b p (m + 1)) := box (by rw [hJ]; unfold jNumV; rfl)
        have her : Box (JEr (jNumV b p (m + 1))) := box (by unfold jNumV; intro y hy; have h1 := jNumber_er b p; cases hN : jNumber b p with | error z => rw [hN] at hy; injection hy with hy; subst hy; exact h1 _ hN | ok z => rw [hN] at hy; cases hy)
        clear hJ hl5 hl6 hve
        go_enter Tryd.func29, Tryd.ntmps29
        go_wp2_with (first | ((with_reducible refine lst (by with_unfolding_all rfl) (wp_falloc hF0 (cs := vl0) (z := .agg (List.toArray (vl0))) rfl (by kernel_rfl) (by with_unfolding_all rfl) ?_)); intro w1 g1 hF1 hz1))
        refine (hwa.out _ _ hF1).mono ?_
        rintro e w2 ⟨rfl, h2⟩
        have hF2 := hF1.putF (i := 1) rfl h2
        simp only [List.set_cons_succ, List.set_cons_zero] at hF2
        clear hF1 hwa h2
        go_wp2_with (first | (with_reducible refine lst (by with_unfolding_all rfl) (wp_fld1 hF2 Tryd.underlying3 rfl (by with_unfolding_all exact ⟨_, rfl, rfl⟩) rfl ?_)) | ((with_reducible refine lst (by with_unfolding_all rfl) (wp_fst1 hF2 (by with_unfolding_all exact ⟨_, _, rfl, rfl, rfl⟩) (by kernel_rfl) rfl rfl (by rw [rrL_len]; decide) (rrL_it (v := (m : Int) + 1) (q := m + 1) (by omega)) ?_)); intro w3 hF3 hz3))
        clear hF2
        refine (rnumber_ok g A n c p (m + 1) B b _ (hF3.blk (i := 1) rfl) hg (Nat.le_trans hB hF3.size) hn hnc hplt (hF3.rdB hg hB hr) x hx.out hnum.out).mono ?_
        rintro e w5 h5'
        obtain ⟨cs, es, v, p5, f5, wh5, m5, rfl, hvt, h5, hJv⟩ := h5'.u her.out
        clear h5'
        have hF5 := hF3.putG (i := 1) rfl h5
        simp only [List.set_cons_succ, List.set_cons_zero, List.cons_append, List.nil_append] at hF5
        have hvl := box hvt.len
        have hvo := box hvt.one
        replace hvt := box hvt
        replace hJv := box hJv
        clear h5 hF3
        go_wp2_with (first | ((with_reducible refine lst (by with_unfolding_all rfl) (wp_fstA0 hF5 (by with_unfolding_all exact ⟨_, _, rfl, rfl, rfl⟩) (by rw [hvl.out]; kernel_rfl) hvo.out (by rw [hvl.out, vlL_len]; decide) (spl_all (by rw [hvl.out, vlL_len])) ?_)); intro w6 hF6 hz6))
        exact bodyPost_ret (results_cellF rfl _ hF6 (i := 0) rfl rfl Tryd.underlying33 rfl (by rw [hvl.out]; kernel_rfl)) rfl (RVal.of hvt.out hF6.tail (.congr (hJb.out ▸ hJv.out) (fun _ => rfl)))
    rw [if_neg hnm] at hJ
    have nd : (((x.toNat : Int) == 45) = false) ∧ (decide ((48 : Int) ≤ (x.toNat : Int)) = false ∨ decide ((48 : Int) ≤ (x.toNat : Int)) = true ∧ decide ((x.toNat : Int) ≤ 57) = false) := by
      refine ⟨u8_ne (fun h => hnm (.inl h)), ?_⟩
      by_cases h48 : 48 ≤ x.toNat
      · right; refine ⟨decide_eq_true (by omega), decide_eq_false (fun h => hnm (.inr ?_))⟩; simp [jDig]; omega
      · left; exact decide_eq_false (by omega)
    obtain ⟨n45, nd⟩ := nd
    clear hnm
    by_cases hx34 : x = 34
    · subst hx34
      rw [if_pos rfl] at hJ
      have hJb : Box (jValueW b val p m = jb (jText b p) fun y => .ok (.mk 4 0 y.1 [] [], y.2, m + 1)) := box (by rw [hJ]; unfold jb; cases jText b p <;> rfl)
      clear hJ hl5 hl6 hve
      go_enter Tryd.func29, Tryd.ntmps29
      go_wp2_with (first | ((with_reducible refine lst (by with_unfolding_all rfl) (wp_falloc hF0 (cs := vl0) (z := .agg (List.toArray (vl0))) rfl (by kernel_rfl) (by with_unfolding_all rfl) ?_)); intro w1 g1 hF1 hz1))
      refine (hwa.out _ _ hF1).mono ?_
      rintro e w2 ⟨rfl, h2⟩
      have hF2 := hF1.putF (i := 1) rfl h2
      simp only [List.set_cons_succ, List.set_cons_zero] at hF2
      clear hF1 hwa h2
      go_wp2_with (first | (with_reducible refine lst (by with_unfolding_all rfl) (wp_fld1 hF2 Tryd.underlying3 rfl (by with_unfolding_all exact ⟨_, rfl, rfl⟩) rfl ?_)) | ((with_reducible refine lst (by with_unfolding_all rfl) (wp_fst1 hF2 (by with_unfolding_all exact ⟨_, _, rfl, rfl, rfl⟩) (by kernel_rfl) rfl rfl (by rw [rrL_len]; decide) (rrL_it (v := (m : Int) + 1) (q := m + 1) (by omega)) ?_)); intro w3 hF3 hz3))
      clear hF2
      refine (rtext_u (hF3.blk (i := 1) rfl) hg (Nat.le_trans hB hF3.size) hn hnc hp (hF3.rdB hg hB hr)).mono ?_
      rintro e w5 ⟨s, p5, f5, wh5, m5, rfl, h5, hJw, hm6⟩
      have hF5 := hF3.putF (i := 1) rfl h5
      simp only [List.set_cons_succ, List.set_cons_zero] at hF5
      have hJe : Box (JS (jValueW b val p m) f5 wh5 (.ok (.mk 4 0 s [] [], p5, m5))) := box ((JS.step (k := fun (y : List UInt8 × Nat) => .ok (.mk 4 0 y.1 [] [], y.2, m + 1)) (.inl ⟨rfl, rfl, hJb.out⟩) (by rw [jr_ok]; exact hJw)).congr (fun h => by rw [hm6 h]))
      clear h5 hJw hm6 hF3 hJb
      go_wp2_with (first | (with_reducible refine lst (by with_unfolding_all rfl) (wp_fbuild Tryd.underlying33 (z := .agg (List.toArray vl0)) (by kernel_rfl) (pl := vlP) (by kernel_rfl) (cs := (vlL 4 0 ⟨s.toArray⟩ (.slice none 0 0) (.slice none 0 0))) rfl (vs := [(0, .int .i64 4), (2, .string ⟨s.toArray⟩)]) (by with_unfolding_all rfl) (by with_unfolding_all rfl) ?_)) | ((with_reducible refine lst (by with_unfolding_all rfl) (wp_fstA0 hF5 (by with_unfolding_all exact ⟨_, _, rfl, rfl, rfl⟩) (by rw [vlL_len]; kernel_rfl) vlL_one vlL_fit vlL_spl ?_)); intro w6 hF6 hz6))
      exact bodyPost_ret (results_cellF rfl _ hF6 (i := 0) rfl rfl Tryd.underlying33 rfl (by rw [vlL_len]; kernel_rfl)) rfl (RVal.of VT.leaf (((hF6.tail.pushNone 5).pushNone 1).picks [2, 0, 1] rfl (by decide)) hJe.out)
    rw [if_neg hx34] at hJ
    have n34 : ((x.toNat : Int) == 34) = false := u8_ne hx34
    clear hx34
    by_cases hx91 : x = 91
    · subst hx91
      rw [if_pos rfl] at hJ
      have hJb := box hJ
      have her := box (jMany_er b 5 93 hve p (m + 1))
      have hmn := box (fun w' h1 h2 h3 => hl5 w' hplt hmlt h1 h2 h3)
      clear hJ hl5 hl6 hve
      go_enter Tryd.func29, Tryd.ntmps29
      go_wp2_with (first | ((with_reducible refine lst (by with_unfolding_all rfl) (wp_falloc hF0 (cs := vl0) (z := .agg (List.toArray (vl0))) rfl (by kernel_rfl) (by with_unfolding_all rfl) ?_)); intro w1 g1 hF1 hz1))
      refine (hwa.out _ _ hF1).mono ?_
      rintro e w2 ⟨rfl, h2⟩
      have hF2 := hF1.putF (i := 1) rfl h2
      simp only [List.set_cons_succ, List.set_cons_zero] at hF2
      clear hF1 hwa h2
      go_wp2_with (first | (with_reducible refine lst (by with_unfolding_all rfl) (wp_fld1 hF2 Tryd.underlying3 rfl (by with_unfolding_all exact ⟨_, rfl, rfl⟩) rfl ?_)) | ((with_reducible refine lst (by with_unfolding_all rfl) (wp_fst1 hF2 (by with_unfolding_all exact ⟨_, _, rfl, rfl, rfl⟩) (by kernel_rfl) rfl rfl (by rw [rrL_len]; decide) (rrL_it (v := (m : Int) + 1) (q := m + 1) (by omega)) ?_)); intro w3 hF3 hz3))
      clear hF2
      refine (hmn.out _ (hF3.blk (i := 1) rfl) (Nat.le_trans hB hF3.size) (hF3.rdB hg hB hr)).mono ?_
      rintro e w5 h5'
      obtain ⟨cs, es, v, p5, f5, wh5, m5, rfl, hvt, h5, hJv⟩ := h5'.u her.out
      clear h5' hmn
      have hF5 := hF3.putG (i := 1) rfl h5
      simp only [List.set_cons_succ, List.set_cons_zero, List.cons_append, List.nil_append] at hF5
      have hvl := box hvt.len
      have hvo := box hvt.one
      replace hvt := box hvt
      replace hJv := box hJv
      clear h5 hF3
      go_wp2_with (first | ((with_reducible refine lst (by with_unfolding_all rfl) (wp_fstA0 hF5 (by with_unfolding_all exact ⟨_, _, rfl, rfl, rfl⟩) (by rw [hvl.out]; kernel_rfl) hvo.out (by rw [hvl.out, vlL_len]; decide) (spl_all (by rw [hvl.out, vlL_len])) ?_)); intro w6 hF6 hz6))
      exact bodyPost_ret (results_cellF rfl _ hF6 (i := 0) rfl rfl Tryd.underlying33 rfl (by rw [hvl.out]; kernel_rfl)) rfl (RVal.of hvt.out hF6.tail (.congr (hJb.out ▸ hJv.out) (fun _ => rfl)))
    rw [if_neg hx91] at hJ
    have n91 : ((x.toNat : Int) == 91) = false := u8_ne hx91
    clear hx91
    by_cases hx123 : x = 123
    · subst hx123
      rw [if_pos rfl] at hJ
      have hJb := box hJ
      have her := box (jMany_er b 6 125 hve p (m + 1))
      have hmn := box (fun w' h1 h2 h3 => hl6 w' hplt hmlt h1 h2 h3)
      clear hJ hl5 hl6 hve
      go_enter Tryd.func29, Tryd.ntmps29
      go_wp2_with (first | ((with_reducible refine lst (by with_unfolding_all rfl) (wp_falloc hF0 (cs := vl0) (z := .agg (List.toArray (vl0))) rfl (by kernel_rfl) (by with_unfolding_all rfl) ?_)); intro w1 g1 hF1 hz1))
      refine (hwa.out _ _ hF1).mono ?_
      rintro e w2 ⟨rfl, h2⟩
      have hF2 := hF1.putF (i := 1) rfl h2
      simp only [List.set_cons_succ, List.set_cons_zero] at hF2
      clear hF1 hwa h2
      go_wp2_with (first | (with_reducible refine lst (by with_unfolding_all rfl) (wp_fld1 hF2 Tryd.underlying3 rfl (by with_unfolding_all exact ⟨_, rfl, rfl⟩) rfl ?_)) | ((with_reducible refine lst (by with_unfolding_all rfl) (wp_fst1 hF2 (by with_unfolding_all exact ⟨_, _, rfl, rfl, rfl⟩) (by kernel_rfl) rfl rfl (by rw [rrL_len]; decide) (rrL_it (v := (m : Int) + 1) (q := m + 1) (by omega)) ?_)); intro w3 hF3 hz3))
      clear hF2
      refine (hmn.out _ (hF3.blk (i := 1) rfl) (Nat.le_trans hB hF3.size) (hF3.rdB hg hB hr)).mono ?_
      rintro e w5 h5'
      obtain ⟨cs, es, v, p5, f5, wh5, m5, rfl, hvt, h5, hJv⟩ := h5'.u her.out
      clear h5' hmn
      have hF5 := hF3.putG (i := 1) rfl h5
      simp only [List.set_cons_succ, List.set_cons_zero, List.cons_append, List.nil_append] at hF5
      have hvl := box hvt.len
      have hvo := box hvt.one
      replace hvt := box hvt
      replace hJv := box hJv
      clear h5 hF3
      go_wp2_with (first | ((with_reducible refine lst (by with_unfolding_all rfl) (wp_fstA0 hF5 (by with_unfolding_all exact ⟨_, _, rfl, rfl, rfl⟩) (by rw [hvl.out]; kernel_rfl) hvo.out (by rw [hvl.out, vlL_len]; decide) (spl_all (by rw [hvl.out, vlL_len])) ?_)); intro w6 hF6 hz6))
      exact bodyPost_ret (results_cellF rfl _ hF6 (i := 0) rfl rfl Tryd.underlying33 rfl (by rw [hvl.out]; kernel_rfl)) rfl (RVal.of hvt.out hF6.tail (.congr (hJb.out ▸ hJv.out) (fun _ => rfl)))
    rw [if_neg hx123] at hJ
    have n123 : ((x.toNat : Int) == 123) = false := u8_ne hx123
    clear hx123
    have hend := box hJ
    clear hJ hl5 hl6 hve
    rcases nd with nd | ⟨nd, nd2⟩
    · skip
      go_enter Tryd.func29, Tryd.ntmps29
      go_wp2_with (first | ((with_reducible refine lst (by with_unfolding_all rfl) (wp_falloc hF0 (cs := vl0) (z := .agg (List.toArray (vl0))) rfl (by kernel_rfl) (by with_unfolding_all rfl) ?_)); intro w1 g1 hF1 hz1))
      refine (hwa.out _ _ hF1).mono ?_
      rintro e w2 ⟨rfl, h2⟩
      have hF2 := hF1.putF (i := 1) rfl h2
      simp only [List.set_cons_succ, List.set_cons_zero] at hF2
      clear hF1 hwa h2
      go_wp2_with (first | (with_reducible refine lst (by with_unfolding_all rfl) (wp_fld1 hF3 Tryd.underlying3 rfl (by with_unfolding_all exact ⟨_, rfl, rfl⟩) rfl ?_)) | (with_reducible refine lst (by with_unfolding_all rfl) (wp_fld1 hF2 Tryd.underlying3 rfl (by with_unfolding_all exact ⟨_, rfl, rfl⟩) rfl ?_)) | ((with_reducible refine lst (by with_unfolding_all rfl) (wp_fst1 hF2 (by with_unfolding_all exact ⟨_, _, rfl, rfl, rfl⟩) (by kernel_rfl) rfl rfl (by rw [rrL_len]; decide) (rrL_it (v := (m : Int) + 1) (q := m + 1) (by omega)) ?_)); intro w3 hF3 hz3))
      clear hF2
      refine (rfail_ok g A n c p (m + 1) (p, 10) _ (hF3.blk (i := 1) rfl)).mono ?_
      rintro e w4 ⟨rfl, h4⟩
      have hF4 := hF3.putF (i := 1) rfl h4
      simp only [List.set_cons_succ, List.set_cons_zero] at hF4
      go_wp2_with (first | (with_reducible refine lst (by with_unfolding_all rfl) (wp_fbuild Tryd.underlying33 (z := .agg (List.toArray vl0)) (by kernel_rfl) (pl := vlP) (by kernel_rfl) (cs := (vlL 0 0 ⟨#[]⟩ (.slice none 0 0) (.slice none 0 0))) rfl (vs := []) (by with_unfolding_all rfl) (by with_unfolding_all rfl) ?_)) | ((with_reducible refine lst (by with_unfolding_all rfl) (wp_fstA0 hF4 (by with_unfolding_all exact ⟨_, _, rfl, rfl, rfl⟩) (by rw [vlL_len]; kernel_rfl) vlL_one vlL_fit vlL_spl ?_)); intro w5 hF5 hz5))
      exact bodyPost_ret (results_cellF rfl _ hF5 (i := 0) rfl rfl Tryd.underlying33 rfl (by rw [vlL_len]; kernel_rfl)) rfl (RVal.of VT.leaf (((hF5.tail.pushNone 5).pushNone 1).picks [2, 0, 1] rfl (by decide)) (.inr ⟨by decide, hend.out⟩))
    · skip
      go_enter Tryd.func29, Tryd.ntmps29
      go_wp2_with (first | ((with_reducible refine lst (by with_unfolding_all rfl) (wp_falloc hF0 (cs := vl0) (z := .agg (List.toArray (vl0))) rfl (by kernel_rfl) (by with_unfolding_all rfl) ?_)); intro w1 g1 hF1 hz1))
      refine (hwa.out _ _ hF1).mono ?_
      rintro e w2 ⟨rfl, h2⟩
      have hF2 := hF1.putF (i := 1) rfl h2
      simp only [List.set_cons_succ, List.set_cons_zero] at hF2
      clear hF1 hwa h2
      go_wp2_with (first | (with_reducible refine lst (by with_unfolding_all rfl) (wp_fld1 hF3 Tryd.underlying3 rfl (by with_unfolding_all exact ⟨_, rfl, rfl⟩) rfl ?_)) | (with_reducible refine lst (by with_unfolding_all rfl) (wp_fld1 hF2 Tryd.underlying3 rfl (by with_unfolding_all exact ⟨_, rfl, rfl⟩) rfl ?_)) | ((with_reducible refine lst (by with_unfolding_all rfl) (wp_fst1 hF2 (by with_unfolding_all exact ⟨_, _, rfl, rfl, rfl⟩) (by kernel_rfl) rfl rfl (by rw [rrL_len]; decide) (rrL_it (v := (m : Int) + 1) (q := m + 1) (by omega)) ?_)); intro w3 hF3 hz3))
      clear hF2
      refine (rfail_ok g A n c p (m + 1) (p, 10) _ (hF3.blk (i := 1) rfl)).mono ?_
      rintro e w4 ⟨rfl, h4⟩
      have hF4 := hF3.putF (i := 1) rfl h4
      simp only [List.set_cons_succ, List.set_cons_zero] at hF4
      go_wp2_with (first | (with_reducible refine lst (by with_unfolding_all rfl) (wp_fbuild Tryd.underlying33 (z := .agg (List.toArray vl0)) (by kernel_rfl) (pl := vlP) (by kernel_rfl) (cs := (vlL 0 0 ⟨#[]⟩ (.slice none 0 0) (.slice none 0 0))) rfl (vs := []) (by with_unfolding_all rfl) (by with_unfolding_all rfl) ?_)) | ((with_reducible refine lst (by with_unfolding_all rfl) (wp_fstA0 hF4 (by with_unfolding_all exact ⟨_, _, rfl, rfl, rfl⟩) (by rw [vlL_len]; kernel_rfl) vlL_one vlL_fit vlL_spl ?_)); intro w5 hF5 hz5))
      exact bodyPost_ret (results_cellF rfl _ hF5 (i := 0) rfl rfl Tryd.underlying33 rfl (by rw [vlL_len]; kernel_rfl)) rfl (RVal.of VT.leaf (((hF5.tail.pushNone 5).pushNone 1).picks [2, 0, 1] rfl (by decide)) (.inr ⟨by decide, hend.out⟩))

theorem rvalue_any : ∀ (d deep : Nat), deep + d = 16 → RValueOk d deep
  | 0, deep, hd => fun w g A n c p f wh m B b hh hg hB hn hnc hw hp hm hr => by
    obtain rfl : deep = 16 := by omega
    by_cases hf : f = 0
    · subst hf
      obtain rfl := hw rfl
      rw [jr_ok]
      exact (rvalue_of 16 none w g A n c p m B b (fun f h => by cases h) hh hg hB hn hnc (hp rfl) (hm rfl) hr (fun w' _ _ hh' _ _ => rmany_deep5 g A n c p (m + 1) b w' hh') (fun w' _ _ hh' _ _ => rmany_deep6 g A n c p (m + 1) b w' hh')).mono fun e w' h => h.u (jValue_er b 0 p m)
    · exact rvalue_bad w g A n c p f wh m B b _ _ hf hh hg hB hr
  | d + 1, deep, hd => fun w g A n c p f wh m B b hh hg hB hn hnc hw hp hm hr => by
    by_cases hf : f = 0
    · subst hf
      obtain rfl := hw rfl
      rw [jr_ok]
      exact (rvalue_of deep (some (jValue b d)) w g A n c p m B b (fun f h => by injection h with h; subst h; exact jValue_er b d) hh hg hB hn hnc (hp rfl) (hm rfl) hr
        (fun w' h1 h2 hh' h4 h5 => rmany_5 d deep (rvalue_any d (deep + 1) (by omega)) (by omega) g A n c p (m + 1) B b w' hh' hg h4 hn hnc h1 (by omega) h5)
        (fun w' h1 h2 hh' h4 h5 => rmany_6 d deep (rvalue_any d (deep + 1) (by omega)) (by omega) g A n c p (m + 1) B b w' hh' hg h4 hn hnc h1 (by omega) h5)).mono fun e w' h => h.u (jValue_er b (d + 1) p m)
    · exact rvalue_bad w g A n c p f wh m B b _ _ hf hh hg hB hr
end Go.Proofs.YtdekogmegdhjoaaDoor

namespace Go.Proofs.YtdekogmegdhjoaaDoor
open Go.RowKit
set_option linter.unusedSimpArgs false
set_option linter.unusedVariables false

section
variable {P : Program} {X : List Nat} {w0 w : World} {es : List Ent}
/-- Three results: a struct that lies in cells, two numbers. -/
theorem results_cellTT {fn : Func} {p q r : Tmp} {ty : TypeId} (h : fn.results = #[.cell p ty, .tmp q, .tmp r]) (tmps : Array Value) (hF : Fr X w0 w es) {i g : Nat} {t : TypeId} {cs : List Value} (hi : es[i]? = some (.blk g t cs)) (hp : tmps.getD p undef = .pointer (some ⟨g, 0, none⟩))
    {d : TypeDesc} (hu : P.underlying ty = some d) (hd : aggT d = true) (hs : (P.info? ty).map (·.size) = some cs.length) : (results fn tmps).run P w = .ok (.tuple #[.agg cs.toArray, tmps.getD q undef, tmps.getD r undef]) w := by
  have hp' : tmps[p]?.getD undef = .pointer (some ⟨g, 0, none⟩) := by simpa using hp
  simp [results, h, hp', asAddr, run_loadF hF hi hu hd hs]
end
/-- What the document's Parse tells. -/
def RParse (w : World) (r : JR JV) (e : Ending) (w' : World) : Prop :=
  match r with
  | .ok v => ∃ cs es, e = .returned (.tuple #[.agg cs.toArray, .int .i64 0, .int .i64 0]) ∧ VT v cs es ∧ Fr [] w w' es
  | .error x => e = .returned (.tuple #[.agg vl0.toArray, .int .i64 (x.1 : Int), .int .i64 (x.2 : Int)]) ∧ Below w.heap.size w w'
def rrP : List (Nat × Nat) := [(0, 1), (1, 1), (2, 1), (3, 1), (4, 1)]
abbrev rr0 : List Value := [.slice none 0 0, .int .i64 0, .int .i64 0, .int .i64 0, .int .i64 0]

set_option maxRecDepth 20000 in
set_option maxHeartbeats 6400000 in
theorem rparse_any (A : Option Addr) (n c : Nat) (b : List UInt8) (w : World) (hnc : n ≤ c) (hn47 : n ≤ 140737488355328) (hr : Rd w (· < w.heap.size) A 1 n (b.map bv)) :
    Calls Tryd.prog 12 #[.slice A n c] w (RParse w (jParse b)) := by
  have hl := box hr.bytes_len
  have hF0 := Fr.nil w
  by_cases hbig : 65536 < n
  · have hend : Box (jParse b = .error (0, 8)) := box (by unfold jParse; rw [if_pos (by rw [hl.out]; exact hbig)])
    have d1 : decide ((65536 : Int) < (n : Int)) = true := decide_eq_true (by omega)
    replace hn47 := box hn47
    replace hbig := box hbig
    go_enter Tryd.func12, Tryd.ntmps12
    go_wp2_with (first | ((with_reducible refine lst (by with_unfolding_all rfl) (wp_falloc hF0 (cs := vl0) (z := .agg (List.toArray (vl0))) rfl (by kernel_rfl) (by with_unfolding_all rfl) ?_)); intro w1 g1 hF1 hz1) | (with_reducible refine lst (by with_unfolding_all rfl) (wp_fbuild Tryd.underlying33 (z := .agg (List.toArray vl0)) (by kernel_rfl) (pl := vlP) (by kernel_rfl) (cs := vl0) rfl (vs := []) (by with_unfolding_all rfl) (by with_unfolding_all rfl) ?_)) | ((with_reducible refine lst (by with_unfolding_all rfl) (wp_fstA0 hF1 (by with_unfolding_all exact ⟨_, _, rfl, rfl, rfl⟩) (by rw [vlL_len]; kernel_rfl) vlL_one vlL_fit vlL_spl ?_)); intro w2 hF2 hz2))
    exact bodyPost_ret (results_cellTT rfl _ hF2 (i := 0) rfl rfl Tryd.underlying33 rfl (by rw [vlL_len]; kernel_rfl)) rfl (by
      unfold RParse
      rw [hend.out]
      exact ⟨rfl, hF2.below⟩)
  · have d1 : decide ((65536 : Int) < (n : Int)) = false := decide_eq_false (by omega)
    have hJ : jParse b = jb (jValue b 16 (jBlanks b 0) 0) fun y => if jBlanks b y.2.1 < n then .error (jBlanks b y.2.1, 10) else .ok y.1 := by
      unfold jParse jb
      rw [if_neg (by rw [hl.out]; exact hbig)]
      cases jValue b 16 (jBlanks b 0) 0 with
      | error x => rfl
      | ok y =>
        obtain ⟨v, p, m'⟩ := y
        show (if jBlanks b p < b.length then _ else _) = _
        rw [hl.out]
    replace hJ := box hJ
    have hn : n ≤ 65536 := by omega
    clear hn47 hbig
    have hb0 : jBlanks b 0 ≤ n := by have := jBlanks_le b (p := 0) (Nat.zero_le _); rw [hl.out] at this; exact this
    go_enter Tryd.func12, Tryd.ntmps12
    go_wp2_with (first | ((with_reducible refine lst (by with_unfolding_all rfl) (wp_falloc hF0 (cs := vl0) (z := .agg (List.toArray (vl0))) rfl (by kernel_rfl) (by with_unfolding_all rfl) ?_)); intro w1 g1 hF1 hz1) | (with_reducible refine lst (by with_unfolding_all rfl) (wp_fbuild Tryd.underlying68 (z := .agg (List.toArray rr0)) (by kernel_rfl) (pl := rrP) (by kernel_rfl) (cs := (rrL A n c 0 0 0 0)) rfl (vs := [(0, .slice A n c)]) (by with_unfolding_all rfl) (by with_unfolding_all rfl) ?_)) | ((with_reducible refine lst (by with_unfolding_all rfl) (wp_fbox hF1 (cs := (rrL A n c 0 0 0 0)) rfl (by with_unfolding_all rfl) (by with_unfolding_all rfl) ?_)); intro w2 g2 hF2 hz2))
    clear hF0 hF1
    have hg2 : w.heap.size ≤ g2 := by
      rcases hF2.fresh 0 _ rfl _ rfl with h | h
      · exact h
      · simp at h
    refine (rblanks_ok g2 A n c 0 0 0 w.heap.size b w2 (hF2.blk (i := 0) rfl) hg2 hF2.size (by omega) (Nat.zero_le _) (hr.below hF2.below)).mono ?_
    rintro e w3 ⟨rfl, h3⟩
    have hF3 := hF2.putF (i := 0) rfl h3
    simp only [List.set_cons_succ, List.set_cons_zero] at hF3
    clear h3 hF2
    have hva := box (rvalue_any 16 0 rfl w3 g2 A n c (jBlanks b 0) 0 0 0 w.heap.size b (hF3.blk (i := 0) rfl) hg2 hF3.size hn hnc (fun _ => rfl) (fun _ => hb0) (fun _ => Nat.zero_le _) (hr.below hF3.below))
    go_wp2_with fail
    refine hva.out.mono ?_
    rintro e w4 ⟨cs, es, v, q, f, wh, m', rfl, hvt, h4, hJv⟩
    have hF4 := hF3.putG (i := 0) rfl h4
    simp only [List.set_cons_succ, List.set_cons_zero, List.cons_append, List.nil_append] at hF4
    have hvl := box hvt.len
    have hvo := box hvt.one
    have hJ2 := box (JS.step (k := fun y => if jBlanks b y.2.1 < n then .error (jBlanks b y.2.1, 10) else .ok y.1) (.inl ⟨rfl, rfl, hJ.out⟩) hJv)
    have hq : f = 0 → q ≤ n := fun h => by
      have h1 := hJv.eq h
      rw [jr_ok] at h1
      have h2 := (jValue_len 16 _ _ _ _ _ (by omega) h1).2.1
      rw [hl.out] at h2
      exact h2
    replace hq := box hq
    replace hvt := box hvt
    clear hva h4 hF3 hJv
    go_wp2_with (first | ((with_reducible refine lst (by with_unfolding_all rfl) (wp_falloc hF4 (cs := vl0) (z := .agg (List.toArray (vl0))) rfl (by kernel_rfl) (by with_unfolding_all rfl) ?_)); intro w5 g5 hF5 hz5) | ((with_reducible refine lst (by with_unfolding_all rfl) (wp_fstA0 hF5 (by with_unfolding_all exact ⟨_, _, rfl, rfl, rfl⟩) (by rw [hvl.out]; kernel_rfl) hvo.out (by rw [hvl.out, vlL_len]; decide) (spl_all (by rw [hvl.out, vlL_len])) ?_)); intro w6 hF6 hz6))
    clear hF4 hF5
    have hF7 := hF6.perm (es' := .blk g2 68 (rrL A n c q f wh m') :: .blk g5 33 cs :: .blk g1 33 vl0 :: es) (List.Perm.swap _ _ _)
    clear hF6
    refine (rblanks_u (hF7.blk (i := 0) rfl) hg2 hF7.size hn hq.out (hr.below hF7.below)).mono ?_
    rintro e w8 ⟨rfl, p5, h8, hp5⟩
    have hF8 := hF7.putF (i := 0) rfl h8
    simp only [List.set_cons_succ, List.set_cons_zero] at hF8
    have hJ3 := box (hJ2.out.congr (K' := if p5 < n then .error (p5, 10) else .ok v) (fun h => by rw [hp5 h]))
    clear h8 hp5 hJ2 hF7
    by_cases hf : f = 0
    · subst hf
      obtain rfl := hJ3.out.wh0 rfl
      have hJ4 := hJ3.out.eq rfl
      clear hJ3
      by_cases hlt : p5 < n
      · rw [if_pos hlt] at hJ4
        replace hJ4 := box hJ4
        have d2 : decide ((p5 : Int) < (n : Int)) = true := decide_eq_true (by omega)
        go_wp2_with (first | (with_reducible refine lst (by with_unfolding_all rfl) (wp_fld0 hF8 Tryd.underlying3 rfl (by with_unfolding_all exact ⟨_, rfl, rfl⟩) rfl ?_)))
        refine (rfail_ok g2 A n c p5 m' (p5, 10) _ (hF8.blk (i := 0) rfl)).mono ?_
        rintro e w9 ⟨rfl, h9⟩
        have hF9 := hF8.putF (i := 0) rfl h9
        simp only [List.set_cons_succ, List.set_cons_zero] at hF9
        go_upto_region 10 with (first | (with_reducible refine lst (by with_unfolding_all rfl) (wp_fld0 hF9 Tryd.underlying3 rfl (by with_unfolding_all exact ⟨_, rfl, rfl⟩) rfl ?_)))
        have hFd := hF9.drew
        clear hF9 hF8
        refine wp_region_held (S := fun w' => w'.heap[g2]? = some (.cells (List.toArray (rrL A n c p5 10 p5 m')) 68 (0, 0))) (by kernel_rfl) ?_
        change wpAnyH _ _ _ _ _ _ _ _ (World.drew _)
        refine tkp 0 (hFd.blk (i := 0) rfl) ?_
        (try simp only [Act.put, List.setIfInBounds_toArray, List.set_cons_zero, List.set_cons_succ])
        refine tkp 1 (hFd.blk (i := 0) rfl) ?_
        (try simp only [Act.put, List.setIfInBounds_toArray, List.set_cons_zero, List.set_cons_succ])
        refine tkp 2 (hFd.blk (i := 0) rfl) ?_
        (try simp only [Act.put, List.setIfInBounds_toArray, List.set_cons_zero, List.set_cons_succ])
        refine tkp 3 (hFd.blk (i := 0) rfl) ?_
        (try simp only [Act.put, List.setIfInBounds_toArray, List.set_cons_zero, List.set_cons_succ])
        refine tky 4 (y := yi_fld (by with_unfolding_all rfl) (fun _ h => h) Tryd.underlying3 rfl (by with_unfolding_all exact ⟨_, rfl, rfl⟩) rfl) (s := (hFd.blk (i := 0) rfl)) (h := ?_)
        (try simp only [Act.put, List.setIfInBounds_toArray, List.set_cons_zero, List.set_cons_succ])
        refine tkp 5 (hFd.blk (i := 0) rfl) ?_
        (try simp only [Act.put, List.setIfInBounds_toArray, List.set_cons_zero, List.set_cons_succ])
        refine tkp 6 (hFd.blk (i := 0) rfl) ?_
        (try simp only [Act.put, List.setIfInBounds_toArray, List.set_cons_zero, List.set_cons_succ])
        refine tkp 7 (hFd.blk (i := 0) rfl) ?_
        (try simp only [Act.put, List.setIfInBounds_toArray, List.set_cons_zero, List.set_cons_succ])
        refine tky 8 (y := yi_fld (by with_unfolding_all rfl) (fun _ h => h) Tryd.underlying3 rfl (by with_unfolding_all exact ⟨_, rfl, rfl⟩) rfl) (s := (hFd.blk (i := 0) rfl)) (h := ?_)
        (try simp only [Act.put, List.setIfInBounds_toArray, List.set_cons_zero, List.set_cons_succ])
        refine rdy1 9 (fun K hK => ?_)
        refine stp (by with_unfolding_all rfl) (wp_fstA hFd (i := 2) rfl (by with_unfolding_all exact ⟨_, _, rfl, rfl, rfl⟩) (by rw [vlL_len]; kernel_rfl) vlL_one (by rw [vlL_len]; decide) ?_)
        intro w31 hF31 hz31
        (try simp only [List.set_cons_zero, List.set_cons_succ] at hF31)
        rw [(spl_all (by rw [vlL_len]) : spl vl0 0 vl0 = vl0)] at hF31
        refine hK.out _ _ ((hF31.blk (i := 0) rfl)) (fun _ => ?_)
        clear hK K
        (try simp only [Act.put, List.setIfInBounds_toArray, List.set_cons_zero, List.set_cons_succ])
        refine tkp 10 (hF31.blk (i := 0) rfl) ?_
        (try simp only [Act.put, List.setIfInBounds_toArray, List.set_cons_zero])
        refine tkp 11 (hF31.blk (i := 0) rfl) ?_
        (try simp only [Act.put, List.setIfInBounds_toArray, List.set_cons_zero])
        refine wpAnyH_done (by kernel_rfl) ?_ _
        go_wp2_with fail
        exact bodyPost_ret (results_cellTT rfl _ hF31 (i := 2) rfl rfl Tryd.underlying33 rfl (by rw [vlL_len]; kernel_rfl)) rfl (by
          unfold RParse
          rw [hJ4.out]
          exact ⟨rfl, hF31.below⟩)
      · rw [if_neg hlt] at hJ4
        replace hJ4 := box hJ4
        have d2 : decide ((p5 : Int) < (n : Int)) = false := decide_eq_false (by omega)
        go_wp2_with (first | (with_reducible refine lst (by with_unfolding_all rfl) (wp_fld0 hF8 Tryd.underlying3 rfl (by with_unfolding_all exact ⟨_, rfl, rfl⟩) rfl ?_)) | (with_reducible refine lst (by with_unfolding_all rfl) (wp_fldA1 hF8 Tryd.underlying33 rfl (by with_unfolding_all exact ⟨_, rfl, rfl⟩) (ds := cs) (by rw [hvl.out]; kernel_rfl) (take_all _) ?_)) | ((with_reducible refine lst (by with_unfolding_all rfl) (wp_fstA2 hF8 (by with_unfolding_all exact ⟨_, _, rfl, rfl, rfl⟩) (by rw [hvl.out]; kernel_rfl) hvo.out (by rw [hvl.out, vlL_len]; decide) (spl_all (by rw [hvl.out, vlL_len])) ?_)); intro w9 hF9 hz9))
        exact bodyPost_ret (results_cellTT rfl _ hF9 (i := 2) rfl rfl Tryd.underlying33 rfl (by rw [hvl.out]; kernel_rfl)) rfl (by
          unfold RParse
          rw [hJ4.out]
          exact ⟨cs, es, rfl, hvt.out, hF9.tail.tail.tail⟩)
    · have hJ4 := box (hJ3.out.err hf)
      have hf0 : ((f : Int) == 0) = false := by rw [beq_eq_false_iff_ne]; omega
      have hf1 : ((f : Int) != 0) = true := by rw [bne_iff_ne]; omega
      replace hf := box hf
      clear hJ3
      go_upto_region 10 with (first | (with_reducible refine lst (by with_unfolding_all rfl) (wp_fld0 hF8 Tryd.underlying3 rfl (by with_unfolding_all exact ⟨_, rfl, rfl⟩) rfl ?_)))
      have hFd := hF8.drew
      clear hF8
      refine wp_region_held (S := fun w' => w'.heap[g2]? = some (.cells (List.toArray (rrL A n c p5 f wh m')) 68 (0, 0))) (by kernel_rfl) ?_
      change wpAnyH _ _ _ _ _ _ _ _ (World.drew _)
      refine tkp 0 (hFd.blk (i := 0) rfl) ?_
      (try simp only [Act.put, List.setIfInBounds_toArray, List.set_cons_zero, List.set_cons_succ])
      refine tkp 1 (hFd.blk (i := 0) rfl) ?_
      (try simp only [Act.put, List.setIfInBounds_toArray, List.set_cons_zero, List.set_cons_succ])
      refine tkp 2 (hFd.blk (i := 0) rfl) ?_
      (try simp only [Act.put, List.setIfInBounds_toArray, List.set_cons_zero, List.set_cons_succ])
      refine tkp 3 (hFd.blk (i := 0) rfl) ?_
      (try simp only [Act.put, List.setIfInBounds_toArray, List.set_cons_zero, List.set_cons_succ])
      refine tky 4 (y := yi_fld (by with_unfolding_all rfl) (fun _ h => h) Tryd.underlying3 rfl (by with_unfolding_all exact ⟨_, rfl, rfl⟩) rfl) (s := (hFd.blk (i := 0) rfl)) (h := ?_)
      (try simp only [Act.put, List.setIfInBounds_toArray, List.set_cons_zero, List.set_cons_succ])
      refine tkp 5 (hFd.blk (i := 0) rfl) ?_
      (try simp only [Act.put, List.setIfInBounds_toArray, List.set_cons_zero, List.set_cons_succ])
      refine tkp 6 (hFd.blk (i := 0) rfl) ?_
      (try simp only [Act.put, List.setIfInBounds_toArray, List.set_cons_zero, List.set_cons_succ])
      refine tkp 7 (hFd.blk (i := 0) rfl) ?_
      (try simp only [Act.put, List.setIfInBounds_toArray, List.set_cons_zero, List.set_cons_succ])
      refine tky 8 (y := yi_fld (by with_unfolding_all rfl) (fun _ h => h) Tryd.underlying3 rfl (by with_unfolding_all exact ⟨_, rfl, rfl⟩) rfl) (s := (hFd.blk (i := 0) rfl)) (h := ?_)
      (try simp only [Act.put, List.setIfInBounds_toArray, List.set_cons_zero, List.set_cons_succ])
      refine rdy1 9 (fun K hK => ?_)
      refine stp (by with_unfolding_all rfl) (wp_fstA hFd (i := 2) rfl (by with_unfolding_all exact ⟨_, _, rfl, rfl, rfl⟩) (by rw [vlL_len]; kernel_rfl) vlL_one (by rw [vlL_len]; decide) ?_)
      intro w31 hF31 hz31
      (try simp only [List.set_cons_zero, List.set_cons_succ] at hF31)
      rw [(spl_all (by rw [vlL_len]) : spl vl0 0 vl0 = vl0)] at hF31
      refine hK.out _ _ ((hF31.blk (i := 0) rfl)) (fun _ => ?_)
      clear hK K
      (try simp only [Act.put, List.setIfInBounds_toArray, List.set_cons_zero, List.set_cons_succ])
      refine tkp 10 (hF31.blk (i := 0) rfl) ?_
      (try simp only [Act.put, List.setIfInBounds_toArray, List.set_cons_zero])
      refine tkp 11 (hF31.blk (i := 0) rfl) ?_
      (try simp only [Act.put, List.setIfInBounds_toArray, List.set_cons_zero])
      refine wpAnyH_done (by kernel_rfl) ?_ _
      go_wp2_with fail
      exact bodyPost_ret (results_cellTT rfl _ hF31 (i := 2) rfl rfl Tryd.underlying33 rfl (by rw [vlL_len]; kernel_rfl)) rfl (by
        unfold RParse
        rw [hJ4.out]
        exact ⟨rfl, hF31.below⟩)
/-- .. within a frame. -/
def RParseF (X : List Nat) (w0 : World) (es : List Ent) (r : JR JV) (e : Ending) (w' : World) : Prop :=
  match r with
  | .ok v => ∃ cs es', e = .returned (.tuple #[.agg cs.toArray, .int .i64 0, .int .i64 0]) ∧ VT v cs es' ∧ Fr X w0 w' (es' ++ es)
  | .error x => e = .returned (.tuple #[.agg vl0.toArray, .int .i64 (x.1 : Int), .int .i64 (x.2 : Int)]) ∧ Fr X w0 w' es
theorem rparse_F {X : List Nat} {w0 w : World} {es : List Ent} (hF : Fr X w0 w es) {A : Option Addr} {n c : Nat} {b : List UInt8} (hnc : n ≤ c) (hn47 : n ≤ 140737488355328) (hr : Rd w (· < w.heap.size) A 1 n (b.map bv)) :
    Calls Tryd.prog 12 #[.slice A n c] w (RParseF X w0 es (jParse b)) := by
  refine (rparse_any A n c b w hnc hn47 hr).mono ?_
  intro e w' h
  unfold RParse at h
  unfold RParseF
  cases hj : jParse b with
  | error x => rw [hj] at h; exact ⟨h.1, hF.call h.2⟩
  | ok v =>
    rw [hj] at h
    obtain ⟨cs, es', rfl, hvt, hF'⟩ := h
    exact ⟨cs, es', rfl, hvt, hF.join hF'⟩

end Go.Proofs.YtdekogmegdhjoaaDoor

namespace Go.Proofs.YtdekogmegdhjoaaDoor
set_option linter.unusedSimpArgs false
set_option linter.unusedVariables false

/-- A value is small, and within so many lists and objects. -/
def JCt (d : Nat) (v : JV) : Prop := JSm v ∧ ∀ D, d + 1 ≤ D → jCut D v = v
theorem JSmL_of : ∀ {ks : List JV}, (∀ k ∈ ks, JSm k) → JSmL ks
  | [], _ => by rw [JSmL]; trivial
  | k :: ks, h => by rw [JSmL]; exact ⟨h k List.mem_cons_self, JSmL_of fun x hx => h x (List.mem_cons_of_mem _ hx)⟩
theorem JCt.leaf (d : Nat) (k n : Int) (t : List UInt8) : JCt d (.mk k n t [] []) := by
  refine ⟨by rw [JSm]; exact ⟨Nat.zero_le _, Nat.zero_le _, JSmL_of (by simp)⟩, fun D hD => ?_⟩
  obtain ⟨D', rfl⟩ : ∃ D', D = D' + 1 := ⟨D - 1, by omega⟩
  rfl
theorem JCt.many {d : Nat} {k n : Int} {t : List UInt8} {ns : List (List UInt8)} {ks : List JV} (h1 : ns.length ≤ 5000) (h2 : ks.length ≤ 5000) (h : ∀ v ∈ ks, JCt d v) : JCt (d + 1) (.mk k n t ns ks) := by
  refine ⟨by rw [JSm]; exact ⟨by omega, by omega, JSmL_of fun v hv => (h v hv).1⟩, fun D hD => ?_⟩
  obtain ⟨D', rfl⟩ : ∃ D', D = D' + 1 := ⟨D - 1, by omega⟩
  have : ks.map (jCut D') = ks := by
    rw [List.map_congr_left (g := id) (fun v hv => (h v hv).2 D' (by omega)), List.map_id]
  rw [jCut, this]
def ValCt (d : Nat) (val : Nat → Nat → JR (JV × Nat × Nat)) : Prop := ∀ (p m : Nat) (v : JV) (q m' : Nat), m ≤ 4096 → val p m = .ok (v, q, m') → JCt d v
theorem jManyL_ct {b : List UInt8} {kind : Int} {fin : UInt8} {d : Nat} {val : Nat → Nat → JR (JV × Nat × Nat)} (hl : ValLen b val) (hv : ValCt d val) : ∀ {f p m : Nat} {names : List (List UInt8)} {kids : List JV} {x : JV × Nat × Nat}, m ≤ 4096 → kids.length ≤ m → names.length ≤ kids.length → (∀ v ∈ kids, JCt d v) → jManyL b kind fin val f p m names kids = .ok x → JCt (d + 1) x.1
  | 0, _, _, _, _, _, _, _, _, _, h => by cases h
  | f + 1, p, m, names, kids, x, hm, hk, hn, hks, h => by
    obtain ⟨s, q1, v1, r, m1, c, h1, h2, h3, h4⟩ := jManyL_step h
    have hv1 := hl _ _ _ _ _ hm h2
    have hkk : (kids ++ [v1]).length = kids.length + 1 := by simp
    have hnn : (if kind = 6 then names ++ [s] else names).length ≤ kids.length + 1 := by
      split
      · simp; omega
      · omega
    have hall : ∀ v ∈ kids ++ [v1], JCt d v := fun v hmem => by
      rcases List.mem_append.1 hmem with h | h
      · exact hks v h
      · rw [List.mem_singleton.1 h]; exact hv _ _ _ _ _ hm h2
    rcases h4 with h4 | h4
    · subst h4
      exact JCt.many (by omega) (by omega) hall
    · exact jManyL_ct hl hv hv1.2.2.2 (by omega) (by omega) hall h4
theorem jMany_ct {b : List UInt8} {kind : Int} {fin : UInt8} {e : Nat} {val : Option (Nat → Nat → JR (JV × Nat × Nat))} (hv : ∀ f, val = some f → ValLen b f ∧ ∃ d, e = d + 1 ∧ ValCt d f) {p m : Nat} {x : JV × Nat × Nat} (hm : m ≤ 4096) (h : jMany b kind fin val p m = .ok x) : JCt e x.1 := by
  unfold jMany at h
  cases val with
  | none => cases h
  | some f =>
    obtain ⟨hl, d, rfl, hvf⟩ := hv f rfl
    simp only [] at h
    cases h3 : jNext b (jBlanks b (p + 1)) with
    | error z => rw [h3] at h; cases h
    | ok c =>
      rw [h3] at h
      simp only [] at h
      split at h
      · injection h with h
        subst h
        exact JCt.leaf _ _ _ _
      · exact jManyL_ct hl hvf hm (by simp) (by simp) (by simp) h
theorem jLit_ct {b w : List UInt8} {e : Nat} {u : JV} (hu : JCt e u) {p m : Nat} {x : JV × Nat × Nat} (h : jLit b w u p m = .ok x) : JCt e x.1 := by
  unfold jLit at h
  cases hw : jWord b w p with
  | error z => rw [hw] at h; cases h
  | ok t => rw [hw] at h; injection h with h; subst h; exact hu
theorem jValueW_ct {b : List UInt8} {e : Nat} {val : Option (Nat → Nat → JR (JV × Nat × Nat))} (hv : ∀ f, val = some f → ValLen b f ∧ ∃ d, e = d + 1 ∧ ValCt d f) {p m : Nat} {x : JV × Nat × Nat} (hm : m ≤ 4096) (h : jValueW b val p m = .ok x) : JCt e x.1 := by
  unfold jValueW at h
  cases hx : b[p]? with
  | none => rw [hx] at h; cases h
  | some c =>
    rw [hx] at h
    simp only [] at h
    split at h
    · cases h
    · rename_i hm4
      split at h
      · exact jLit_ct (JCt.leaf _ _ _ _) h
      · split at h
        · exact jLit_ct (JCt.leaf _ _ _ _) h
        · split at h
          · exact jLit_ct (JCt.leaf _ _ _ _) h
          · split at h
            · cases hn : jNumber b p with
              | error z => rw [hn] at h; cases h
              | ok r => rw [hn] at h; injection h with h; subst h; exact JCt.leaf _ _ _ _
            · split at h
              · cases hn : jText b p with
                | error z => rw [hn] at h; cases h
                | ok r => rw [hn] at h; injection h with h; subst h; exact JCt.leaf _ _ _ _
              · split at h
                · exact jMany_ct hv (by omega) h
                · split at h
                  · exact jMany_ct hv (by omega) h
                  · cases h
theorem jValue_ct {b : List UInt8} : ∀ (d : Nat), ValCt d (jValue b d)
  | 0, p, m, v, q, m', hm, h => jValueW_ct (val := none) (x := (v, q, m')) (fun f hf => by cases hf) hm h
  | d + 1, p, m, v, q, m', hm, h => jValueW_ct (val := some (jValue b d)) (x := (v, q, m')) (fun f hf => by injection hf with hf; subst hf; exact ⟨jValue_len d, d, rfl, jValue_ct d⟩) hm h
theorem jParse_ct {b : List UInt8} {v : JV} (h : jParse b = .ok v) : JSm v ∧ jCut 20 v = v := by
  unfold jParse at h
  split at h
  · cases h
  · cases hv : jValue b 16 (jBlanks b 0) 0 with
    | error x => rw [hv] at h; cases h
    | ok y =>
      obtain ⟨u, p, m'⟩ := y
      rw [hv] at h
      simp only [] at h
      split at h
      · cases h
      · injection h with h
        subst h
        have := jValue_ct 16 _ _ _ _ _ (by omega) hv
        exact ⟨this.1, this.2 20 (by omega)⟩
theorem jNull_ct : JSm .null ∧ jCut 20 .null = .null := ⟨(JCt.leaf 0 0 0 []).1, rfl⟩
end Go.Proofs.YtdekogmegdhjoaaDoor
