/-
 Layer 6: the document's reader: a value.
 Layer 6: the document's Parse.
 Layer 8: the document's Parse, walked.
 Layer 8: answers that the document fixes.
 Layer 8: the laws' From, and parts of To: notes, descriptors and documents laid anew.
-/
import Derived.Test.YtlhicfpmlncomaaGreatDoorG19
import Derived.Test.YtlhicfpmlncomaaGreatDoorG02
import Derived.Test.YtlhicfpmlncomaaGreatDoorG14
import Derived.Test.YtlhicfpmlncomaaGreatDoorG11
namespace Go.Proofs.YtlhicfpmlncomaaGreatDoor
open Go.RowKit
set_option linter.unusedSimpArgs false
set_option linter.unusedVariables false
set_option maxRecDepth 20000 in
set_option maxHeartbeats 3200000 in
theorem rvalue_bad (w : World) (g : Nat) (A : Option Addr) (n c p f wh m B : Nat) (b : List UInt8) (J : JR (JV × Nat × Nat)) (z : Int) (hf : f ≠ 0) (hh : w.heap[g]? = some (.cells (rrL A n c p f wh m).toArray 146 (0, 0))) (hg : B ≤ g) (hB : B ≤ w.heap.size) (hr : Rd w (· < B) A 1 n (b.map bv)) :
  Calls Tryz.prog 72 #[.pointer (some ⟨g, 0, none⟩), .int .i64 z] w (RValU w g A n c (jr f wh J)) := by
 have hF0 := Fr.one hh
 have hf1 : ((f : Int) != 0) = true := by rw [bne_iff_ne]; omega
 have hwa := box (fun g1 w' (hF : Fr [g] w w' [.blk g1 51 vl0, .blk g 146 (rrL A n c p f wh m)]) => rwant_bad hf (hF.blk (i := 1) rfl) (hF.rdB hg hB hr))
 clear hh
 replace hf := box hf
 go_enter Tryz.func72, Tryz.ntmps72
 go_wp2_with (first | ((with_reducible refine lst (by with_unfolding_all rfl) (wp_falloc hF0 (cs := vl0) (z := .agg (List.toArray (vl0))) rfl (by kernel_rfl) (by with_unfolding_all rfl) ?_)); intro w1 g1 hF1 hz1))
 refine (hwa.out _ _ hF1).mono ?_
 rintro e w2 ⟨rfl, h2⟩
 have hF2 := hF1.putF (i := 1) rfl h2
 simp only [List.set_cons_succ, List.set_cons_zero] at hF2
 clear hwa hF1
 go_wp2_with (first | (with_reducible refine lst (by with_unfolding_all rfl) (wp_fld1 hF2 Tryz.underlying3 rfl (by with_unfolding_all exact ⟨_, rfl, rfl⟩) rfl ?_)) | (with_reducible refine lst (by with_unfolding_all rfl) (wp_fbuild Tryz.underlying51 (z := .agg (List.toArray vl0)) (by kernel_rfl) (pl := vlP) (by kernel_rfl) (cs := (vlL 0 0 ⟨#[]⟩ (.slice none 0 0) (.slice none 0 0))) rfl (vs := []) (by with_unfolding_all rfl) (by with_unfolding_all rfl) ?_)) | ((with_reducible refine lst (by with_unfolding_all rfl) (wp_fstA0 hF2 (by with_unfolding_all exact ⟨_, _, rfl, rfl, rfl⟩) (by rw [vlL_len]; kernel_rfl) vlL_one vlL_fit vlL_spl ?_)); intro w3 hF3 hz3))
 exact bodyPost_ret (results_cellF rfl _ hF3 (i := 0) rfl rfl Tryz.underlying51 rfl (by rw [vlL_len]; kernel_rfl)) rfl ⟨_, _, .null, p, f, wh, m, rfl, VT.leaf, (((hF3.tail.pushNone 5).pushNone 1).picks [2, 0, 1] rfl (by decide)), .inr ⟨hf.out, jr_bad hf.out⟩⟩
set_option maxRecDepth 20000 in
set_option maxHeartbeats 12800000 in
/-- The reader of values, where its readers of lists and of objects keep their word. -/
theorem rvalue_of (deep : Nat) (val : Option (Nat → Nat → JR (JV × Nat × Nat))) (w : World) (g : Nat) (A : Option Addr) (n c p m B : Nat) (b : List UInt8) (hve : ∀ f, val = some f → ∀ p m, JEr (f p m)) (hh : w.heap[g]? = some (.cells (rrL A n c p 0 0 m).toArray 146 (0, 0))) (hg : B ≤ g) (hB : B ≤ w.heap.size) (hn : n ≤ 65536) (hnc : n ≤ c) (hp : p ≤ n) (hm : m ≤ 4096) (hr : Rd w (· < B) A 1 n (b.map bv))
  (hl5 : ∀ w', p < n → m < 4096 → w'.heap[g]? = some (.cells (rrL A n c p 0 0 (m + 1)).toArray 146 (0, 0)) → B ≤ w'.heap.size → Rd w' (· < B) A 1 n (b.map bv) → Calls Tryz.prog 103 #[.pointer (some ⟨g, 0, none⟩), .int .i64 5, .int .i64 93, .int .i64 (deep : Int)] w' (RVal w' g A n c (jMany b 5 93 val p (m + 1))))
  (hl6 : ∀ w', p < n → m < 4096 → w'.heap[g]? = some (.cells (rrL A n c p 0 0 (m + 1)).toArray 146 (0, 0)) → B ≤ w'.heap.size → Rd w' (· < B) A 1 n (b.map bv) → Calls Tryz.prog 103 #[.pointer (some ⟨g, 0, none⟩), .int .i64 6, .int .i64 125, .int .i64 (deep : Int)] w' (RVal w' g A n c (jMany b 6 125 val p (m + 1)))) :
  Calls Tryz.prog 72 #[.pointer (some ⟨g, 0, none⟩), .int .i64 (deep : Int)] w (RVal w g A n c (jValueW b val p m)) := by
 have hl := box hr.bytes_len
 have hF0 := Fr.one hh
 clear hh
 cases hx : b[p]? with
 | none =>
  have hend : Box (jValueW b val p m = .error (n, 9)) := box (by unfold jValueW; rw [hx, hl.out])
  have hwa := box (fun g1 w' (hF : Fr [g] w w' [.blk g1 51 vl0, .blk g 146 (rrL A n c p 0 0 m)]) => rwant_end hx (hF.blk (i := 1) rfl) (hF.rdB hg hB hr))
  clear hx hl5 hl6 hve
  go_enter Tryz.func72, Tryz.ntmps72
  go_wp2_with (first | ((with_reducible refine lst (by with_unfolding_all rfl) (wp_falloc hF0 (cs := vl0) (z := .agg (List.toArray (vl0))) rfl (by kernel_rfl) (by with_unfolding_all rfl) ?_)); intro w1 g1 hF1 hz1))
  refine (hwa.out _ _ hF1).mono ?_
  rintro e w2 ⟨rfl, h2⟩
  have hF2 := hF1.putF (i := 1) rfl h2
  simp only [List.set_cons_succ, List.set_cons_zero] at hF2
  clear hwa hF1
  go_wp2_with (first | (with_reducible refine lst (by with_unfolding_all rfl) (wp_fld1 hF2 Tryz.underlying3 rfl (by with_unfolding_all exact ⟨_, rfl, rfl⟩) rfl ?_)) | (with_reducible refine lst (by with_unfolding_all rfl) (wp_fbuild Tryz.underlying51 (z := .agg (List.toArray vl0)) (by kernel_rfl) (pl := vlP) (by kernel_rfl) (cs := (vlL 0 0 ⟨#[]⟩ (.slice none 0 0) (.slice none 0 0))) rfl (vs := []) (by with_unfolding_all rfl) (by with_unfolding_all rfl) ?_)) | ((with_reducible refine lst (by with_unfolding_all rfl) (wp_fstA0 hF2 (by with_unfolding_all exact ⟨_, _, rfl, rfl, rfl⟩) (by rw [vlL_len]; kernel_rfl) vlL_one vlL_fit vlL_spl ?_)); intro w3 hF3 hz3))
  exact bodyPost_ret (results_cellF rfl _ hF3 (i := 0) rfl rfl Tryz.underlying51 rfl (by rw [vlL_len]; kernel_rfl)) rfl (RVal.of VT.leaf (((hF3.tail.pushNone 5).pushNone 1).picks [2, 0, 1] rfl (by decide)) (.inr ⟨by decide, hend.out⟩))
 | some x =>
  have hxb := x.toNat_lt
  have hplt := (List.getElem?_eq_some_iff.1 hx).1
  rw [hl.out] at hplt
  have hJ : jValueW b val p m = jValueW b val p m := rfl
  conv at hJ => rhs; unfold jValueW
  rw [hx] at hJ
  simp only [] at hJ
  have hwa := box (fun g1 w' (hF : Fr [g] w w' [.blk g1 51 vl0, .blk g 146 (rrL A n c p 0 0 m)]) => rwant_in hx (hF.blk (i := 1) rfl) (hF.rdB hg hB hr))
  by_cases hm4 : m = 4096
  ·rw [if_pos hm4] at hJ
   have hend := box hJ
   have hm5 : ((m : Int) == 4096) = true := by rw [hm4]; rfl
   clear hJ hx hl5 hl6 hm4 hve
   replace hm := box hm
   go_enter Tryz.func72, Tryz.ntmps72
   go_wp2_with (first | ((with_reducible refine lst (by with_unfolding_all rfl) (wp_falloc hF0 (cs := vl0) (z := .agg (List.toArray (vl0))) rfl (by kernel_rfl) (by with_unfolding_all rfl) ?_)); intro w1 g1 hF1 hz1))
   refine (hwa.out _ _ hF1).mono ?_
   rintro e w2 ⟨rfl, h2⟩
   have hF2 := hF1.putF (i := 1) rfl h2
   simp only [List.set_cons_succ, List.set_cons_zero] at hF2
   clear hwa hF1
   go_wp2_with (first | (with_reducible refine lst (by with_unfolding_all rfl) (wp_fld1 hF2 Tryz.underlying3 rfl (by with_unfolding_all exact ⟨_, rfl, rfl⟩) rfl ?_)))
   refine (rfail_ok g A n c p m (p, 8) _ (hF2.blk (i := 1) rfl)).mono ?_
   rintro e w3 ⟨rfl, h3⟩
   have hF3 := hF2.putF (i := 1) rfl h3
   simp only [List.set_cons_succ, List.set_cons_zero] at hF3
   go_wp2_with (first | (with_reducible refine lst (by with_unfolding_all rfl) (wp_fbuild Tryz.underlying51 (z := .agg (List.toArray vl0)) (by kernel_rfl) (pl := vlP) (by kernel_rfl) (cs := (vlL 0 0 ⟨#[]⟩ (.slice none 0 0) (.slice none 0 0))) rfl (vs := []) (by with_unfolding_all rfl) (by with_unfolding_all rfl) ?_)) | ((with_reducible refine lst (by with_unfolding_all rfl) (wp_fstA0 hF3 (by with_unfolding_all exact ⟨_, _, rfl, rfl, rfl⟩) (by rw [vlL_len]; kernel_rfl) vlL_one vlL_fit vlL_spl ?_)); intro w4 hF4 hz4))
   exact bodyPost_ret (results_cellF rfl _ hF4 (i := 0) rfl rfl Tryz.underlying51 rfl (by rw [vlL_len]; kernel_rfl)) rfl (RVal.of VT.leaf (((hF4.tail.pushNone 5).pushNone 1).picks [2, 0, 1] rfl (by decide)) (.inr ⟨by decide, hend.out⟩))
  rw [if_neg hm4] at hJ
  have hm5 : ((m : Int) == 4096) = false := by rw [beq_eq_false_iff_ne]; omega
  have hmlt : m < 4096 := by omega
  clear hm4
  replace hx := box hx
  by_cases hx110 : x = 110
  ·subst hx110
   rw [if_pos rfl] at hJ
   have hJb : Box (jValueW b val p m = jb (jWord b [110, 117, 108, 108] p) fun q => .ok (.null, q, m + 1)) := box (by rw [hJ]; unfold jLit jb; cases jWord b [110, 117, 108, 108] p <;> rfl)
   clear hJ hl5 hl6 hve
   go_enter Tryz.func72, Tryz.ntmps72
   go_wp2_with (first | ((with_reducible refine lst (by with_unfolding_all rfl) (wp_falloc hF0 (cs := vl0) (z := .agg (List.toArray (vl0))) rfl (by kernel_rfl) (by with_unfolding_all rfl) ?_)); intro w1 g1 hF1 hz1))
   refine (hwa.out _ _ hF1).mono ?_
   rintro e w2 ⟨rfl, h2⟩
   have hF2 := hF1.putF (i := 1) rfl h2
   simp only [List.set_cons_succ, List.set_cons_zero] at hF2
   clear hF1 hwa h2
   go_wp2_with (first | (with_reducible refine lst (by with_unfolding_all rfl) (wp_fld1 hF2 Tryz.underlying3 rfl (by with_unfolding_all exact ⟨_, rfl, rfl⟩) rfl ?_)) | ((with_reducible refine lst (by with_unfolding_all rfl) (wp_fst1 hF2 (by with_unfolding_all exact ⟨_, _, rfl, rfl, rfl⟩) (by kernel_rfl) rfl rfl (by rw [rrL_len]; decide) (rrL_it (v := (m : Int) + 1) (q := m + 1) (by omega)) ?_)); intro w3 hF3 hz3))
   clear hF2
   refine (rword_u ⟨#[110, 117, 108, 108]⟩ (by decide) (fun _ => rfl) (hF3.blk (i := 1) rfl) hg (Nat.le_trans hB hF3.size) hn (fun _ => hp) (hF3.rdB hg hB hr)).mono ?_
   rintro e w5 ⟨rfl, p5, f5, wh5, m5, h5, hJw, hm6⟩
   have hF5 := hF3.putF (i := 1) rfl h5
   simp only [List.set_cons_succ, List.set_cons_zero] at hF5
   have hJe : Box (JS (jValueW b val p m) f5 wh5 (.ok (.null, p5, m5))) := box ((JS.step (k := fun q => .ok (.null, q, m + 1)) (.inl ⟨rfl, rfl, hJb.out⟩) hJw).congr (fun h => by rw [hm6 h]))
   clear h5 hJw hm6 hF3 hJb
   go_wp2_with (first | (with_reducible refine lst (by with_unfolding_all rfl) (wp_fbuild Tryz.underlying51 (z := .agg (List.toArray vl0)) (by kernel_rfl) (pl := vlP) (by kernel_rfl) (cs := (vlL 0 0 ⟨#[]⟩ (.slice none 0 0) (.slice none 0 0))) rfl (vs := []) (by with_unfolding_all rfl) (by with_unfolding_all rfl) ?_)) | ((with_reducible refine lst (by with_unfolding_all rfl) (wp_fstA0 hF5 (by with_unfolding_all exact ⟨_, _, rfl, rfl, rfl⟩) (by rw [vlL_len]; kernel_rfl) vlL_one vlL_fit vlL_spl ?_)); intro w6 hF6 hz6))
   exact bodyPost_ret (results_cellF rfl _ hF6 (i := 0) rfl rfl Tryz.underlying51 rfl (by rw [vlL_len]; kernel_rfl)) rfl (RVal.of VT.leaf (((hF6.tail.pushNone 5).pushNone 1).picks [2, 0, 1] rfl (by decide)) hJe.out)
  rw [if_neg hx110] at hJ
  have n110 : ((x.toNat : Int) == 110) = false := u8_ne hx110
  clear hx110
  by_cases hx102 : x = 102
  ·subst hx102
   rw [if_pos rfl] at hJ
   have hJb : Box (jValueW b val p m = jb (jWord b [102, 97, 108, 115, 101] p) fun q => .ok ((.mk 1 0 [] [] []), q, m + 1)) := box (by rw [hJ]; unfold jLit jb; cases jWord b [102, 97, 108, 115, 101] p <;> rfl)
   clear hJ hl5 hl6 hve
   go_enter Tryz.func72, Tryz.ntmps72
   go_wp2_with (first | ((with_reducible refine lst (by with_unfolding_all rfl) (wp_falloc hF0 (cs := vl0) (z := .agg (List.toArray (vl0))) rfl (by kernel_rfl) (by with_unfolding_all rfl) ?_)); intro w1 g1 hF1 hz1))
   refine (hwa.out _ _ hF1).mono ?_
   rintro e w2 ⟨rfl, h2⟩
   have hF2 := hF1.putF (i := 1) rfl h2
   simp only [List.set_cons_succ, List.set_cons_zero] at hF2
   clear hF1 hwa h2
   go_wp2_with (first | (with_reducible refine lst (by with_unfolding_all rfl) (wp_fld1 hF2 Tryz.underlying3 rfl (by with_unfolding_all exact ⟨_, rfl, rfl⟩) rfl ?_)) | ((with_reducible refine lst (by with_unfolding_all rfl) (wp_fst1 hF2 (by with_unfolding_all exact ⟨_, _, rfl, rfl, rfl⟩) (by kernel_rfl) rfl rfl (by rw [rrL_len]; decide) (rrL_it (v := (m : Int) + 1) (q := m + 1) (by omega)) ?_)); intro w3 hF3 hz3))
   clear hF2
   refine (rword_u ⟨#[102, 97, 108, 115, 101]⟩ (by decide) (fun _ => rfl) (hF3.blk (i := 1) rfl) hg (Nat.le_trans hB hF3.size) hn (fun _ => hp) (hF3.rdB hg hB hr)).mono ?_
   rintro e w5 ⟨rfl, p5, f5, wh5, m5, h5, hJw, hm6⟩
   have hF5 := hF3.putF (i := 1) rfl h5
   simp only [List.set_cons_succ, List.set_cons_zero] at hF5
   have hJe : Box (JS (jValueW b val p m) f5 wh5 (.ok ((.mk 1 0 [] [] []), p5, m5))) := box ((JS.step (k := fun q => .ok ((.mk 1 0 [] [] []), q, m + 1)) (.inl ⟨rfl, rfl, hJb.out⟩) hJw).congr (fun h => by rw [hm6 h]))
   clear h5 hJw hm6 hF3 hJb
   go_wp2_with (first | (with_reducible refine lst (by with_unfolding_all rfl) (wp_fbuild Tryz.underlying51 (z := .agg (List.toArray vl0)) (by kernel_rfl) (pl := vlP) (by kernel_rfl) (cs := (vlL 1 0 ⟨#[]⟩ (.slice none 0 0) (.slice none 0 0))) rfl (vs := [(0, .int .i64 1)]) (by with_unfolding_all rfl) (by with_unfolding_all rfl) ?_)) | ((with_reducible refine lst (by with_unfolding_all rfl) (wp_fstA0 hF5 (by with_unfolding_all exact ⟨_, _, rfl, rfl, rfl⟩) (by rw [vlL_len]; kernel_rfl) vlL_one vlL_fit vlL_spl ?_)); intro w6 hF6 hz6))
   exact bodyPost_ret (results_cellF rfl _ hF6 (i := 0) rfl rfl Tryz.underlying51 rfl (by rw [vlL_len]; kernel_rfl)) rfl (RVal.of VT.leaf (((hF6.tail.pushNone 5).pushNone 1).picks [2, 0, 1] rfl (by decide)) hJe.out)
  rw [if_neg hx102] at hJ
  have n102 : ((x.toNat : Int) == 102) = false := u8_ne hx102
  clear hx102
  by_cases hx116 : x = 116
  ·subst hx116
   rw [if_pos rfl] at hJ
   have hJb : Box (jValueW b val p m = jb (jWord b [116, 114, 117, 101] p) fun q => .ok ((.mk 2 0 [] [] []), q, m + 1)) := box (by rw [hJ]; unfold jLit jb; cases jWord b [116, 114, 117, 101] p <;> rfl)
   clear hJ hl5 hl6 hve
   go_enter Tryz.func72, Tryz.ntmps72
   go_wp2_with (first | ((with_reducible refine lst (by with_unfolding_all rfl) (wp_falloc hF0 (cs := vl0) (z := .agg (List.toArray (vl0))) rfl (by kernel_rfl) (by with_unfolding_all rfl) ?_)); intro w1 g1 hF1 hz1))
   refine (hwa.out _ _ hF1).mono ?_
   rintro e w2 ⟨rfl, h2⟩
   have hF2 := hF1.putF (i := 1) rfl h2
   simp only [List.set_cons_succ, List.set_cons_zero] at hF2
   clear hF1 hwa h2
   go_wp2_with (first | (with_reducible refine lst (by with_unfolding_all rfl) (wp_fld1 hF2 Tryz.underlying3 rfl (by with_unfolding_all exact ⟨_, rfl, rfl⟩) rfl ?_)) | ((with_reducible refine lst (by with_unfolding_all rfl) (wp_fst1 hF2 (by with_unfolding_all exact ⟨_, _, rfl, rfl, rfl⟩) (by kernel_rfl) rfl rfl (by rw [rrL_len]; decide) (rrL_it (v := (m : Int) + 1) (q := m + 1) (by omega)) ?_)); intro w3 hF3 hz3))
   clear hF2
   refine (rword_u ⟨#[116, 114, 117, 101]⟩ (by decide) (fun _ => rfl) (hF3.blk (i := 1) rfl) hg (Nat.le_trans hB hF3.size) hn (fun _ => hp) (hF3.rdB hg hB hr)).mono ?_
   rintro e w5 ⟨rfl, p5, f5, wh5, m5, h5, hJw, hm6⟩
   have hF5 := hF3.putF (i := 1) rfl h5
   simp only [List.set_cons_succ, List.set_cons_zero] at hF5
   have hJe : Box (JS (jValueW b val p m) f5 wh5 (.ok ((.mk 2 0 [] [] []), p5, m5))) := box ((JS.step (k := fun q => .ok ((.mk 2 0 [] [] []), q, m + 1)) (.inl ⟨rfl, rfl, hJb.out⟩) hJw).congr (fun h => by rw [hm6 h]))
   clear h5 hJw hm6 hF3 hJb
   go_wp2_with (first | (with_reducible refine lst (by with_unfolding_all rfl) (wp_fbuild Tryz.underlying51 (z := .agg (List.toArray vl0)) (by kernel_rfl) (pl := vlP) (by kernel_rfl) (cs := (vlL 2 0 ⟨#[]⟩ (.slice none 0 0) (.slice none 0 0))) rfl (vs := [(0, .int .i64 2)]) (by with_unfolding_all rfl) (by with_unfolding_all rfl) ?_)) | ((with_reducible refine lst (by with_unfolding_all rfl) (wp_fstA0 hF5 (by with_unfolding_all exact ⟨_, _, rfl, rfl, rfl⟩) (by rw [vlL_len]; kernel_rfl) vlL_one vlL_fit vlL_spl ?_)); intro w6 hF6 hz6))
   exact bodyPost_ret (results_cellF rfl _ hF6 (i := 0) rfl rfl Tryz.underlying51 rfl (by rw [vlL_len]; kernel_rfl)) rfl (RVal.of VT.leaf (((hF6.tail.pushNone 5).pushNone 1).picks [2, 0, 1] rfl (by decide)) hJe.out)
  rw [if_neg hx116] at hJ
  have n116 : ((x.toNat : Int) == 116) = false := u8_ne hx116
  clear hx116
  by_cases hnm : x = 45 ∨ jDig x = true
  ·rw [if_pos hnm] at hJ
   have hnum : Box (jNumC x = true) := box (by unfold jNumC; rcases hnm with h | h <;> simp [h])
   have hcd : ((x.toNat : Int) == 45) = true ∨ ((x.toNat : Int) == 45) = false ∧ decide ((48 : Int) ≤ (x.toNat : Int)) = true ∧ decide ((x.toNat : Int) ≤ 57) = true := by
    by_cases h45 : x = 45
    ·left; rw [h45]; rfl
    ·right; have := dig_char (hnm.resolve_left h45); exact ⟨u8_ne h45, decide_eq_true (by omega), decide_eq_true (by omega)⟩
   clear hnm
   rcases hcd with hcd | ⟨hcd, hcd1, hcd2⟩
   ·skip
    have hJb : Box (jValueW b val p m = jNumV b p (m + 1)) := box (by rw [hJ]; unfold jNumV; rfl)
    have her : Box (JEr (jNumV b p (m + 1))) := box (by unfold jNumV; intro y hy; have h1 := jNumber_er b p; cases hN : jNumber b p with | error z => rw [hN] at hy; injection hy with hy; subst hy; exact h1 _ hN | ok z => rw [hN] at hy; cases hy)
    clear hJ hl5 hl6 hve
    go_enter Tryz.func72, Tryz.ntmps72
    go_wp2_with (first | ((with_reducible refine lst (by with_unfolding_all rfl) (wp_falloc hF0 (cs := vl0) (z := .agg (List.toArray (vl0))) rfl (by kernel_rfl) (by with_unfolding_all rfl) ?_)); intro w1 g1 hF1 hz1))
    refine (hwa.out _ _ hF1).mono ?_
    rintro e w2 ⟨rfl, h2⟩
    have hF2 := hF1.putF (i := 1) rfl h2
    simp only [List.set_cons_succ, List.set_cons_zero] at hF2
    clear hF1 hwa h2
    go_wp2_with (first | (with_reducible refine lst (by with_unfolding_all rfl) (wp_fld1 hF2 Tryz.underlying3 rfl (by with_unfolding_all exact ⟨_, rfl, rfl⟩) rfl ?_)) | ((with_reducible refine lst (by with_unfolding_all rfl) (wp_fst1 hF2 (by with_unfolding_all exact ⟨_, _, rfl, rfl, rfl⟩) (by kernel_rfl) rfl rfl (by rw [rrL_len]; decide) (rrL_it (v := (m : Int) + 1) (q := m + 1) (by omega)) ?_)); intro w3 hF3 hz3))
    clear hF2
    refine (rnumber_ok g A n c p (m + 1) B b _ (hF3.blk (i := 1) rfl) hg (Nat.le_trans hB hF3.size) hn hnc hplt (hF3.rdB hg hB hr) x hx.out hnum.out).mono ?_
    rintro e w5 h5'
    obtain ⟨cs, es, v, p5, f5, wh5, m5, rfl, hvt, h5, hJv⟩ := h5'.u her.out
    clear h5'
    have hF5 := hF3.putG (i := 1) rfl h5
    simp only [List.set_cons_succ, List.set_cons_zero, List.cons_append, List.nil_append] at hF5
    have hvl := box hvt.len
    have hvo := box hvt.one
    replace hvt := box hvt
    replace hJv := box hJv
    clear h5 hF3
    go_wp2_with (first | ((with_reducible refine lst (by with_unfolding_all rfl) (wp_fstA0 hF5 (by with_unfolding_all exact ⟨_, _, rfl, rfl, rfl⟩) (by rw [hvl.out]; kernel_rfl) hvo.out (by rw [hvl.out, vlL_len]; decide) (spl_all (by rw [hvl.out, vlL_len])) ?_)); intro w6 hF6 hz6))
    exact bodyPost_ret (results_cellF rfl _ hF6 (i := 0) rfl rfl Tryz.underlying51 rfl (by rw [hvl.out]; kernel_rfl)) rfl (RVal.of hvt.out hF6.tail (.congr (hJb.out ▸ hJv.out) (fun _ => rfl)))
   ·skip
    have hJb : Box (jValueW b val p m = jNumV b p (m + 1)) := box (by rw [hJ]; unfold jNumV; rfl)
    have her : Box (JEr (jNumV b p (m + 1))) := box (by unfold jNumV; intro y hy; have h1 := jNumber_er b p; cases hN : jNumber b p with | error z => rw [hN] at hy; injection hy with hy; subst hy; exact h1 _ hN | ok z => rw [hN] at hy; cases hy)
    clear hJ hl5 hl6 hve
    go_enter Tryz.func72, Tryz.ntmps72
    go_wp2_with (first | ((with_reducible refine lst (by with_unfolding_all rfl) (wp_falloc hF0 (cs := vl0) (z := .agg (List.toArray (vl0))) rfl (by kernel_rfl) (by with_unfolding_all rfl) ?_)); intro w1 g1 hF1 hz1))
    refine (hwa.out _ _ hF1).mono ?_
    rintro e w2 ⟨rfl, h2⟩
    have hF2 := hF1.putF (i := 1) rfl h2
    simp only [List.set_cons_succ, List.set_cons_zero] at hF2
    clear hF1 hwa h2
    go_wp2_with (first | (with_reducible refine lst (by with_unfolding_all rfl) (wp_fld1 hF2 Tryz.underlying3 rfl (by with_unfolding_all exact ⟨_, rfl, rfl⟩) rfl ?_)) | ((with_reducible refine lst (by with_unfolding_all rfl) (wp_fst1 hF2 (by with_unfolding_all exact ⟨_, _, rfl, rfl, rfl⟩) (by kernel_rfl) rfl rfl (by rw [rrL_len]; decide) (rrL_it (v := (m : Int) + 1) (q := m + 1) (by omega)) ?_)); intro w3 hF3 hz3))
    clear hF2
    refine (rnumber_ok g A n c p (m + 1) B b _ (hF3.blk (i := 1) rfl) hg (Nat.le_trans hB hF3.size) hn hnc hplt (hF3.rdB hg hB hr) x hx.out hnum.out).mono ?_
    rintro e w5 h5'
    obtain ⟨cs, es, v, p5, f5, wh5, m5, rfl, hvt, h5, hJv⟩ := h5'.u her.out
    clear h5'
    have hF5 := hF3.putG (i := 1) rfl h5
    simp only [List.set_cons_succ, List.set_cons_zero, List.cons_append, List.nil_append] at hF5
    have hvl := box hvt.len
    have hvo := box hvt.one
    replace hvt := box hvt
    replace hJv := box hJv
    clear h5 hF3
    go_wp2_with (first | ((with_reducible refine lst (by with_unfolding_all rfl) (wp_fstA0 hF5 (by with_unfolding_all exact ⟨_, _, rfl, rfl, rfl⟩) (by rw [hvl.out]; kernel_rfl) hvo.out (by rw [hvl.out, vlL_len]; decide) (spl_all (by rw [hvl.out, vlL_len])) ?_)); intro w6 hF6 hz6))
    exact bodyPost_ret (results_cellF rfl _ hF6 (i := 0) rfl rfl Tryz.underlying51 rfl (by rw [hvl.out]; kernel_rfl)) rfl (RVal.of hvt.out hF6.tail (.congr (hJb.out ▸ hJv.out) (fun _ => rfl)))
  rw [if_neg hnm] at hJ
  have nd : (((x.toNat : Int) == 45) = false) ∧ (decide ((48 : Int) ≤ (x.toNat : Int)) = false ∨ decide ((48 : Int) ≤ (x.toNat : Int)) = true ∧ decide ((x.toNat : Int) ≤ 57) = false) := by
   refine ⟨u8_ne (fun h => hnm (.inl h)), ?_⟩
   by_cases h48 : 48 ≤ x.toNat
   ·right; refine ⟨decide_eq_true (by omega), decide_eq_false (fun h => hnm (.inr ?_))⟩; simp [jDig]; omega
   ·left; exact decide_eq_false (by omega)
  obtain ⟨n45, nd⟩ := nd
  clear hnm
  by_cases hx34 : x = 34
  ·subst hx34
   rw [if_pos rfl] at hJ
   have hJb : Box (jValueW b val p m = jb (jText b p) fun y => .ok (.mk 4 0 y.1 [] [], y.2, m + 1)) := box (by rw [hJ]; unfold jb; cases jText b p <;> rfl)
   clear hJ hl5 hl6 hve
   go_enter Tryz.func72, Tryz.ntmps72
   go_wp2_with (first | ((with_reducible refine lst (by with_unfolding_all rfl) (wp_falloc hF0 (cs := vl0) (z := .agg (List.toArray (vl0))) rfl (by kernel_rfl) (by with_unfolding_all rfl) ?_)); intro w1 g1 hF1 hz1))
   refine (hwa.out _ _ hF1).mono ?_
   rintro e w2 ⟨rfl, h2⟩
   have hF2 := hF1.putF (i := 1) rfl h2
   simp only [List.set_cons_succ, List.set_cons_zero] at hF2
   clear hF1 hwa h2
   go_wp2_with (first | (with_reducible refine lst (by with_unfolding_all rfl) (wp_fld1 hF2 Tryz.underlying3 rfl (by with_unfolding_all exact ⟨_, rfl, rfl⟩) rfl ?_)) | ((with_reducible refine lst (by with_unfolding_all rfl) (wp_fst1 hF2 (by with_unfolding_all exact ⟨_, _, rfl, rfl, rfl⟩) (by kernel_rfl) rfl rfl (by rw [rrL_len]; decide) (rrL_it (v := (m : Int) + 1) (q := m + 1) (by omega)) ?_)); intro w3 hF3 hz3))
   clear hF2
   refine (rtext_u (hF3.blk (i := 1) rfl) hg (Nat.le_trans hB hF3.size) hn hnc hp (hF3.rdB hg hB hr)).mono ?_
   rintro e w5 ⟨s, p5, f5, wh5, m5, rfl, h5, hJw, hm6⟩
   have hF5 := hF3.putF (i := 1) rfl h5
   simp only [List.set_cons_succ, List.set_cons_zero] at hF5
   have hJe : Box (JS (jValueW b val p m) f5 wh5 (.ok (.mk 4 0 s [] [], p5, m5))) := box ((JS.step (k := fun (y : List UInt8 × Nat) => .ok (.mk 4 0 y.1 [] [], y.2, m + 1)) (.inl ⟨rfl, rfl, hJb.out⟩) (by rw [jr_ok]; exact hJw)).congr (fun h => by rw [hm6 h]))
   clear h5 hJw hm6 hF3 hJb
   go_wp2_with (first | (with_reducible refine lst (by with_unfolding_all rfl) (wp_fbuild Tryz.underlying51 (z := .agg (List.toArray vl0)) (by kernel_rfl) (pl := vlP) (by kernel_rfl) (cs := (vlL 4 0 ⟨s.toArray⟩ (.slice none 0 0) (.slice none 0 0))) rfl (vs := [(0, .int .i64 4), (2, .string ⟨s.toArray⟩)]) (by with_unfolding_all rfl) (by with_unfolding_all rfl) ?_)) | ((with_reducible refine lst (by with_unfolding_all rfl) (wp_fstA0 hF5 (by with_unfolding_all exact ⟨_, _, rfl, rfl, rfl⟩) (by rw [vlL_len]; kernel_rfl) vlL_one vlL_fit vlL_spl ?_)); intro w6 hF6 hz6))
   exact bodyPost_ret (results_cellF rfl _ hF6 (i := 0) rfl rfl Tryz.underlying51 rfl (by rw [vlL_len]; kernel_rfl)) rfl (RVal.of VT.leaf (((hF6.tail.pushNone 5).pushNone 1).picks [2, 0, 1] rfl (by decide)) hJe.out)
  rw [if_neg hx34] at hJ
  have n34 : ((x.toNat : Int) == 34) = false := u8_ne hx34
  clear hx34
  by_cases hx91 : x = 91
  ·subst hx91
   rw [if_pos rfl] at hJ
   have hJb := box hJ
   have her := box (jMany_er b 5 93 hve p (m + 1))
   have hmn := box (fun w' h1 h2 h3 => hl5 w' hplt hmlt h1 h2 h3)
   clear hJ hl5 hl6 hve
   go_enter Tryz.func72, Tryz.ntmps72
   go_wp2_with (first | ((with_reducible refine lst (by with_unfolding_all rfl) (wp_falloc hF0 (cs := vl0) (z := .agg (List.toArray (vl0))) rfl (by kernel_rfl) (by with_unfolding_all rfl) ?_)); intro w1 g1 hF1 hz1))
   refine (hwa.out _ _ hF1).mono ?_
   rintro e w2 ⟨rfl, h2⟩
   have hF2 := hF1.putF (i := 1) rfl h2
   simp only [List.set_cons_succ, List.set_cons_zero] at hF2
   clear hF1 hwa h2
   go_wp2_with (first | (with_reducible refine lst (by with_unfolding_all rfl) (wp_fld1 hF2 Tryz.underlying3 rfl (by with_unfolding_all exact ⟨_, rfl, rfl⟩) rfl ?_)) | ((with_reducible refine lst (by with_unfolding_all rfl) (wp_fst1 hF2 (by with_unfolding_all exact ⟨_, _, rfl, rfl, rfl⟩) (by kernel_rfl) rfl rfl (by rw [rrL_len]; decide) (rrL_it (v := (m : Int) + 1) (q := m + 1) (by omega)) ?_)); intro w3 hF3 hz3))
   clear hF2
   refine (hmn.out _ (hF3.blk (i := 1) rfl) (Nat.le_trans hB hF3.size) (hF3.rdB hg hB hr)).mono ?_
   rintro e w5 h5'
   obtain ⟨cs, es, v, p5, f5, wh5, m5, rfl, hvt, h5, hJv⟩ := h5'.u her.out
   clear h5' hmn
   have hF5 := hF3.putG (i := 1) rfl h5
   simp only [List.set_cons_succ, List.set_cons_zero, List.cons_append, List.nil_append] at hF5
   have hvl := box hvt.len
   have hvo := box hvt.one
   replace hvt := box hvt
   replace hJv := box hJv
   clear h5 hF3
   go_wp2_with (first | ((with_reducible refine lst (by with_unfolding_all rfl) (wp_fstA0 hF5 (by with_unfolding_all exact ⟨_, _, rfl, rfl, rfl⟩) (by rw [hvl.out]; kernel_rfl) hvo.out (by rw [hvl.out, vlL_len]; decide) (spl_all (by rw [hvl.out, vlL_len])) ?_)); intro w6 hF6 hz6))
   exact bodyPost_ret (results_cellF rfl _ hF6 (i := 0) rfl rfl Tryz.underlying51 rfl (by rw [hvl.out]; kernel_rfl)) rfl (RVal.of hvt.out hF6.tail (.congr (hJb.out ▸ hJv.out) (fun _ => rfl)))
  rw [if_neg hx91] at hJ
  have n91 : ((x.toNat : Int) == 91) = false := u8_ne hx91
  clear hx91
  by_cases hx123 : x = 123
  ·subst hx123
   rw [if_pos rfl] at hJ
   have hJb := box hJ
   have her := box (jMany_er b 6 125 hve p (m + 1))
   have hmn := box (fun w' h1 h2 h3 => hl6 w' hplt hmlt h1 h2 h3)
   clear hJ hl5 hl6 hve
   go_enter Tryz.func72, Tryz.ntmps72
   go_wp2_with (first | ((with_reducible refine lst (by with_unfolding_all rfl) (wp_falloc hF0 (cs := vl0) (z := .agg (List.toArray (vl0))) rfl (by kernel_rfl) (by with_unfolding_all rfl) ?_)); intro w1 g1 hF1 hz1))
   refine (hwa.out _ _ hF1).mono ?_
   rintro e w2 ⟨rfl, h2⟩
   have hF2 := hF1.putF (i := 1) rfl h2
   simp only [List.set_cons_succ, List.set_cons_zero] at hF2
   clear hF1 hwa h2
   go_wp2_with (first | (with_reducible refine lst (by with_unfolding_all rfl) (wp_fld1 hF2 Tryz.underlying3 rfl (by with_unfolding_all exact ⟨_, rfl, rfl⟩) rfl ?_)) | ((with_reducible refine lst (by with_unfolding_all rfl) (wp_fst1 hF2 (by with_unfolding_all exact ⟨_, _, rfl, rfl, rfl⟩) (by kernel_rfl) rfl rfl (by rw [rrL_len]; decide) (rrL_it (v := (m : Int) + 1) (q := m + 1) (by omega)) ?_)); intro w3 hF3 hz3))
   clear hF2
   refine (hmn.out _ (hF3.blk (i := 1) rfl) (Nat.le_trans hB hF3.size) (hF3.rdB hg hB hr)).mono ?_
   rintro e w5 h5'
   obtain ⟨cs, es, v, p5, f5, wh5, m5, rfl, hvt, h5, hJv⟩ := h5'.u her.out
   clear h5' hmn
   have hF5 := hF3.putG (i := 1) rfl h5
   simp only [List.set_cons_succ, List.set_cons_zero, List.cons_append, List.nil_append] at hF5
   have hvl := box hvt.len
   have hvo := box hvt.one
   replace hvt := box hvt
   replace hJv := box hJv
   clear h5 hF3
   go_wp2_with (first | ((with_reducible refine lst (by with_unfolding_all rfl) (wp_fstA0 hF5 (by with_unfolding_all exact ⟨_, _, rfl, rfl, rfl⟩) (by rw [hvl.out]; kernel_rfl) hvo.out (by rw [hvl.out, vlL_len]; decide) (spl_all (by rw [hvl.out, vlL_len])) ?_)); intro w6 hF6 hz6))
   exact bodyPost_ret (results_cellF rfl _ hF6 (i := 0) rfl rfl Tryz.underlying51 rfl (by rw [hvl.out]; kernel_rfl)) rfl (RVal.of hvt.out hF6.tail (.congr (hJb.out ▸ hJv.out) (fun _ => rfl)))
  rw [if_neg hx123] at hJ
  have n123 : ((x.toNat : Int) == 123) = false := u8_ne hx123
  clear hx123
  have hend := box hJ
  clear hJ hl5 hl6 hve
  rcases nd with nd | ⟨nd, nd2⟩
  ·skip
   go_enter Tryz.func72, Tryz.ntmps72
   go_wp2_with (first | ((with_reducible refine lst (by with_unfolding_all rfl) (wp_falloc hF0 (cs := vl0) (z := .agg (List.toArray (vl0))) rfl (by kernel_rfl) (by with_unfolding_all rfl) ?_)); intro w1 g1 hF1 hz1))
   refine (hwa.out _ _ hF1).mono ?_
   rintro e w2 ⟨rfl, h2⟩
   have hF2 := hF1.putF (i := 1) rfl h2
   simp only [List.set_cons_succ, List.set_cons_zero] at hF2
   clear hF1 hwa h2
   go_wp2_with (first | (with_reducible refine lst (by with_unfolding_all rfl) (wp_fld1 hF3 Tryz.underlying3 rfl (by with_unfolding_all exact ⟨_, rfl, rfl⟩) rfl ?_)) | (with_reducible refine lst (by with_unfolding_all rfl) (wp_fld1 hF2 Tryz.underlying3 rfl (by with_unfolding_all exact ⟨_, rfl, rfl⟩) rfl ?_)) | ((with_reducible refine lst (by with_unfolding_all rfl) (wp_fst1 hF2 (by with_unfolding_all exact ⟨_, _, rfl, rfl, rfl⟩) (by kernel_rfl) rfl rfl (by rw [rrL_len]; decide) (rrL_it (v := (m : Int) + 1) (q := m + 1) (by omega)) ?_)); intro w3 hF3 hz3))
   clear hF2
   refine (rfail_ok g A n c p (m + 1) (p, 10) _ (hF3.blk (i := 1) rfl)).mono ?_
   rintro e w4 ⟨rfl, h4⟩
   have hF4 := hF3.putF (i := 1) rfl h4
   simp only [List.set_cons_succ, List.set_cons_zero] at hF4
   go_wp2_with (first | (with_reducible refine lst (by with_unfolding_all rfl) (wp_fbuild Tryz.underlying51 (z := .agg (List.toArray vl0)) (by kernel_rfl) (pl := vlP) (by kernel_rfl) (cs := (vlL 0 0 ⟨#[]⟩ (.slice none 0 0) (.slice none 0 0))) rfl (vs := []) (by with_unfolding_all rfl) (by with_unfolding_all rfl) ?_)) | ((with_reducible refine lst (by with_unfolding_all rfl) (wp_fstA0 hF4 (by with_unfolding_all exact ⟨_, _, rfl, rfl, rfl⟩) (by rw [vlL_len]; kernel_rfl) vlL_one vlL_fit vlL_spl ?_)); intro w5 hF5 hz5))
   exact bodyPost_ret (results_cellF rfl _ hF5 (i := 0) rfl rfl Tryz.underlying51 rfl (by rw [vlL_len]; kernel_rfl)) rfl (RVal.of VT.leaf (((hF5.tail.pushNone 5).pushNone 1).picks [2, 0, 1] rfl (by decide)) (.inr ⟨by decide, hend.out⟩))
  ·skip
   go_enter Tryz.func72, Tryz.ntmps72
   go_wp2_with (first | ((with_reducible refine lst (by with_unfolding_all rfl) (wp_falloc hF0 (cs := vl0) (z := .agg (List.toArray (vl0))) rfl (by kernel_rfl) (by with_unfolding_all rfl) ?_)); intro w1 g1 hF1 hz1))
   refine (hwa.out _ _ hF1).mono ?_
   rintro e w2 ⟨rfl, h2⟩
   have hF2 := hF1.putF (i := 1) rfl h2
   simp only [List.set_cons_succ, List.set_cons_zero] at hF2
   clear hF1 hwa h2
   go_wp2_with (first | (with_reducible refine lst (by with_unfolding_all rfl) (wp_fld1 hF3 Tryz.underlying3 rfl (by with_unfolding_all exact ⟨_, rfl, rfl⟩) rfl ?_)) | (with_reducible refine lst (by with_unfolding_all rfl) (wp_fld1 hF2 Tryz.underlying3 rfl (by with_unfolding_all exact ⟨_, rfl, rfl⟩) rfl ?_)) | ((with_reducible refine lst (by with_unfolding_all rfl) (wp_fst1 hF2 (by with_unfolding_all exact ⟨_, _, rfl, rfl, rfl⟩) (by kernel_rfl) rfl rfl (by rw [rrL_len]; decide) (rrL_it (v := (m : Int) + 1) (q := m + 1) (by omega)) ?_)); intro w3 hF3 hz3))
   clear hF2
   refine (rfail_ok g A n c p (m + 1) (p, 10) _ (hF3.blk (i := 1) rfl)).mono ?_
   rintro e w4 ⟨rfl, h4⟩
   have hF4 := hF3.putF (i := 1) rfl h4
   simp only [List.set_cons_succ, List.set_cons_zero] at hF4
   go_wp2_with (first | (with_reducible refine lst (by with_unfolding_all rfl) (wp_fbuild Tryz.underlying51 (z := .agg (List.toArray vl0)) (by kernel_rfl) (pl := vlP) (by kernel_rfl) (cs := (vlL 0 0 ⟨#[]⟩ (.slice none 0 0) (.slice none 0 0))) rfl (vs := []) (by with_unfolding_all rfl) (by with_unfolding_all rfl) ?_)) | ((with_reducible refine lst (by with_unfolding_all rfl) (wp_fstA0 hF4 (by with_unfolding_all exact ⟨_, _, rfl, rfl, rfl⟩) (by rw [vlL_len]; kernel_rfl) vlL_one vlL_fit vlL_spl ?_)); intro w5 hF5 hz5))
   exact bodyPost_ret (results_cellF rfl _ hF5 (i := 0) rfl rfl Tryz.underlying51 rfl (by rw [vlL_len]; kernel_rfl)) rfl (RVal.of VT.leaf (((hF5.tail.pushNone 5).pushNone 1).picks [2, 0, 1] rfl (by decide)) (.inr ⟨by decide, hend.out⟩))
theorem rvalue_any : ∀ (d deep : Nat), deep + d = 16 → RValueOk d deep
 | 0, deep, hd => fun w g A n c p f wh m B b hh hg hB hn hnc hw hp hm hr => by
  obtain rfl : deep = 16 := by omega
  by_cases hf : f = 0
  ·subst hf
   obtain rfl := hw rfl
   rw [jr_ok]
   exact (rvalue_of 16 none w g A n c p m B b (fun f h => by cases h) hh hg hB hn hnc (hp rfl) (hm rfl) hr (fun w' _ _ hh' _ _ => rmany_deep5 g A n c p (m + 1) b w' hh') (fun w' _ _ hh' _ _ => rmany_deep6 g A n c p (m + 1) b w' hh')).mono fun e w' h => h.u (jValue_er b 0 p m)
  ·exact rvalue_bad w g A n c p f wh m B b _ _ hf hh hg hB hr
 | d + 1, deep, hd => fun w g A n c p f wh m B b hh hg hB hn hnc hw hp hm hr => by
  by_cases hf : f = 0
  ·subst hf
   obtain rfl := hw rfl
   rw [jr_ok]
   exact (rvalue_of deep (some (jValue b d)) w g A n c p m B b (fun f h => by injection h with h; subst h; exact jValue_er b d) hh hg hB hn hnc (hp rfl) (hm rfl) hr
    (fun w' h1 h2 hh' h4 h5 => rmany_5 d deep (rvalue_any d (deep + 1) (by omega)) (by omega) g A n c p (m + 1) B b w' hh' hg h4 hn hnc h1 (by omega) h5)
    (fun w' h1 h2 hh' h4 h5 => rmany_6 d deep (rvalue_any d (deep + 1) (by omega)) (by omega) g A n c p (m + 1) B b w' hh' hg h4 hn hnc h1 (by omega) h5)).mono fun e w' h => h.u (jValue_er b (d + 1) p m)
  ·exact rvalue_bad w g A n c p f wh m B b _ _ hf hh hg hB hr
end Go.Proofs.YtlhicfpmlncomaaGreatDoor

namespace Go.Proofs.YtlhicfpmlncomaaGreatDoor
open Go.RowKit
set_option linter.unusedSimpArgs false
set_option linter.unusedVariables false
section
variable {P : Program} {X : List Nat} {w0 w : World} {es : List Ent}
/-- Three results: a struct that lies in cells, two numbers. -/
theorem results_cellTT {fn : Func} {p q r : Tmp} {ty : TypeId} (h : fn.results = #[.cell p ty, .tmp q, .tmp r]) (tmps : Array Value) (hF : Fr X w0 w es) {i g : Nat} {t : TypeId} {cs : List Value} (hi : es[i]? = some (.blk g t cs)) (hp : tmps.getD p undef = .pointer (some ⟨g, 0, none⟩))
  {d : TypeDesc} (hu : P.underlying ty = some d) (hd : aggT d = true) (hs : (P.info? ty).map (·.size) = some cs.length) : (results fn tmps).run P w = .ok (.tuple #[.agg cs.toArray, tmps.getD q undef, tmps.getD r undef]) w := by
 have hp' : tmps[p]?.getD undef = .pointer (some ⟨g, 0, none⟩) := by simpa using hp
 simp [results, h, hp', asAddr, run_loadF hF hi hu hd hs]
end
/-- What the document's Parse tells. -/
def RParse (w : World) (r : JR JV) (e : Ending) (w' : World) : Prop :=
 match r with
 | .ok v => ∃ cs es, e = .returned (.tuple #[.agg cs.toArray, .int .i64 0, .int .i64 0]) ∧ VT v cs es ∧ Fr [] w w' es
 | .error x => e = .returned (.tuple #[.agg vl0.toArray, .int .i64 (x.1 : Int), .int .i64 (x.2 : Int)]) ∧ Below w.heap.size w w'
def rrP : List (Nat × Nat) := [(0, 1), (1, 1), (2, 1), (3, 1), (4, 1)]
abbrev rr0 : List Value := [.slice none 0 0, .int .i64 0, .int .i64 0, .int .i64 0, .int .i64 0]
set_option maxRecDepth 20000 in
set_option maxHeartbeats 6400000 in
theorem rparse_any (A : Option Addr) (n c : Nat) (b : List UInt8) (w : World) (hnc : n ≤ c) (hn47 : n ≤ 140737488355328) (hr : Rd w (· < w.heap.size) A 1 n (b.map bv)) :
  Calls Tryz.prog 33 #[.slice A n c] w (RParse w (jParse b)) := by
 have hl := box hr.bytes_len
 have hF0 := Fr.nil w
 by_cases hbig : 65536 < n
 ·have hend : Box (jParse b = .error (0, 8)) := box (by unfold jParse; rw [if_pos (by rw [hl.out]; exact hbig)])
  have d1 : decide ((65536 : Int) < (n : Int)) = true := decide_eq_true (by omega)
  replace hn47 := box hn47
  replace hbig := box hbig
  go_enter Tryz.func33, Tryz.ntmps33
  go_wp2_with (first | ((with_reducible refine lst (by with_unfolding_all rfl) (wp_falloc hF0 (cs := vl0) (z := .agg (List.toArray (vl0))) rfl (by kernel_rfl) (by with_unfolding_all rfl) ?_)); intro w1 g1 hF1 hz1) | (with_reducible refine lst (by with_unfolding_all rfl) (wp_fbuild Tryz.underlying51 (z := .agg (List.toArray vl0)) (by kernel_rfl) (pl := vlP) (by kernel_rfl) (cs := vl0) rfl (vs := []) (by with_unfolding_all rfl) (by with_unfolding_all rfl) ?_)) | ((with_reducible refine lst (by with_unfolding_all rfl) (wp_fstA0 hF1 (by with_unfolding_all exact ⟨_, _, rfl, rfl, rfl⟩) (by rw [vlL_len]; kernel_rfl) vlL_one vlL_fit vlL_spl ?_)); intro w2 hF2 hz2))
  exact bodyPost_ret (results_cellTT rfl _ hF2 (i := 0) rfl rfl Tryz.underlying51 rfl (by rw [vlL_len]; kernel_rfl)) rfl (by
   unfold RParse
   rw [hend.out]
   exact ⟨rfl, hF2.below⟩)
 ·have d1 : decide ((65536 : Int) < (n : Int)) = false := decide_eq_false (by omega)
  have hJ : jParse b = jb (jValue b 16 (jBlanks b 0) 0) fun y => if jBlanks b y.2.1 < n then .error (jBlanks b y.2.1, 10) else .ok y.1 := by
   unfold jParse jb
   rw [if_neg (by rw [hl.out]; exact hbig)]
   cases jValue b 16 (jBlanks b 0) 0 with
   | error x => rfl
   | ok y =>
    obtain ⟨v, p, m'⟩ := y
    show (if jBlanks b p < b.length then _ else _) = _
    rw [hl.out]
  replace hJ := box hJ
  have hn : n ≤ 65536 := by omega
  clear hn47 hbig
  have hb0 : jBlanks b 0 ≤ n := by have := jBlanks_le b (p := 0) (Nat.zero_le _); rw [hl.out] at this; exact this
  go_enter Tryz.func33, Tryz.ntmps33
  go_wp2_with (first | ((with_reducible refine lst (by with_unfolding_all rfl) (wp_falloc hF0 (cs := vl0) (z := .agg (List.toArray (vl0))) rfl (by kernel_rfl) (by with_unfolding_all rfl) ?_)); intro w1 g1 hF1 hz1) | (with_reducible refine lst (by with_unfolding_all rfl) (wp_fbuild Tryz.underlying146 (z := .agg (List.toArray rr0)) (by kernel_rfl) (pl := rrP) (by kernel_rfl) (cs := (rrL A n c 0 0 0 0)) rfl (vs := [(0, .slice A n c)]) (by with_unfolding_all rfl) (by with_unfolding_all rfl) ?_)) | ((with_reducible refine lst (by with_unfolding_all rfl) (wp_fbox hF1 (cs := (rrL A n c 0 0 0 0)) rfl (by with_unfolding_all rfl) (by with_unfolding_all rfl) ?_)); intro w2 g2 hF2 hz2))
  clear hF0 hF1
  have hg2 : w.heap.size ≤ g2 := by
   rcases hF2.fresh 0 _ rfl _ rfl with h | h
   ·exact h
   ·simp at h
  refine (rblanks_ok g2 A n c 0 0 0 w.heap.size b w2 (hF2.blk (i := 0) rfl) hg2 hF2.size (by omega) (Nat.zero_le _) (hr.below hF2.below)).mono ?_
  rintro e w3 ⟨rfl, h3⟩
  have hF3 := hF2.putF (i := 0) rfl h3
  simp only [List.set_cons_succ, List.set_cons_zero] at hF3
  clear h3 hF2
  have hva := box (rvalue_any 16 0 rfl w3 g2 A n c (jBlanks b 0) 0 0 0 w.heap.size b (hF3.blk (i := 0) rfl) hg2 hF3.size hn hnc (fun _ => rfl) (fun _ => hb0) (fun _ => Nat.zero_le _) (hr.below hF3.below))
  go_wp2_with fail
  refine hva.out.mono ?_
  rintro e w4 ⟨cs, es, v, q, f, wh, m', rfl, hvt, h4, hJv⟩
  have hF4 := hF3.putG (i := 0) rfl h4
  simp only [List.set_cons_succ, List.set_cons_zero, List.cons_append, List.nil_append] at hF4
  have hvl := box hvt.len
  have hvo := box hvt.one
  have hJ2 := box (JS.step (k := fun y => if jBlanks b y.2.1 < n then .error (jBlanks b y.2.1, 10) else .ok y.1) (.inl ⟨rfl, rfl, hJ.out⟩) hJv)
  have hq : f = 0 → q ≤ n := fun h => by
   have h1 := hJv.eq h
   rw [jr_ok] at h1
   have h2 := (jValue_len 16 _ _ _ _ _ (by omega) h1).2.1
   rw [hl.out] at h2
   exact h2
  replace hq := box hq
  replace hvt := box hvt
  clear hva h4 hF3 hJv
  go_wp2_with (first | ((with_reducible refine lst (by with_unfolding_all rfl) (wp_falloc hF4 (cs := vl0) (z := .agg (List.toArray (vl0))) rfl (by kernel_rfl) (by with_unfolding_all rfl) ?_)); intro w5 g5 hF5 hz5) | ((with_reducible refine lst (by with_unfolding_all rfl) (wp_fstA0 hF5 (by with_unfolding_all exact ⟨_, _, rfl, rfl, rfl⟩) (by rw [hvl.out]; kernel_rfl) hvo.out (by rw [hvl.out, vlL_len]; decide) (spl_all (by rw [hvl.out, vlL_len])) ?_)); intro w6 hF6 hz6))
  clear hF4 hF5
  have hF7 := hF6.perm (es' := .blk g2 146 (rrL A n c q f wh m') :: .blk g5 51 cs :: .blk g1 51 vl0 :: es) (List.Perm.swap _ _ _)
  clear hF6
  refine (rblanks_u (hF7.blk (i := 0) rfl) hg2 hF7.size hn hq.out (hr.below hF7.below)).mono ?_
  rintro e w8 ⟨rfl, p5, h8, hp5⟩
  have hF8 := hF7.putF (i := 0) rfl h8
  simp only [List.set_cons_succ, List.set_cons_zero] at hF8
  have hJ3 := box (hJ2.out.congr (K' := if p5 < n then .error (p5, 10) else .ok v) (fun h => by rw [hp5 h]))
  clear h8 hp5 hJ2 hF7
  by_cases hf : f = 0
  ·subst hf
   obtain rfl := hJ3.out.wh0 rfl
   have hJ4 := hJ3.out.eq rfl
   clear hJ3
   by_cases hlt : p5 < n
   ·rw [if_pos hlt] at hJ4
    replace hJ4 := box hJ4
    have d2 : decide ((p5 : Int) < (n : Int)) = true := decide_eq_true (by omega)
    go_wp2_with (first | (with_reducible refine lst (by with_unfolding_all rfl) (wp_fld0 hF8 Tryz.underlying3 rfl (by with_unfolding_all exact ⟨_, rfl, rfl⟩) rfl ?_)))
    refine (rfail_ok g2 A n c p5 m' (p5, 10) _ (hF8.blk (i := 0) rfl)).mono ?_
    rintro e w9 ⟨rfl, h9⟩
    have hF9 := hF8.putF (i := 0) rfl h9
    simp only [List.set_cons_succ, List.set_cons_zero] at hF9
    go_upto_region 10 with (first | (with_reducible refine lst (by with_unfolding_all rfl) (wp_fld0 hF9 Tryz.underlying3 rfl (by with_unfolding_all exact ⟨_, rfl, rfl⟩) rfl ?_)))
    have hFd := hF9.drew
    clear hF9 hF8
    refine wp_region_held (S := fun w' => w'.heap[g2]? = some (.cells (List.toArray (rrL A n c p5 10 p5 m')) 146 (0, 0))) (by kernel_rfl) ?_
    change wpAnyH _ _ _ _ _ _ _ _ (World.drew _)
    refine tkp 0 (hFd.blk (i := 0) rfl) ?_
    (try simp only [Act.put, List.setIfInBounds_toArray, List.set_cons_zero, List.set_cons_succ])
    refine tkp 1 (hFd.blk (i := 0) rfl) ?_
    (try simp only [Act.put, List.setIfInBounds_toArray, List.set_cons_zero, List.set_cons_succ])
    refine tkp 2 (hFd.blk (i := 0) rfl) ?_
    (try simp only [Act.put, List.setIfInBounds_toArray, List.set_cons_zero, List.set_cons_succ])
    refine tkp 3 (hFd.blk (i := 0) rfl) ?_
    (try simp only [Act.put, List.setIfInBounds_toArray, List.set_cons_zero, List.set_cons_succ])
    refine tky 4 (y := yi_fld (by with_unfolding_all rfl) (fun _ h => h) Tryz.underlying3 rfl (by with_unfolding_all exact ⟨_, rfl, rfl⟩) rfl) (s := (hFd.blk (i := 0) rfl)) (h := ?_)
    (try simp only [Act.put, List.setIfInBounds_toArray, List.set_cons_zero, List.set_cons_succ])
    refine tkp 5 (hFd.blk (i := 0) rfl) ?_
    (try simp only [Act.put, List.setIfInBounds_toArray, List.set_cons_zero, List.set_cons_succ])
    refine tkp 6 (hFd.blk (i := 0) rfl) ?_
    (try simp only [Act.put, List.setIfInBounds_toArray, List.set_cons_zero, List.set_cons_succ])
    refine tkp 7 (hFd.blk (i := 0) rfl) ?_
    (try simp only [Act.put, List.setIfInBounds_toArray, List.set_cons_zero, List.set_cons_succ])
    refine tky 8 (y := yi_fld (by with_unfolding_all rfl) (fun _ h => h) Tryz.underlying3 rfl (by with_unfolding_all exact ⟨_, rfl, rfl⟩) rfl) (s := (hFd.blk (i := 0) rfl)) (h := ?_)
    (try simp only [Act.put, List.setIfInBounds_toArray, List.set_cons_zero, List.set_cons_succ])
    refine rdy1 9 (fun K hK => ?_)
    refine stp (by with_unfolding_all rfl) (wp_fstA hFd (i := 2) rfl (by with_unfolding_all exact ⟨_, _, rfl, rfl, rfl⟩) (by rw [vlL_len]; kernel_rfl) vlL_one (by rw [vlL_len]; decide) ?_)
    intro w31 hF31 hz31
    (try simp only [List.set_cons_zero, List.set_cons_succ] at hF31)
    rw [(spl_all (by rw [vlL_len]) : spl vl0 0 vl0 = vl0)] at hF31
    refine hK.out _ _ ((hF31.blk (i := 0) rfl)) (fun _ => ?_)
    clear hK K
    (try simp only [Act.put, List.setIfInBounds_toArray, List.set_cons_zero, List.set_cons_succ])
    refine tkp 10 (hF31.blk (i := 0) rfl) ?_
    (try simp only [Act.put, List.setIfInBounds_toArray, List.set_cons_zero])
    refine tkp 11 (hF31.blk (i := 0) rfl) ?_
    (try simp only [Act.put, List.setIfInBounds_toArray, List.set_cons_zero])
    refine wpAnyH_done (by kernel_rfl) ?_ _
    go_wp2_with fail
    exact bodyPost_ret (results_cellTT rfl _ hF31 (i := 2) rfl rfl Tryz.underlying51 rfl (by rw [vlL_len]; kernel_rfl)) rfl (by
     unfold RParse
     rw [hJ4.out]
     exact ⟨rfl, hF31.below⟩)
   ·rw [if_neg hlt] at hJ4
    replace hJ4 := box hJ4
    have d2 : decide ((p5 : Int) < (n : Int)) = false := decide_eq_false (by omega)
    go_wp2_with (first | (with_reducible refine lst (by with_unfolding_all rfl) (wp_fld0 hF8 Tryz.underlying3 rfl (by with_unfolding_all exact ⟨_, rfl, rfl⟩) rfl ?_)) | (with_reducible refine lst (by with_unfolding_all rfl) (wp_fldA1 hF8 Tryz.underlying51 rfl (by with_unfolding_all exact ⟨_, rfl, rfl⟩) (ds := cs) (by rw [hvl.out]; kernel_rfl) (take_all _) ?_)) | ((with_reducible refine lst (by with_unfolding_all rfl) (wp_fstA2 hF8 (by with_unfolding_all exact ⟨_, _, rfl, rfl, rfl⟩) (by rw [hvl.out]; kernel_rfl) hvo.out (by rw [hvl.out, vlL_len]; decide) (spl_all (by rw [hvl.out, vlL_len])) ?_)); intro w9 hF9 hz9))
    exact bodyPost_ret (results_cellTT rfl _ hF9 (i := 2) rfl rfl Tryz.underlying51 rfl (by rw [hvl.out]; kernel_rfl)) rfl (by
     unfold RParse
     rw [hJ4.out]
     exact ⟨cs, es, rfl, hvt.out, hF9.tail.tail.tail⟩)
  ·have hJ4 := box (hJ3.out.err hf)
   have hf0 : ((f : Int) == 0) = false := by rw [beq_eq_false_iff_ne]; omega
   have hf1 : ((f : Int) != 0) = true := by rw [bne_iff_ne]; omega
   replace hf := box hf
   clear hJ3
   go_upto_region 10 with (first | (with_reducible refine lst (by with_unfolding_all rfl) (wp_fld0 hF8 Tryz.underlying3 rfl (by with_unfolding_all exact ⟨_, rfl, rfl⟩) rfl ?_)))
   have hFd := hF8.drew
   clear hF8
   refine wp_region_held (S := fun w' => w'.heap[g2]? = some (.cells (List.toArray (rrL A n c p5 f wh m')) 146 (0, 0))) (by kernel_rfl) ?_
   change wpAnyH _ _ _ _ _ _ _ _ (World.drew _)
   refine tkp 0 (hFd.blk (i := 0) rfl) ?_
   (try simp only [Act.put, List.setIfInBounds_toArray, List.set_cons_zero, List.set_cons_succ])
   refine tkp 1 (hFd.blk (i := 0) rfl) ?_
   (try simp only [Act.put, List.setIfInBounds_toArray, List.set_cons_zero, List.set_cons_succ])
   refine tkp 2 (hFd.blk (i := 0) rfl) ?_
   (try simp only [Act.put, List.setIfInBounds_toArray, List.set_cons_zero, List.set_cons_succ])
   refine tkp 3 (hFd.blk (i := 0) rfl) ?_
   (try simp only [Act.put, List.setIfInBounds_toArray, List.set_cons_zero, List.set_cons_succ])
   refine tky 4 (y := yi_fld (by with_unfolding_all rfl) (fun _ h => h) Tryz.underlying3 rfl (by with_unfolding_all exact ⟨_, rfl, rfl⟩) rfl) (s := (hFd.blk (i := 0) rfl)) (h := ?_)
   (try simp only [Act.put, List.setIfInBounds_toArray, List.set_cons_zero, List.set_cons_succ])
   refine tkp 5 (hFd.blk (i := 0) rfl) ?_
   (try simp only [Act.put, List.setIfInBounds_toArray, List.set_cons_zero, List.set_cons_succ])
   refine tkp 6 (hFd.blk (i := 0) rfl) ?_
   (try simp only [Act.put, List.setIfInBounds_toArray, List.set_cons_zero, List.set_cons_succ])
   refine tkp 7 (hFd.blk (i := 0) rfl) ?_
   (try simp only [Act.put, List.setIfInBounds_toArray, List.set_cons_zero, List.set_cons_succ])
   refine tky 8 (y := yi_fld (by with_unfolding_all rfl) (fun _ h => h) Tryz.underlying3 rfl (by with_unfolding_all exact ⟨_, rfl, rfl⟩) rfl) (s := (hFd.blk (i := 0) rfl)) (h := ?_)
   (try simp only [Act.put, List.setIfInBounds_toArray, List.set_cons_zero, List.set_cons_succ])
   refine rdy1 9 (fun K hK => ?_)
   refine stp (by with_unfolding_all rfl) (wp_fstA hFd (i := 2) rfl (by with_unfolding_all exact ⟨_, _, rfl, rfl, rfl⟩) (by rw [vlL_len]; kernel_rfl) vlL_one (by rw [vlL_len]; decide) ?_)
   intro w31 hF31 hz31
   (try simp only [List.set_cons_zero, List.set_cons_succ] at hF31)
   rw [(spl_all (by rw [vlL_len]) : spl vl0 0 vl0 = vl0)] at hF31
   refine hK.out _ _ ((hF31.blk (i := 0) rfl)) (fun _ => ?_)
   clear hK K
   (try simp only [Act.put, List.setIfInBounds_toArray, List.set_cons_zero, List.set_cons_succ])
   refine tkp 10 (hF31.blk (i := 0) rfl) ?_
   (try simp only [Act.put, List.setIfInBounds_toArray, List.set_cons_zero])
   refine tkp 11 (hF31.blk (i := 0) rfl) ?_
   (try simp only [Act.put, List.setIfInBounds_toArray, List.set_cons_zero])
   refine wpAnyH_done (by kernel_rfl) ?_ _
   go_wp2_with fail
   exact bodyPost_ret (results_cellTT rfl _ hF31 (i := 2) rfl rfl Tryz.underlying51 rfl (by rw [vlL_len]; kernel_rfl)) rfl (by
    unfold RParse
    rw [hJ4.out]
    exact ⟨rfl, hF31.below⟩)
/-- .. within a frame. -/
def RParseF (X : List Nat) (w0 : World) (es : List Ent) (r : JR JV) (e : Ending) (w' : World) : Prop :=
 match r with
 | .ok v => ∃ cs es', e = .returned (.tuple #[.agg cs.toArray, .int .i64 0, .int .i64 0]) ∧ VT v cs es' ∧ Fr X w0 w' (es' ++ es)
 | .error x => e = .returned (.tuple #[.agg vl0.toArray, .int .i64 (x.1 : Int), .int .i64 (x.2 : Int)]) ∧ Fr X w0 w' es
theorem rparse_F {X : List Nat} {w0 w : World} {es : List Ent} (hF : Fr X w0 w es) {A : Option Addr} {n c : Nat} {b : List UInt8} (hnc : n ≤ c) (hn47 : n ≤ 140737488355328) (hr : Rd w (· < w.heap.size) A 1 n (b.map bv)) :
  Calls Tryz.prog 33 #[.slice A n c] w (RParseF X w0 es (jParse b)) := by
 refine (rparse_any A n c b w hnc hn47 hr).mono ?_
 intro e w' h
 unfold RParse at h
 unfold RParseF
 cases hj : jParse b with
 | error x => rw [hj] at h; exact ⟨h.1, hF.call h.2⟩
 | ok v =>
  rw [hj] at h
  obtain ⟨cs, es', rfl, hvt, hF'⟩ := h
  exact ⟨cs, es', rfl, hvt, hF.join hF'⟩
end Go.Proofs.YtlhicfpmlncomaaGreatDoor

namespace Go.Proofs.YtlhicfpmlncomaaGreatDoor
open Go.RowKit
set_option linter.unusedSimpArgs false
set_option linter.unusedVariables false
set_option maxRecDepth 20000 in
set_option maxHeartbeats 6400000 in
theorem rmparse_any (A : Option Addr) (n c : Nat) (b : List UInt8) (w : World) (hnc : n ≤ c) (hn47 : n ≤ 140737488355328) (hr : Rd w (· < w.heap.size) A 1 n (b.map bv)) :
  Calls Tryz.prog 12 #[.slice A n c] w (MPs w (mParse b)) := by
 have hF0 := Fr.nil w
 have hJ : mParse b = match jParse b with
  | .ok v => mRead v
  | .error x => .error x.2 := rfl
 have hpa := box (fun w' (es : List Ent) (hF : Fr [] w w' es) => rparse_F hF hnc hn47 (hr.on hF.below))
 replace hn47 := box hn47
 cases hj : jParse b with
 | error x =>
  have hx2 := jParse_er b x hj
  rw [hj] at hJ
  simp only [] at hJ
  have hq : ((x.2 : Int) != 0) = true := by rw [bne_iff_ne]; omega
  have hpa' := hpa.out
  unfold RParseF at hpa'
  rw [hj] at hpa'
  simp only [] at hpa'
  replace hpa' := box hpa'
  replace hJ := box hJ
  clear hpa hj hx2
  go_enter Tryz.func12, Tryz.ntmps12
  go_wp2_with (first | ((with_reducible refine lst (by with_unfolding_all rfl) (wp_falloc hF0 (cs := doc0) (z := .agg (List.toArray (doc0))) rfl (by kernel_rfl) (by with_unfolding_all rfl) ?_)); intro w1 g1 hF1 hz1))
  refine (hpa'.out _ _ hF1).mono ?_
  rintro e w2 ⟨rfl, hF2⟩
  clear hpa'
  go_wp2_with (first | ((with_reducible refine lst (by with_unfolding_all rfl) (wp_falloc hF2 (cs := vl0) (z := .agg (List.toArray (vl0))) rfl (by kernel_rfl) (by with_unfolding_all rfl) ?_)); intro w3 g3 hF3 hz3) | ((with_reducible refine lst (by with_unfolding_all rfl) (wp_fstA0 hF3 (by with_unfolding_all exact ⟨_, _, rfl, rfl, rfl⟩) (by rw [vlL_len]; kernel_rfl) vlL_one vlL_fit vlL_spl ?_)); intro w4 hF4 hz4) | (with_reducible refine lst (by with_unfolding_all rfl) (wp_fbuild Tryz.underlying40 (z := .agg (List.toArray doc0)) (by kernel_rfl) (pl := docP) (by kernel_rfl) (cs := doc0) rfl (vs := []) (by with_unfolding_all rfl) (by with_unfolding_all rfl) ?_)) | ((with_reducible refine lst (by with_unfolding_all rfl) (wp_fstA1 hF4 (by with_unfolding_all exact ⟨_, _, rfl, rfl, rfl⟩) (by rw [doc0_len]; kernel_rfl) doc0_one (Nat.le_of_eq (Nat.zero_add _)) (spl_all rfl) ?_)); intro w5 hF5 hz5))
  exact bodyPost_ret (results_cellF2 rfl _ hF5 (i := 1) rfl rfl Tryz.underlying40 rfl (by rw [doc0_len]; kernel_rfl)) rfl (by
   unfold MPs
   rw [hJ.out]
   exact ⟨_, _, rfl, VDoc.zero, hF5⟩)
 | ok v =>
  rw [hj] at hJ
  simp only [] at hJ
  have hob := jParse_ob hj
  have hpa' := hpa.out
  unfold RParseF at hpa'
  rw [hj] at hpa'
  simp only [] at hpa'
  replace hpa' := box hpa'
  clear hpa hj
  obtain ⟨R, hR⟩ : ∃ R, R = mRead v := ⟨_, rfl⟩
  rw [← hR] at hJ
  replace hJ := box hJ
  go_enter Tryz.func12, Tryz.ntmps12
  go_wp2_with (first | ((with_reducible refine lst (by with_unfolding_all rfl) (wp_falloc hF0 (cs := doc0) (z := .agg (List.toArray (doc0))) rfl (by kernel_rfl) (by with_unfolding_all rfl) ?_)); intro w1 g1 hF1 hz1))
  refine (hpa'.out _ _ hF1).mono ?_
  rintro e w2 ⟨cs, es, rfl, hvt, hF2'⟩
  have hF2 := hF2'.perm (es' := .blk g1 40 doc0 :: es) List.perm_append_comm
  have hvl := box hvt.len
  have hvo := box hvt.one
  replace hvt := box hvt
  clear hpa' hF2'
  go_wp2_with (first | ((with_reducible refine lst (by with_unfolding_all rfl) (wp_falloc hF2 (cs := vl0) (z := .agg (List.toArray (vl0))) rfl (by kernel_rfl) (by with_unfolding_all rfl) ?_)); intro w3 g3 hF3 hz3) | ((with_reducible refine lst (by with_unfolding_all rfl) (wp_fstA0 hF3 (by with_unfolding_all exact ⟨_, _, rfl, rfl, rfl⟩) (by rw [hvl.out]; kernel_rfl) hvo.out (by rw [hvl.out]; decide) (spl_all (by rw [hvl.out, vlL_len])) ?_)); intro w4 hF4 hz4) | (with_reducible refine lst (by with_unfolding_all rfl) (wp_fldA0 hF4 Tryz.underlying51 rfl (by with_unfolding_all exact ⟨_, rfl, rfl⟩) (ds := cs) (by rw [hvl.out]; kernel_rfl) (take_all _) ?_)))
  have hrd := rread_any v cs w4 (hvt.out.rdS hF4 (by intro e he; simp [he])) hob
  rw [← hR] at hrd
  replace hrd := box hrd
  clear hR hob
  refine hrd.out.mono ?_
  rintro e w5 ⟨cd, ed, rfl, hD, h5⟩
  have hF5 := hF4.joinR h5
  simp only [List.cons_append] at hF5
  have hdl := box hD.len
  have hdo := box hD.ones
  replace hD := box hD
  clear hrd h5
  go_wp2_with (first | ((with_reducible refine lst (by with_unfolding_all rfl) (wp_fstA1 hF5 (by with_unfolding_all exact ⟨_, _, rfl, rfl, rfl⟩) (by rw [hdl.out]; kernel_rfl) hdo.out (by rw [hdl.out, doc0_len]; decide) (spl_all (by rw [hdl.out, doc0_len])) ?_)); intro w6 hF6 hz6))
  exact bodyPost_ret (results_cellF2 rfl _ hF6 (i := 1) rfl rfl Tryz.underlying40 rfl (by rw [hdl.out]; kernel_rfl)) rfl (by
   unfold MPs
   rw [hJ.out]
   exact ⟨_, _, rfl, hD.out.mono (fun _ h => by simp [h]), hF6⟩)
end Go.Proofs.YtlhicfpmlncomaaGreatDoor

namespace Go.Proofs.YtlhicfpmlncomaaGreatDoor
open Go.RowKit
set_option linter.unusedSimpArgs false
set_option linter.unusedVariables false
def awkB : List UInt8 := [123, 34, 115, 99, 104, 101, 109, 97, 86, 101, 114, 115, 105, 111, 110, 34, 58, 50, 44, 34, 109, 101, 100, 105, 97, 84, 121, 112, 101, 34, 58, 34, 97, 112, 112, 108, 105, 99, 97, 116, 105, 111, 110, 47, 118, 110, 100, 46, 111, 99, 105, 46, 105, 109, 97, 103, 101, 46, 105, 110, 100, 101, 120, 46, 118, 49, 43, 106, 115, 111, 110, 34, 44, 34, 109, 97, 110, 105, 102, 101, 115, 116, 115, 34, 58, 91, 93, 125]
theorem mawk1 : mParse awkB = .ok ⟨[97, 112, 112, 108, 105, 99, 97, 116, 105, 111, 110, 47, 118, 110, 100, 46, 111, 99, 105, 46, 105, 109, 97, 103, 101, 46, 105, 110, 100, 101, 120, 46, 118, 49, 43, 106, 115, 111, 110], [], .zero, [], .zero, false, []⟩ := by kernel_rfl
theorem mawk2 : mParse [91, 93] = .error 80 := by kernel_rfl
set_option maxRecDepth 20000 in
set_option maxHeartbeats 6400000 in
theorem mawake_any (w : World) (B : Nat) (hB : B ≤ w.heap.size) (hL : MLibs B w) :
  Calls Tryz.prog 13 #[] w fun e w' => e = .returned (.bool true) ∧ Below w.heap.size w w' := by
 have hF0 := Fr.nil w
 have hL1 := hL.up hB
 go_enter Tryz.func13, Tryz.ntmps13
 go_wp2_with (first | ((with_reducible refine lst (by with_unfolding_all rfl) (wp_fbsl T_u8 hF0 (vs := [bv 123, bv 34, bv 115, bv 99, bv 104, bv 101, bv 109, bv 97, bv 86, bv 101, bv 114, bv 115, bv 105, bv 111, bv 110, bv 34, bv 58, bv 50, bv 44, bv 34, bv 109, bv 101, bv 100, bv 105, bv 97, bv 84, bv 121, bv 112, bv 101, bv 34, bv 58, bv 34, bv 97, bv 112, bv 112, bv 108, bv 105, bv 99, bv 97, bv 116, bv 105, bv 111, bv 110, bv 47, bv 118, bv 110, bv 100, bv 46, bv 111, bv 99, bv 105, bv 46, bv 105, bv 109, bv 97, bv 103, bv 101, bv 46, bv 105, bv 110, bv 100, bv 101, bv 120, bv 46, bv 118, bv 49, bv 43, bv 106, bv 115, bv 111, bv 110, bv 34, bv 44, bv 34, bv 109, bv 97, bv 110, bv 105, bv 102, bv 101, bv 115, bv 116, bv 115, bv 34, bv 58, bv 91, bv 93, bv 125]) (by with_unfolding_all rfl) (by with_unfolding_all rfl) (by with_unfolding_all rfl) (by decide) (by simp [bv, Value.cells]) ?_)); intro w1 g1 hF1 hz1; have hr1 : Rd w1 (· < w1.heap.size) (some ⟨g1, 0, none⟩) 1 88 (([123,34,115,99,104,101,109,97,86,101,114,115,105,111,110,34,58,50,44,34,109,101,100,105,97,84,121,112,101,34,58,34,97,112,112,108,105,99,97,116,105,111,110,47,118,110,100,46,111,99,105,46,105,109,97,103,101,46,105,110,100,101,120,46,118,49,43,106,115,111,110,34,44,34,109,97,110,105,102,101,115,116,115,34,58,91,93,125] : List UInt8).map bv) := hF1.rdOwn (i := 0) rfl) | ((with_reducible refine lst (by with_unfolding_all rfl) (wp_fmark T_u8 Tryz.underlying5 hF1 (by with_unfolding_all exact ⟨_, rfl, rfl⟩) ?_)); intro w2 hF2 hz2))
 have hp := mparse_any (some ⟨g1, 0, none⟩) 88 88 awkB w2 ((hL1.on hF2.below).up hF2.below.size) (Nat.le_refl _) (by decide) (hF2.rd (i := 0) rfl)
 rw [mawk1] at hp
 replace hp := box hp
 refine hp.out.mono ?_
 rintro e w3 ⟨cs, es, rfl, hD, h3⟩
 have hF3 := hF2.joinR h3
 simp only [List.cons_append, List.nil_append] at hF3
 obtain ⟨cf, eg, sj, nt, hC, ⟨A, n, c, xs, hnc, hn0, rfl, _, _⟩, hS, hN, rfl⟩ := hD
 simp only [mDc, List.length_nil] at hn0
 subst hn0
 have hcl := box hC.len
 have hsl := box hS.len
 have hco := box hC.ones
 have hso := box hS.ones
 have hno := hN.one
 simp only [mDc]
 clear hp h3 hC hS hN hF1 hF2
 have hdl := box (docL_len (m := [97, 112, 112, 108, 105, 99, 97, 116, 105, 111, 110, 47, 118, 110, 100, 46, 111, 99, 105, 46, 105, 109, 97, 103, 101, 46, 105, 110, 100, 101, 120, 46, 118, 49, 43, 106, 115, 111, 110]) (t := []) (eg := .slice A 0 c) (has := false) (nt := nt) hcl.out hsl.out)
 have hdo := box (docL_one (m := [97, 112, 112, 108, 105, 99, 97, 116, 105, 111, 110, 47, 118, 110, 100, 46, 111, 99, 105, 46, 105, 109, 97, 103, 101, 46, 105, 110, 100, 101, 120, 46, 118, 49, 43, 106, 115, 111, 110]) (t := []) (has := false) hco.out hso.out (rfl : (Value.slice A 0 c).oneCell' = true) hno)
 replace hno := box hno
 go_wp2_with (first | ((with_reducible refine lst (by with_unfolding_all rfl) (wp_falloc hF3 (cs := doc0) (z := .agg (List.toArray (doc0))) rfl (by kernel_rfl) (by with_unfolding_all rfl) ?_)); intro w4 g4 hF4 hz4) | ((with_reducible refine lst (by with_unfolding_all rfl) (wp_fstA0 hF4 (by with_unfolding_all exact ⟨_, _, rfl, rfl, rfl⟩) (by rw [hdl.out]; kernel_rfl) hdo.out (by rw [hdl.out, doc0_len]; decide) (spl_all (by rw [hdl.out, doc0_len])) ?_)); intro w5 hF5 hz5) | ((with_reducible refine lst (by with_unfolding_all rfl) (wp_fbsl T_u8 hF5 (vs := [bv 91, bv 93]) (by with_unfolding_all rfl) (by with_unfolding_all rfl) (by with_unfolding_all rfl) (by decide) (by simp [bv, Value.cells]) ?_)); intro w6 g6 hF6 hz6; have hr6 : Rd w6 (· < w6.heap.size) (some ⟨g6, 0, none⟩) 1 2 (([91,93] : List UInt8).map bv) := hF6.rdOwn (i := 0) rfl) | ((with_reducible refine lst (by with_unfolding_all rfl) (wp_fmark T_u8 Tryz.underlying5 hF6 (by with_unfolding_all exact ⟨_, rfl, rfl⟩) ?_)); intro w7 hF7 hz7))
 have hp := mparse_any (some ⟨g6, 0, none⟩) 2 2 [91, 93] w7 ((hL1.on hF7.below).up hF7.below.size) (Nat.le_refl _) (by decide) (hF7.rd (i := 0) rfl)
 rw [mawk2] at hp
 replace hp := box hp
 refine hp.out.mono ?_
 rintro e w8 ⟨cs8, es8, rfl, hD8, h8⟩
 have hF8 := hF7.joinR h8
 simp only [List.cons_append, List.nil_append] at hF8
 have hl8 := box hD8.len
 have ho8 := box hD8.ones
 simp only [mCode]
 clear hp h8 hD8 hF3 hF4 hF5 hF6 hF7
 go_wp2_with (first | ((with_reducible refine lst (by with_unfolding_all rfl) (wp_falloc hF8 (cs := doc0) (z := .agg (List.toArray (doc0))) rfl (by kernel_rfl) (by with_unfolding_all rfl) ?_)); intro w9 g9 hF9 hz9) | ((with_reducible refine lst (by with_unfolding_all rfl) (wp_fstA0 hF9 (by with_unfolding_all exact ⟨_, _, rfl, rfl, rfl⟩) (by rw [hl8.out]; kernel_rfl) ho8.out (by rw [hl8.out, doc0_len]; decide) (spl_all (by rw [hl8.out, doc0_len])) ?_)); intro w10 hF10 hz10) | (with_reducible refine lst (by with_unfolding_all rfl) (wp_fld2 hF10 Tryz.underlying9 rfl (by with_unfolding_all exact ⟨_, rfl, rfl⟩) docL_m0 ?_)) | (with_reducible refine lst (by with_unfolding_all rfl) (wp_fld2 hF10 Tryz.underlying29 rfl (by with_unfolding_all exact ⟨_, rfl, rfl⟩) (docL_eg hcl.out) ?_)))
 go_ret
 exact ⟨rfl, hF10.below⟩
end Go.Proofs.YtlhicfpmlncomaaGreatDoor

namespace Go.Proofs.YtlhicfpmlncomaaGreatDoor
open Go.RowKit
set_option linter.unusedSimpArgs false
set_option linter.unusedVariables false
theorem T_rnotes : SlT Tryz.prog 35 149 2 32 (.agg #[.string ⟨#[]⟩, .string ⟨#[]⟩]) := ⟨Tryz.underlying35, by kernel_rfl, rfl, by decide⟩
theorem T_rdescs : SlT Tryz.prog 38 37 35 80 (.agg ds0.toArray) := ⟨Tryz.underlying38, by kernel_rfl, by kernel_rfl, by decide⟩
theorem ds_fill {m dig : List UInt8} {z : Int} {A : Option Addr} {n c : Nat} (hd : dig.length = 32) : Instr.fill (fun i : Nat => dsP[i]?) ds0.toArray [(0, .string ⟨m.toArray⟩), (1, .agg (dig.map bv).toArray), (2, .int .i64 z), (3, .slice A n c)] = some (dsL m dig z (.slice A n c)).toArray := by
 have hz : zeros.length = 32 := by decide
 unfold ds0
 rw [fill_step (off := 0) (size := 1) rfl rfl (by rw [dsL_len hz]; omega), show (Value.string ⟨m.toArray⟩).cells.toList = [.string ⟨m.toArray⟩] from rfl, dsL_0s,
  fill_step (off := 1) (size := 32) rfl (by simpa [Value.cells] using hd) (by rw [dsL_len hz]; omega), show (Value.agg (dig.map bv).toArray).cells.toList = dig.map bv from rfl, dsL_1 (by rw [hz, hd]),
  fill_step (off := 33) (size := 1) rfl rfl (by rw [dsL_len hd]; omega), show (Value.int .i64 z).cells.toList = [.int .i64 z] from rfl, dsL_33 hd,
  fill_step (off := 34) (size := 1) rfl rfl (by rw [dsL_len hd]; omega), show (Value.slice A n c).cells.toList = [.slice A n c] from rfl, dsL_34 hd]
 rfl
set_option maxRecDepth 20000 in
set_option maxHeartbeats 3200000 in
theorem backNotes_any (A : Option Addr) (n c : Nat) (l : List MNote) (w : World) (hn : n = l.length) (hbd : n ≤ 1048576) (hr : Rd w (· < w.heap.size) A 2 n (ntsL l)) :
  Calls Tryz.prog 37 #[.slice A n c] w fun e w' => ∃ nt es, e = .returned nt ∧ VN l nt es ∧ Fr [] w w' es := by
 have hF0 := Fr.nil w
 replace hn := box hn
 go_enter Tryz.func37, Tryz.ntmps37
 go_wp2_with fail
 have hF1 := hF0.none_ w.heap.size 149 2
 go_loopg [3, 8] n (fun g ov iv wr => ∃ (i : Nat) (B : Option Addr) (d : Nat), i ≤ n ∧ Box (g = n - i) ∧ iv = .int .i64 (i : Int) ∧ ov = .slice B i d ∧ i ≤ d ∧ Fr [] w wr [.own w.heap.size 149 2 (.slice B i d) i (ntsL (l.take i))])
 case atStart => exact ⟨0, none, 0, by omega, box rfl, rfl, rfl, by omega, hF1⟩
 case round =>
  clear hF0 hF1
  obtain ⟨i, B, d, hi, hgi, rfl, rfl, hid, hF⟩ := hrel
  have hkk : Box (_ = n - i) := hgi
  clear hgi
  have hr' := hr.below hF.below
  by_cases hlt : i < n
  ·obtain ⟨x, hx⟩ : ∃ x, l[i]? = some x := ⟨l[i]'(by rw [← hn.out]; exact hlt), by simp⟩
   have hxc := box (ntsL_at hx)
   have hsn : Box (ntsL (l.take (i + 1)) = ntsL (l.take i) ++ ntL x) := box (by rw [List.take_add_one, hx, ← ntsL_snoc]; rfl)
   clear hx
   go_wp2_with (first | (with_reducible refine lst (by with_unfolding_all rfl) (wp_indexAddr T_notes hr' (by with_unfolding_all exact ⟨_, _, _, _, rfl, rfl, rfl⟩) (by omega) (by omega) ?_)) | (with_reducible refine lst (by with_unfolding_all rfl) (wp_loadA hr' Tryz.underlying70 rfl (by with_unfolding_all exact ⟨_, rfl, rfl⟩) (ds := (ntL x)) (by kernel_rfl) (by with_unfolding_all exact hxc.out) ?_)) | ((with_reducible refine lst (by with_unfolding_all rfl) (wp_falloc hF (cs := nt0) (z := .agg (List.toArray (nt0))) rfl (by kernel_rfl) (by with_unfolding_all rfl) ?_)); intro w2 g2 hF2 hz2) | ((with_reducible refine lst (by with_unfolding_all rfl) (wp_fstA0 hF2 (by with_unfolding_all exact ⟨_, _, rfl, rfl, rfl⟩) (by kernel_rfl) (ntL_one _) (Nat.le_refl 2) (spl_all rfl) ?_)); intro w3 hF3 hz3) | (with_reducible refine lst (by with_unfolding_all rfl) (wp_fld0 hF3 Tryz.underlying9 rfl (by with_unfolding_all exact ⟨_, rfl, rfl⟩) rfl ?_)) | (with_reducible refine lst (by with_unfolding_all rfl) (wp_fbuild Tryz.underlying149 (z := .agg (List.toArray nt0)) (by kernel_rfl) (pl := ntP) (by kernel_rfl) (cs := (ntL x)) rfl (vs := [(0, strv x.key), (1, strv x.val)]) (by with_unfolding_all rfl) (by with_unfolding_all rfl) ?_)) | ((with_reducible refine lst (by with_unfolding_all rfl) (wp_fbs1 T_rnotes hF3 (by with_unfolding_all rfl) (ds := (ntL x)) (by with_unfolding_all rfl) (ntL_len _) (by decide) ?_)); intro w4 g4 hF4 hz4) | ((with_reducible refine lst (by with_unfolding_all rfl) (wp_fappG T_rnotes hF4 (i := 2) rfl (Nat.le_refl _) (hF4.rdOwn (i := 0) rfl) (ntL_one _) (by with_unfolding_all exact ⟨_, _, rfl, rfl, rfl⟩) (by unfold maxLen; omega) (by omega) ?_)); intro v5 w5 hF5 hz5; simp only [List.set_cons_zero, List.set_cons_succ] at hF5; obtain ⟨A5, c5, rfl, hc5⟩ := hF5.ownParts (i := 2) rfl))
   go_roundg (n - (i + 1))
   case rel => exact ⟨i + 1, A5, c5, by omega, box rfl, by go_num, rfl, hc5, by rw [hsn.out]; exact hF5.tail.tail⟩
   case measure => have := hkk.out; omega
  ·obtain rfl : n = i := by omega
   have hta : Box (l.take n = l) := box (List.take_of_length_le (by rw [hn.out]; exact Nat.le_refl _))
   rw [hta.out] at hF
   go_wp2_with fail
   go_ret
   have hF3 := hF.toRd (i := 0) rfl
   exact ⟨_, _, rfl, ⟨B, n, d, hid, hn.out, rfl, .inr (by simp)⟩, hF3⟩
end Go.Proofs.YtlhicfpmlncomaaGreatDoor
