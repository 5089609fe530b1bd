/-
 Layer 8: the document's text and put, walked: a member more, in the caller's frame.
 Layer 8, plain law: what is read is small.
 Layer 6: the walk of the program's Write.
 Layer 6, plain words: how many values a value has; which values are right, as the document counts it. No program is named here.
 Layer 6, plain law: texts that are read are texts. No program is named here.
 Layer 6, plain law: what is read is right, bare, and not too long when it is written. No program is named here.
 Layer 6, plain law: a text that is written is read as that text. No program is named here.
 Layer 6, plain law: a value that is written is read as that value. No program is named here.
 Layer 6, plain law: lists and objects that are written are read as themselves. No program is named here.
 Layer 6, plain law: what is written of a bare value that is right is read as that value. No program is named here.
 Layer 6, plain law: a value that is right is no deeper than it may be. No program is named here.
 Layer 6, plain words: a value without what isn't written. No program is named here.
-/
import Derived.Test.YtlhicfpmlncomaaGreatDoorE10
import Derived.Test.YtlhicfpmlncomaaGreatDoorE02
import Derived.Test.YtlhicfpmlncomaaGreatDoorE11
import Derived.Test.YtlhicfpmlncomaaGreatDoorE13
import Derived.Test.YtlhicfpmlncomaaGreatDoorE09
import Derived.Test.YtlhicfpmlncomaaGreatDoorE08
import Derived.Lib.ValidLaws
namespace Go.Proofs.YtlhicfpmlncomaaGreatDoor
open Go.RowKit
set_option linter.unusedSimpArgs false
set_option linter.unusedVariables false
theorem vlL_0k {k k' n : Int} {t : ByteArray} {a b : Value} : spl (vlL k n t a b) 0 [.int .i64 k'] = vlL k' n t a b := rfl
set_option maxRecDepth 20000 in
set_option maxHeartbeats 3200000 in
theorem rtext_any (s : List UInt8) (w : World) :
  Calls Tryz.prog 50 #[.string ⟨s.toArray⟩] w fun e w' => e = .returned (.agg (vlL 4 0 ⟨s.toArray⟩ (.slice none 0 0) (.slice none 0 0)).toArray) ∧ Below w.heap.size w w' := by
 have hF0 := Fr.nil w
 go_enter Tryz.func50, Tryz.ntmps50
 go_wp2_with (first | ((with_reducible refine lst (by with_unfolding_all rfl) (wp_falloc hF0 (cs := vl0) (z := .agg (List.toArray (vl0))) rfl (by kernel_rfl) (by with_unfolding_all rfl) ?_)); intro w1 g1 hF1 hz1) | (with_reducible refine lst (by with_unfolding_all rfl) (wp_fbuild Tryz.underlying51 (z := .agg (List.toArray vl0)) (by kernel_rfl) (pl := vlP) (by kernel_rfl) (cs := (vlL 4 0 ⟨s.toArray⟩ (.slice none 0 0) (.slice none 0 0))) rfl (vs := [(0, .int .i64 4), (2, .string ⟨s.toArray⟩)]) (by with_unfolding_all rfl) (by with_unfolding_all rfl) ?_)) | ((with_reducible refine lst (by with_unfolding_all rfl) (wp_fstA0 hF1 (by with_unfolding_all exact ⟨_, _, rfl, rfl, rfl⟩) (by rw [vlL_len]; kernel_rfl) vlL_one vlL_fit vlL_spl ?_)); intro w2 hF2 hz2))
 exact bodyPost_ret (results_cellF rfl _ hF2 (i := 0) rfl rfl Tryz.underlying51 rfl (by rw [vlL_len]; kernel_rfl)) rfl ⟨rfl, hF2.below⟩
set_option maxRecDepth 20000 in
set_option maxHeartbeats 6400000 in
theorem rput_any {X : List Nat} {w0 w : World} {es : List Ent} {k num : Int} {t : ByteArray} {An Ak : Option Addr} {nn cn nk ck : Nat} {ns : List (List UInt8)} {xs : List Value} (s : List UInt8) (cs : List Value)
  (hF : Fr X w0 w (.own w0.heap.size 9 1 (.slice An nn cn) nn (ns.map strv) :: .own w0.heap.size 51 5 (.slice Ak nk ck) nk xs :: es)) (hnn : nn ≤ 1000000) (hnk : nk ≤ 1000000) (hcl : cs.length = 5) (hco : ∀ u ∈ cs, u.oneCell' = true) :
  Calls Tryz.prog 49 #[.agg (vlL k num t (.slice An nn cn) (.slice Ak nk ck)).toArray, .string ⟨s.toArray⟩, .agg cs.toArray] w fun e w' => ∃ A1 c1 A2 c2, nn + 1 ≤ c1 ∧ nk + 1 ≤ c2 ∧ e = .returned (.agg (vlL 6 num t (.slice A1 (nn + 1) c1) (.slice A2 (nk + 1) c2)).toArray) ∧
   Fr X w0 w' (.own w0.heap.size 9 1 (.slice A1 (nn + 1) c1) (nn + 1) ((ns ++ [s]).map strv) :: .own w0.heap.size 51 5 (.slice A2 (nk + 1) c2) (nk + 1) (xs ++ cs) :: es) := by
 replace hcl := box hcl
 replace hco := box hco
 go_enter Tryz.func49, Tryz.ntmps49
 go_wp2_with (first | ((with_reducible refine lst (by with_unfolding_all rfl) (wp_fbox hF (cs := (vlL k num t (.slice An nn cn) (.slice Ak nk ck))) rfl (by with_unfolding_all rfl) (by with_unfolding_all rfl) ?_)); intro w1 g1 hF1 hz1) | ((with_reducible refine lst (by with_unfolding_all rfl) (wp_fbox hF1 (cs := cs) rfl (by with_unfolding_all rfl) (by with_unfolding_all rfl) ?_)); intro w2 g2 hF2 hz2) | ((with_reducible refine lst (by with_unfolding_all rfl) (wp_falloc hF2 (cs := vl0) (z := .agg (List.toArray (vl0))) rfl (by kernel_rfl) (by with_unfolding_all rfl) ?_)); intro w3 g3 hF3 hz3) | ((with_reducible refine lst (by with_unfolding_all rfl) (wp_fst2 hF3 (by with_unfolding_all exact ⟨_, _, rfl, rfl, rfl⟩) (by kernel_rfl) rfl rfl (by rw [vlL_len]; decide) vlL_0k ?_)); intro w4 hF4 hz4) | (with_reducible refine lst (by with_unfolding_all rfl) (wp_fld2 hF4 Tryz.underlying48 rfl (by with_unfolding_all exact ⟨_, rfl, rfl⟩) rfl ?_)) | ((with_reducible refine lst (by with_unfolding_all rfl) (wp_fbsl T_strs hF4 (vs := [.string ⟨s.toArray⟩]) (by with_unfolding_all rfl) (by with_unfolding_all rfl) (by with_unfolding_all rfl) (by decide) (by simp [Value.cells]) ?_)); intro w5 g5 hF5 hz5) | ((with_reducible refine lst (by with_unfolding_all rfl) (wp_fappG T_strs hF5 (i := 4) rfl (Nat.le_refl _) hF5.rdOwn0 (strs_one1 _) (by with_unfolding_all exact ⟨_, _, rfl, rfl, rfl⟩) (by unfold maxLen; omega) (by omega) ?_)); intro v6 w6 hF6 hz6; simp only [List.set_cons_zero, List.set_cons_succ] at hF6; obtain ⟨A6, c6, rfl, hc6⟩ := hF6.ownParts (i := 4) rfl) | ((with_reducible refine lst (by with_unfolding_all rfl) (wp_fst3 hF6 (by with_unfolding_all exact ⟨_, _, rfl, rfl, rfl⟩) (by kernel_rfl) rfl rfl (by rw [vlL_len]; decide) vlL_3 ?_)); intro w7 hF7 hz7) | (with_reducible refine lst (by with_unfolding_all rfl) (wp_fld3 hF7 Tryz.underlying49 rfl (by with_unfolding_all exact ⟨_, rfl, rfl⟩) rfl ?_)) | (with_reducible refine lst (by with_unfolding_all rfl) (wp_fldA2 hF7 Tryz.underlying51 rfl (by with_unfolding_all exact ⟨_, rfl, rfl⟩) (ds := cs) (by rw [hcl.out]; kernel_rfl) (take_all _) ?_)) | ((with_reducible refine lst (by with_unfolding_all rfl) (wp_fbs1 T_rvals hF7 (by with_unfolding_all rfl) (ds := cs) (by with_unfolding_all rfl) hcl.out (by decide) ?_)); intro w8 g8 hF8 hz8) | ((with_reducible refine lst (by with_unfolding_all rfl) (wp_fappG T_rvals hF8 (i := 6) rfl (Nat.le_refl _) hF8.rdOwn0 hco.out (by with_unfolding_all exact ⟨_, _, rfl, rfl, rfl⟩) (by unfold maxLen; omega) (by omega) ?_)); intro v9 w9 hF9 hz9; simp only [List.set_cons_zero, List.set_cons_succ] at hF9; obtain ⟨A9, c9, rfl, hc9⟩ := hF9.ownParts (i := 6) rfl) | ((with_reducible refine lst (by with_unfolding_all rfl) (wp_fst4 hF9 (by with_unfolding_all exact ⟨_, _, rfl, rfl, rfl⟩) (by kernel_rfl) rfl rfl (by rw [vlL_len]; decide) vlL_4 ?_)); intro w10 hF10 hz10) | (with_reducible refine lst (by with_unfolding_all rfl) (wp_fldA4 hF10 Tryz.underlying51 rfl (by with_unfolding_all exact ⟨_, rfl, rfl⟩) (ds := (vlL 6 num t (.slice A6 (nn + 1) c6) (.slice A9 (nk + 1) c9))) (by rw [vlL_len]; kernel_rfl) (take_all _) ?_)) | ((with_reducible refine lst (by with_unfolding_all rfl) (wp_fstA2 hF10 (by with_unfolding_all exact ⟨_, _, rfl, rfl, rfl⟩) (by rw [vlL_len]; kernel_rfl) vlL_one vlL_fit vlL_spl ?_)); intro w11 hF11 hz11))
 exact bodyPost_ret (results_cellF rfl _ hF11 (i := 2) rfl rfl Tryz.underlying51 rfl (by rw [vlL_len]; kernel_rfl)) rfl ⟨A6, c6, A9, c9, hc6, hc9, rfl, by
  rw [List.map_append]
  exact hF11.tail.tail.tail.tail.tail⟩
end Go.Proofs.YtlhicfpmlncomaaGreatDoor

namespace Go.Proofs.YtlhicfpmlncomaaGreatDoor
set_option linter.unusedSimpArgs false
set_option linter.unusedVariables false
/-- A document is small. -/
def MBs (d : MDoc) : Prop := d.config.notes.length ≤ 32 ∧ d.edges.length ≤ 64 ∧ (∀ x ∈ d.edges, x.notes.length ≤ 32) ∧ d.subject.notes.length ≤ 32 ∧ d.notes.length ≤ 32
theorem MBs.zero : MBs .zero := ⟨by simp [MDoc.zero, MDesc.zero], by simp [MDoc.zero], by simp [MDoc.zero], by simp [MDoc.zero, MDesc.zero], by simp [MDoc.zero]⟩
end Go.Proofs.YtlhicfpmlncomaaGreatDoor

namespace Go.Proofs.YtlhicfpmlncomaaGreatDoor
open Go.RowKit
set_option linter.unusedSimpArgs false
/-- What Write tells: the text of a value that is right, if it is not too long. -/
def jWrite (v : JV) : List UInt8 × Nat :=
 match jRight 16 v 0 with
 | none => ([], 1)
 | some _ => if 65536 < (jFull v).length then ([], 8) else (jFull v, 0)
end Go.Proofs.YtlhicfpmlncomaaGreatDoor

namespace Go.Proofs.YtlhicfpmlncomaaGreatDoor
open Go.Lib
set_option linter.unusedSimpArgs false
mutual
/-- How many values a value has in all. -/
def jTot : JV → Nat
 | .mk k _ _ _ ks => if 5 ≤ k then 1 + jTotL ks else 1
def jTotL : List JV → Nat
 | [] => 0
 | v :: vs => jTot v + jTotL vs
end
mutual
/-- .. as far as so many and one more. -/
def jCnt : JV → Nat → Nat
 | .mk k _ _ _ ks, most => if 5 ≤ k then jCntL ks most 1 else 1
def jCntL : List JV → Nat → Nat → Nat
 | [], _, n => n
 | v :: vs, most, n => if n ≤ most then jCntL vs most (n + jCnt v (most - n)) else n
end
mutual
theorem jCnt_tot : ∀ (v : JV) (most : Nat), (jTot v ≤ most → jCnt v most = jTot v) ∧ (most < jTot v → 0 < most → most < jCnt v most) ∧ jCnt v most ≤ jTot v ∧ 1 ≤ jCnt v most
 | .mk k n t ns ks, most => by
  rw [jTot, jCnt]
  by_cases hk : 5 ≤ k
  ·rw [if_pos hk, if_pos hk]
   have := jCntL_tot ks most 1
   exact ⟨fun h => this.1 (by omega), fun h _ => this.2.1 h, this.2.2.1, by have := this.2.2.2; omega⟩
  ·rw [if_neg hk, if_neg hk]
   exact ⟨fun _ => rfl, fun h h0 => by omega, Nat.le_refl _, Nat.le_refl _⟩
theorem jCntL_tot : ∀ (ks : List JV) (most n : Nat), (n + jTotL ks ≤ most → jCntL ks most n = n + jTotL ks) ∧ (most < n + jTotL ks → most < jCntL ks most n) ∧ jCntL ks most n ≤ n + jTotL ks ∧ n ≤ jCntL ks most n
 | [], most, n => by rw [jTotL, jCntL]; exact ⟨fun _ => rfl, fun h => h, Nat.le_refl _, Nat.le_refl _⟩
 | v :: vs, most, n => by
  rw [jTotL, jCntL]
  by_cases hn : n ≤ most
  ·rw [if_pos hn]
   obtain ⟨h1, h2, h3, h4⟩ := jCnt_tot v (most - n)
   obtain ⟨g1, g2, g3, g4⟩ := jCntL_tot vs most (n + jCnt v (most - n))
   refine ⟨fun h => ?_, fun h => ?_, by omega, by omega⟩
   ·have := h1 (by omega)
    have := g1 (by omega)
    omega
   ·by_cases hv : jTot v ≤ most - n
    ·have := h1 hv
     exact g2 (by omega)
    ·by_cases h0 : 0 < most - n
     ·have := h2 (by omega) h0
      omega
     ·omega
  ·rw [if_neg hn]
   exact ⟨fun h => by omega, fun _ => by omega, by omega, Nat.le_refl _⟩
end
theorem jCnt_most {v : JV} {most : Nat} (h0 : 0 < most) : most < jCnt v most ↔ most < jTot v := by
 obtain ⟨h1, h2, h3, _⟩ := jCnt_tot v most
 exact ⟨fun h => by omega, fun h => h2 h h0⟩
mutual
theorem jTot_w : ∀ (v : JV), jTot v ≤ jW v
 | .mk k n t ns ks => by
  have := jTotL_w ks
  rw [jTot, jW]
  split <;> omega
theorem jTotL_w : ∀ (ks : List JV), jTotL ks ≤ jWL ks
 | [] => Nat.le_refl _
 | v :: vs => by
  have h1 := jTot_w v
  have h2 := jTotL_w vs
  rw [jTotL, jWL]
  omega
end
theorem jTotL_drop {ks : List JV} {i : Nat} {v : JV} (hv : ks[i]? = some v) : jTotL (ks.drop i) = jTot v + jTotL (ks.drop (i + 1)) := by
 rw [List.drop_eq_getElem_cons (List.getElem?_eq_some_iff.1 hv).1, (List.getElem?_eq_some_iff.1 hv).2, jTotL]
theorem jCntL_drop {ks : List JV} {i most n : Nat} {v : JV} (hv : ks[i]? = some v) : jCntL (ks.drop i) most n = if n ≤ most then jCntL (ks.drop (i + 1)) most (n + jCnt v (most - n)) else n := by
 rw [List.drop_eq_getElem_cons (List.getElem?_eq_some_iff.1 hv).1, (List.getElem?_eq_some_iff.1 hv).2, jCntL]
/-- What no value is right with. -/
def jBadD (k n : Int) (t : List UInt8) : Prop := k < 0 ∨ 6 < k ∨ 9007199254740991 < n ∨ n < -9007199254740991 ∨ validD t = false
instance (k n : Int) (t : List UInt8) : Decidable (jBadD k n t) := by unfold jBadD; exact inferInstance
def jDRL (f : JV → Bool) (obj : Bool) : List (List UInt8) → List (List UInt8) → List JV → Bool
 | _, _, [] => true
 | seen, ns, v :: vs => f v && (!(obj && decide (ns.headD [] ∈ seen)) && (!(obj && !validD (ns.headD [])) && jDRL f obj (seen ++ [ns.headD []]) ns.tail vs))
/-- Is a value right, where so many lists and objects may still be nested, whatever number of values it has? -/
def jDR : Nat → JV → Bool
 | 0, .mk k n t _ _ => decide (¬ jBadD k n t) && decide (k < 5)
 | d + 1, .mk k n t ns ks => decide (¬ jBadD k n t) && (decide (k < 5) || (!decide (k = 6 ∧ ns.length ≠ ks.length) && jDRL (jDR d) (k == 6) [] ns ks))
theorem jBad_iff {k n : Int} {t : List UInt8} {m : Nat} : jBad k n t m ↔ 4096 < m + 1 ∨ jBadD k n t := by
 unfold jBad jBadD
 constructor
 ·rintro (h | h | h | h | h | h) <;> simp [h]
 ·rintro (h | h | h | h | h | h) <;> simp [h]
theorem jTot_pos (v : JV) : 1 ≤ jTot v := by cases v; rw [jTot]; split <;> omega
theorem jRightL_doc {f : JV → Nat → Option Nat} {g : JV → Bool} (hf : ∀ v m, f v m = if g v = true ∧ m + jTot v ≤ 4096 then some (m + jTot v) else none) {obj : Bool} : ∀ (ks : List JV) (seen ns : List (List UInt8)) (m : Nat),
  m ≤ 4096 → jRightL f obj seen ns ks m = if jDRL g obj seen ns ks = true ∧ m + jTotL ks ≤ 4096 then some (m + jTotL ks) else none
 | [], seen, ns, m, hm => by rw [jRightL, jDRL, jTotL, if_pos ⟨rfl, hm⟩]; rfl
 | v :: vs, seen, ns, m, hm => by
  rw [jRightL, jDRL, jTotL]
  by_cases hn : obj = true ∧ (validD (ns.headD []) = false ∨ ns.headD [] ∈ seen)
  ·rw [if_pos hn, if_neg]
   rintro ⟨h, _⟩
   simp only [Bool.and_eq_true, Bool.not_eq_true', Bool.and_eq_false_iff, decide_eq_false_iff_not, Bool.not_eq_false'] at h
   obtain ⟨_, h1, h2, _⟩ := h
   rcases hn.2 with h3 | h3
   ·rcases h2 with h2 | h2
    ·rw [hn.1] at h2; cases h2
    ·rw [h3] at h2; cases h2
   ·rcases h1 with h1 | h1
    ·rw [hn.1] at h1; cases h1
    ·exact h1 h3
  ·rw [if_neg hn, hf]
   have h1 : (!(obj && decide (ns.headD [] ∈ seen))) = true := by
    cases obj with
    | false => rfl
    | true => simp only [Bool.true_and, Bool.not_eq_true', decide_eq_false_iff_not]; exact fun h => hn ⟨rfl, .inr h⟩
   have h2 : (!(obj && !validD (ns.headD []))) = true := by
    cases obj with
    | false => rfl
    | true => simp only [Bool.true_and, Bool.not_not]; cases hv : validD (ns.headD []); exact absurd ⟨rfl, .inl hv⟩ hn; rfl
   rw [h1, h2]
   simp only [Bool.true_and]
   by_cases hg : g v = true ∧ m + jTot v ≤ 4096
   ·rw [if_pos hg]
    simp only []
    rw [jRightL_doc hf vs _ _ _ hg.2, hg.1]
    simp only [Bool.true_and, Nat.add_assoc]
   ·rw [if_neg hg, if_neg]
    rintro ⟨h3, h4⟩
    rw [Bool.and_eq_true] at h3
    exact hg ⟨h3.1, by omega⟩
/-- The program's count and the document's agree. -/
theorem jRight_doc : ∀ (d : Nat) (v : JV) (m : Nat), jRight d v m = if jDR d v = true ∧ m + jTot v ≤ 4096 then some (m + jTot v) else none
 | 0, .mk k n t ns ks, m => by
  rw [jRight, jDR, jTot]
  by_cases hb : jBad k n t m
  ·rw [if_pos hb, if_neg]
   rintro ⟨h, h2⟩
   rw [Bool.and_eq_true, decide_eq_true_eq, decide_eq_true_eq] at h
   rcases jBad_iff.1 hb with h1 | h1
   ·split at h2 <;> omega
   ·exact h.1 h1
  ·rw [if_neg hb]
   have hb2 : ¬ jBadD k n t := fun h => hb (jBad_iff.2 (.inr h))
   have hm : ¬ 4096 < m + 1 := fun h => hb (jBad_iff.2 (.inl h))
   by_cases hk : k < 5
   ·rw [if_pos hk, if_neg (show ¬ 5 ≤ k by omega), if_pos ⟨by simp [hb2, hk], by omega⟩]
   ·rw [if_neg hk, if_neg (by simp [hk])]
 | d + 1, .mk k n t ns ks, m => by
  rw [jRight, jDR, jTot]
  by_cases hb : jBad k n t m
  ·rw [if_pos hb, if_neg]
   rintro ⟨h, h2⟩
   rw [Bool.and_eq_true, decide_eq_true_eq] at h
   rcases jBad_iff.1 hb with h1 | h1
   ·split at h2 <;> omega
   ·exact h.1 h1
  ·rw [if_neg hb]
   have hb2 : ¬ jBadD k n t := fun h => hb (jBad_iff.2 (.inr h))
   have hm : ¬ 4096 < m + 1 := fun h => hb (jBad_iff.2 (.inl h))
   by_cases hk : k < 5
   ·rw [if_pos hk, if_neg (show ¬ 5 ≤ k by omega), if_pos ⟨by simp [hb2, hk], by omega⟩]
   ·rw [if_neg hk, if_pos (show 5 ≤ k by omega)]
    by_cases hl : k = 6 ∧ ns.length ≠ ks.length
    ·rw [if_pos hl, if_neg (by simp [hk, hl])]
    ·rw [if_neg hl, jRightL_doc (jRight_doc d) ks [] ns (m + 1) (by omega)]
     have e1 : (decide (¬ jBadD k n t) && (decide (k < 5) || (!decide (k = 6 ∧ ns.length ≠ ks.length) && jDRL (jDR d) (k == 6) [] ns ks))) = jDRL (jDR d) (k == 6) [] ns ks := by
      rw [decide_eq_true hb2, decide_eq_false hk, decide_eq_false hl]; rfl
     rw [e1]
     simp only [Nat.add_assoc]
/-- What the document's Write tells is what the program's does. -/
theorem jWrite_doc (v : JV) : jWrite v = if 4096 < jCnt v 4096 ∨ jDR 16 v = false then ([], 1) else if 65536 < (jFull v).length then ([], 8) else (jFull v, 0) := by
 unfold jWrite
 rw [jRight_doc, Nat.zero_add]
 by_cases h : 4096 < jCnt v 4096 ∨ jDR 16 v = false
 ·rw [if_pos h, if_neg]
  rintro ⟨h1, h2⟩
  rcases h with h | h
  ·have := (jCnt_most (v := v) (by decide)).1 h; omega
  ·rw [h] at h1; cases h1
 ·rw [if_neg h, if_pos]
  refine ⟨?_, ?_⟩
  ·cases hd : jDR 16 v
   ·exact absurd (.inr hd) h
   ·rfl
  ·rcases Nat.lt_or_ge 4096 (jTot v) with h1 | h1
   ·exact absurd (.inl ((jCnt_most (by decide)).2 h1)) h
   ·exact h1
end Go.Proofs.YtlhicfpmlncomaaGreatDoor

namespace Go.Proofs.YtlhicfpmlncomaaGreatDoor
open Go.Lib
set_option linter.unusedSimpArgs false
set_option linter.unusedVariables false
set_option maxRecDepth 100000 in
set_option maxHeartbeats 4000000 in
/-- The decoder's check at a lead byte from 128 on says what jSize says. -/
theorem check_jSize (c : UInt8) (t : List UInt8) (h0 : 128 ≤ c.toNat) :
  checkN (t.length + 1) (t.getD 0 0).toNat (t.getD 1 0).toNat (t.getD 2 0).toNat (firstT c.toNat % 8) (accLo (firstT c.toNat / 16)) (accHi (firstT c.toNat / 16)) = if jSize (c :: t) = 0 then none else some (jSize (c :: t)) := by
 have hc := c.toNat_lt
 have key : ∀ sz lo hi, firstT c.toNat % 8 = sz → accLo (firstT c.toNat / 16) = lo → accHi (firstT c.toNat / 16) = hi →
   checkN (t.length + 1) (t.getD 0 0).toNat (t.getD 1 0).toNat (t.getD 2 0).toNat sz lo hi = (if jSize (c :: t) = 0 then none else some (jSize (c :: t))) →
   checkN (t.length + 1) (t.getD 0 0).toNat (t.getD 1 0).toNat (t.getD 2 0).toNat (firstT c.toNat % 8) (accLo (firstT c.toNat / 16)) (accHi (firstT c.toNat / 16)) = if jSize (c :: t) = 0 then none else some (jSize (c :: t)) := fun sz lo hi e1 e2 e3 h => by
  rw [e1, e2, e3, h]
 by_cases c0 : c.toNat < 194
 ·refine key (firstT c.toNat % 8) (accLo (firstT c.toNat / 16)) (accHi (firstT c.toNat / 16)) rfl rfl rfl ?_
  simp [checkN, jSize, firstT, show ¬ c.toNat < 128 by omega, show c.toNat < 194 by omega, show c.toNat < 224 by omega, show c.toNat < 240 by omega, show c.toNat < 245 by omega]
 by_cases c1 : c.toNat < 224
 ·refine key 2 128 191 (by simp [firstT, show ¬ c.toNat < 128 by omega, c0, c1]) (by simp [firstT, accLo, show ¬ c.toNat < 128 by omega, c0, c1]) (by simp [firstT, accHi, show ¬ c.toNat < 128 by omega, c0, c1]) ?_
  rcases t with _ | ⟨x, _ | ⟨y, _ | ⟨z, t⟩⟩⟩ <;> simp [checkN, jSize, jCont, show ¬ c.toNat < 128 by omega, show ¬ c.toNat < 194 by omega, show c.toNat < 224 by omega, show c.toNat < 240 by omega, show c.toNat < 245 by omega] <;> (repeat' split) <;> first | omega | (simp_all; done) | (simp_all; omega)
 by_cases c2 : c.toNat = 224
 ·refine key 3 160 191 (by rw [c2]; decide) (by rw [c2]; decide) (by rw [c2]; decide) ?_
  rcases t with _ | ⟨x, _ | ⟨y, _ | ⟨z, t⟩⟩⟩ <;> simp [checkN, jSize, jCont, show ¬ c.toNat < 128 by omega, show ¬ c.toNat < 194 by omega, show ¬ c.toNat < 224 by omega, show c.toNat < 240 by omega, show c.toNat < 245 by omega] <;> (repeat' split) <;> first | omega | (simp_all; done) | (simp_all; omega)
 by_cases c3 : c.toNat < 237
 ·refine key 3 128 191 (by simp [firstT, show ¬ c.toNat < 128 by omega, c0, c1, c2, c3]) (by simp [firstT, accLo, show ¬ c.toNat < 128 by omega, c0, c1, c2, c3]) (by simp [firstT, accHi, show ¬ c.toNat < 128 by omega, c0, c1, c2, c3]) ?_
  rcases t with _ | ⟨x, _ | ⟨y, _ | ⟨z, t⟩⟩⟩ <;> simp [checkN, jSize, jCont, show ¬ c.toNat < 128 by omega, show ¬ c.toNat < 194 by omega, show ¬ c.toNat < 224 by omega, show c.toNat < 240 by omega, show c.toNat < 245 by omega] <;> (repeat' split) <;> first | omega | (simp_all; done) | (simp_all; omega)
 by_cases c4 : c.toNat = 237
 ·refine key 3 128 159 (by rw [c4]; decide) (by rw [c4]; decide) (by rw [c4]; decide) ?_
  rcases t with _ | ⟨x, _ | ⟨y, _ | ⟨z, t⟩⟩⟩ <;> simp [checkN, jSize, jCont, show ¬ c.toNat < 128 by omega, show ¬ c.toNat < 194 by omega, show ¬ c.toNat < 224 by omega, show c.toNat < 240 by omega, show c.toNat < 245 by omega] <;> (repeat' split) <;> first | omega | (simp_all; done) | (simp_all; omega)
 by_cases c5 : c.toNat < 240
 ·refine key 3 128 191 (by simp [firstT, show ¬ c.toNat < 128 by omega, c0, c1, c2, c3, c4, c5]) (by simp [firstT, accLo, show ¬ c.toNat < 128 by omega, c0, c1, c2, c3, c4, c5]) (by simp [firstT, accHi, show ¬ c.toNat < 128 by omega, c0, c1, c2, c3, c4, c5]) ?_
  rcases t with _ | ⟨x, _ | ⟨y, _ | ⟨z, t⟩⟩⟩ <;> simp [checkN, jSize, jCont, show ¬ c.toNat < 128 by omega, show ¬ c.toNat < 194 by omega, show ¬ c.toNat < 224 by omega, show c.toNat < 240 by omega, show c.toNat < 245 by omega] <;> (repeat' split) <;> first | omega | (simp_all; done) | (simp_all; omega)
 by_cases c6 : c.toNat = 240
 ·refine key 4 144 191 (by rw [c6]; decide) (by rw [c6]; decide) (by rw [c6]; decide) ?_
  rcases t with _ | ⟨x, _ | ⟨y, _ | ⟨z, t⟩⟩⟩ <;> simp [checkN, jSize, jCont, show ¬ c.toNat < 128 by omega, show ¬ c.toNat < 194 by omega, show ¬ c.toNat < 224 by omega, show ¬ c.toNat < 240 by omega, show c.toNat < 245 by omega] <;> (repeat' split) <;> first | omega | (simp_all; done) | (simp_all; omega)
 by_cases c7 : c.toNat < 244
 ·refine key 4 128 191 (by simp [firstT, show ¬ c.toNat < 128 by omega, c0, c1, c2, c3, c4, c5, c6, c7]) (by simp [firstT, accLo, show ¬ c.toNat < 128 by omega, c0, c1, c2, c3, c4, c5, c6, c7]) (by simp [firstT, accHi, show ¬ c.toNat < 128 by omega, c0, c1, c2, c3, c4, c5, c6, c7]) ?_
  rcases t with _ | ⟨x, _ | ⟨y, _ | ⟨z, t⟩⟩⟩ <;> simp [checkN, jSize, jCont, show ¬ c.toNat < 128 by omega, show ¬ c.toNat < 194 by omega, show ¬ c.toNat < 224 by omega, show ¬ c.toNat < 240 by omega, show c.toNat < 245 by omega] <;> (repeat' split) <;> first | omega | (simp_all; done) | (simp_all; omega)
 by_cases c8 : c.toNat = 244
 ·refine key 4 128 143 (by rw [c8]; decide) (by rw [c8]; decide) (by rw [c8]; decide) ?_
  rcases t with _ | ⟨x, _ | ⟨y, _ | ⟨z, t⟩⟩⟩ <;> simp [checkN, jSize, jCont, show ¬ c.toNat < 128 by omega, show ¬ c.toNat < 194 by omega, show ¬ c.toNat < 224 by omega, show ¬ c.toNat < 240 by omega, show c.toNat < 245 by omega] <;> (repeat' split) <;> first | omega | (simp_all; done) | (simp_all; omega)
 refine key (firstT c.toNat % 8) (accLo (firstT c.toNat / 16)) (accHi (firstT c.toNat / 16)) rfl rfl rfl ?_
 simp [checkN, jSize, firstT, show ¬ c.toNat < 128 by omega, c0, c1, c2, c3, c4, c5, c6, c7, c8, show ¬ c.toNat < 240 by omega, show ¬ c.toNat < 245 by omega]
theorem validD_jSize (c : UInt8) (t : List UInt8) : validD (c :: t) = if jSize (c :: t) = 0 then false else validD ((c :: t).drop (jSize (c :: t))) := by
 by_cases h : c.toNat < 128
 ·rw [validD_cons c t h, show jSize (c :: t) = 1 by simp [jSize, h]]
  rfl
 ·rw [validD_lead (c :: t) (by simp) (by simpa using h)]
  have := check_jSize c t (by omega)
  simp only [List.length_cons, List.getD_cons_zero, List.getD_cons_succ] at this ⊢
  rw [this]
  by_cases h0 : jSize (c :: t) = 0
  ·rw [if_pos h0, if_pos h0]
  ·rw [if_neg h0, if_neg h0]
theorem jSize_take {l : List UInt8} {n : Nat} (h : jSize l ≠ 0) (hn : jSize l ≤ n) : jSize l ≤ l.length ∧ jSize (l.take n) = jSize l := by
 rcases l with _ | ⟨c, _ | ⟨x, _ | ⟨y, _ | ⟨z, t⟩⟩⟩⟩ <;> rcases n with _ | _ | _ | _ | n <;> simp only [jSize, List.take_zero, List.take_succ_cons, List.take_nil, List.length_cons, List.length_nil] at h hn ⊢ <;> (repeat' split at h) <;> simp_all <;> (repeat' split) <;> (try omega)
theorem jSize_app {l k : List UInt8} (h : jSize l ≠ 0) : jSize (l ++ k) = jSize l := by
 rcases l with _ | ⟨c, _ | ⟨x, _ | ⟨y, _ | ⟨z, t⟩⟩⟩⟩ <;> simp only [jSize, List.nil_append, List.cons_append] at h ⊢ <;> (repeat' split at h) <;> simp_all
theorem ofNat_toNat' {n : Nat} (h : n < 256) : (UInt8.ofNat n).toNat = n := by
 rw [UInt8.toNat_ofNat']; omega
end Go.Proofs.YtlhicfpmlncomaaGreatDoor

namespace Go.Proofs.YtlhicfpmlncomaaGreatDoor
open Go.Lib
set_option linter.unusedSimpArgs false
set_option linter.unusedVariables false
mutual
/-- Only what a value's kind bears is there, and no list and no text is long. -/
def JGood (L : Nat) : JV → Prop
 | .mk k n t ns ks => 0 ≤ k ∧ k ≤ 6 ∧ (k ≠ 3 → n = 0) ∧ (k ≠ 4 → t = []) ∧ (k ≠ 6 → ns = []) ∧ (k < 5 → ks = []) ∧ t.length ≤ L ∧ (∀ s ∈ ns, s.length ≤ L) ∧ ns.length ≤ 4096 ∧ ks.length ≤ 4096 ∧ JGoodL L ks
def JGoodL (L : Nat) : List JV → Prop
 | [] => True
 | v :: vs => JGood L v ∧ JGoodL L vs
end
mutual
theorem JGood.sm {L : Nat} : ∀ (v : JV), JGood L v → JSm v
 | .mk k n t ns ks, h => by rw [JGood] at h; rw [JSm]; exact ⟨by omega, by omega, JGoodL.sm ks h.2.2.2.2.2.2.2.2.2.2⟩
theorem JGoodL.sm {L : Nat} : ∀ (ks : List JV), JGoodL L ks → JSmL ks
 | [], _ => by rw [JSmL]; trivial
 | v :: vs, h => by rw [JGoodL] at h; rw [JSmL]; exact ⟨JGood.sm v h.1, JGoodL.sm vs h.2⟩
end
mutual
theorem JGood.tx {L : Nat} (hL : L ≤ 140737488355328) : ∀ (v : JV), JGood L v → JTx v
 | .mk k n t ns ks, h => by rw [JGood] at h; rw [JTx]; exact ⟨by omega, fun s hs => Nat.le_trans (h.2.2.2.2.2.2.2.1 s hs) hL, JGoodL.tx hL ks h.2.2.2.2.2.2.2.2.2.2⟩
theorem JGoodL.tx {L : Nat} (hL : L ≤ 140737488355328) : ∀ (ks : List JV), JGoodL L ks → JTxL ks
 | [], _ => by rw [JTxL]; trivial
 | v :: vs, h => by rw [JGoodL] at h; rw [JTxL]; exact ⟨JGood.tx hL v h.1, JGoodL.tx hL vs h.2⟩
end
end Go.Proofs.YtlhicfpmlncomaaGreatDoor

namespace Go.Proofs.YtlhicfpmlncomaaGreatDoor
open Go.Lib
set_option linter.unusedSimpArgs false
set_option linter.unusedVariables false
theorem at_drop {b l : List UInt8} {p : Nat} (h : b.drop p = l) (i : Nat) : b[p + i]? = l[i]? := by rw [← h, List.getElem?_drop]
theorem jHex_digit (n : Nat) (h : n < 16) : jHex (jHexD n) = some n := by
 have : ∀ n : Fin 16, jHex (jHexD n.val) = some n.val := by decide
 exact this ⟨n, h⟩
theorem jSign_small {c : UInt8} (h : c.toNat < 128) : jSign c.toNat = [c] := by
 unfold jSign
 rw [if_pos h, UInt8.ofNat_toNat]
theorem jTextL_esc {b : List UInt8} {p f : Nat} {out e : List UInt8} {q : Nat} (h : b[p]? = some 92) (he : jEscape b p = .ok (e, q)) : jTextL b (f + 1) p out = jTextL b f q (out ++ e) := by
 rw [jTextL, h]
 simp only []
 rw [if_neg (by decide), if_pos trivial, he]
theorem jQc_read {b rest out : List UInt8} {p f : Nat} {c : UInt8} (hc : c.toNat < 128) (h : b.drop p = jQc c ++ rest) : jTextL b (f + 1) p out = jTextL b f (p + (jQc c).length) (out ++ [c]) := by
 have h0 := at_drop h 0
 have h1 := at_drop h 1
 unfold jQc at h h0 h1 ⊢
 by_cases c1 : c = 34 ∨ c = 92
 ·rw [if_pos c1] at h h0 h1 ⊢
  refine jTextL_esc (by simpa using h0) ?_
  unfold jEscape
  rw [show b[p + 1]? = some c by simpa using h1]
  simp only []
  rw [if_pos (by rcases c1 with h | h; exact .inl h; exact .inr (.inl h))]
  rfl
 rw [if_neg c1] at h h0 h1 ⊢
 by_cases c2 : c = 8
 ·subst c2
  refine jTextL_esc (by simpa using h0) ?_
  unfold jEscape
  rw [show b[p + 1]? = some 98 by simpa using h1]
  rfl
 rw [if_neg c2] at h h0 h1 ⊢
 by_cases c3 : c = 9
 ·subst c3
  refine jTextL_esc (by simpa using h0) ?_
  unfold jEscape
  rw [show b[p + 1]? = some 116 by simpa using h1]
  rfl
 rw [if_neg c3] at h h0 h1 ⊢
 by_cases c4 : c = 10
 ·subst c4
  refine jTextL_esc (by simpa using h0) ?_
  unfold jEscape
  rw [show b[p + 1]? = some 110 by simpa using h1]
  rfl
 rw [if_neg c4] at h h0 h1 ⊢
 by_cases c5 : c = 12
 ·subst c5
  refine jTextL_esc (by simpa using h0) ?_
  unfold jEscape
  rw [show b[p + 1]? = some 102 by simpa using h1]
  rfl
 rw [if_neg c5] at h h0 h1 ⊢
 by_cases c6 : c = 13
 ·subst c6
  refine jTextL_esc (by simpa using h0) ?_
  unfold jEscape
  rw [show b[p + 1]? = some 114 by simpa using h1]
  rfl
 rw [if_neg c6] at h h0 h1 ⊢
 by_cases c7 : c.toNat < 32
 ·rw [if_pos c7] at h h0 h1 ⊢
  refine jTextL_esc (by simpa using h0) ?_
  have h2 := at_drop h 2
  have h3 := at_drop h 3
  have h4 := at_drop h 4
  have h5 := at_drop h 5
  simp only [List.cons_append, List.getElem?_cons_zero, List.getElem?_cons_succ] at h1 h2 h3 h4 h5
  have hu : jUnit b p 4 0 (p + 2) = .ok c.toNat := by
   rw [jUnit, h2]
   simp only [show jHex 48 = some 0 from rfl]
   rw [jUnit, show p + 2 + 1 = p + 3 by omega, h3]
   simp only [show jHex 48 = some 0 from rfl]
   rw [jUnit, show p + 3 + 1 = p + 4 by omega, h4]
   simp only [jHex_digit (c.toNat / 16) (by omega)]
   rw [jUnit, show p + 4 + 1 = p + 5 by omega, h5]
   simp only [jHex_digit (c.toNat % 16) (by omega)]
   rw [jUnit]
   congr 1
   omega
  unfold jEscape
  rw [h1]
  simp only []
  rw [if_neg (by decide), if_neg (by decide), if_neg (by decide), if_neg (by decide), if_neg (by decide), if_neg (by decide), if_pos trivial, hu]
  simp only []
  rw [if_neg (by omega), if_neg (by omega), jSign_small hc]
  rfl
 ·rw [if_neg c7] at h h0 h1 ⊢
  have hs : jSize (b.drop p) = 1 := by rw [h]; simp [jSize, hc]
  rw [jTextL, show b[p]? = some c by simpa using h0]
  simp only []
  rw [if_neg (fun h => c1 (.inl h)), if_neg (fun h => c1 (.inr h)), if_neg c7, if_neg (by rw [hs]; decide), hs, h]
  rfl
theorem jQc_high {c : UInt8} (h : 128 ≤ c.toNat) : jQc c = [c] := by
 have n : ∀ k : Nat, k < 128 → c ≠ UInt8.ofNat k := fun k hk he => by rw [he, ofNat_toNat' (by omega)] at h; omega
 unfold jQc
 rw [if_neg (by rintro (h | h); exact n 34 (by decide) h; exact n 92 (by decide) h), if_neg (show c ≠ 8 from n 8 (by decide)), if_neg (show c ≠ 9 from n 9 (by decide)), if_neg (show c ≠ 10 from n 10 (by decide)), if_neg (show c ≠ 12 from n 12 (by decide)), if_neg (show c ≠ 13 from n 13 (by decide)), if_neg (by omega)]
theorem jQs_high : ∀ (l : List UInt8), (∀ c ∈ l, 128 ≤ c.toNat) → l.flatMap jQc = l
 | [], _ => rfl
 | c :: l, h => by rw [List.flatMap_cons, jQc_high (h c (by simp)), jQs_high l (fun x hx => h x (by simp [hx]))]; rfl
theorem jSize_high {c : UInt8} {t : List UInt8} (h : 128 ≤ c.toNat) (h0 : jSize (c :: t) ≠ 0) : ∀ x ∈ (c :: t).take (jSize (c :: t)), 128 ≤ x.toNat := by
 unfold jSize at h0 ⊢
 rcases t with _ | ⟨x, _ | ⟨y, _ | ⟨z, t⟩⟩⟩ <;> simp only [] at h0 ⊢ <;> (repeat' split at h0) <;> simp_all [jCont] <;> (try (repeat' split)) <;> (try omega) <;> simp_all <;> (try omega)
theorem drop_app {b x y : List UInt8} {p : Nat} (h : b.drop p = x ++ y) : b.drop (p + x.length) = y := by rw [← List.drop_drop, h, List.drop_left]
theorem jTextL_written {b rest : List UInt8} : ∀ (n : Nat) (s out : List UInt8) (p f : Nat), s.length ≤ n → validD s = true → b.drop p = s.flatMap jQc ++ (34 :: rest) → s.length < f → jTextL b f p out = .ok (out ++ s, p + (s.flatMap jQc).length + 1)
 | _, [], out, p, f, _, _, h, hf => by
  obtain ⟨f, rfl⟩ : ∃ g, f = g + 1 := ⟨f - 1, by simp at hf; omega⟩
  have h0 : b[p]? = some 34 := by simpa using at_drop h 0
  rw [jTextL, h0]
  simp only []
  rw [if_pos trivial, List.append_nil]
  rfl
 | 0, c :: t, _, _, _, hn, _, _, _ => by simp at hn
 | n + 1, c :: t, out, p, f, hn, hv, h, hf => by
  obtain ⟨f, rfl⟩ : ∃ g, f = g + 1 := ⟨f - 1, by simp at hf; omega⟩
  simp only [List.length_cons] at hn hf
  by_cases hc : c.toNat < 128
  ·rw [validD_cons c t hc] at hv
   rw [List.flatMap_cons, List.append_assoc] at h
   rw [jQc_read hc h, jTextL_written n t (out ++ [c]) (p + (jQc c).length) f (by omega) hv (drop_app h) (by omega), List.append_assoc, List.flatMap_cons, List.length_append, Nat.add_assoc p]
   rfl
  ·rw [validD_jSize] at hv
   by_cases h0 : jSize (c :: t) = 0
   ·rw [if_pos h0] at hv; cases hv
   rw [if_neg h0] at hv
   have hhi := jSize_high (by omega) h0
   obtain ⟨hk, hkt⟩ := jSize_take h0 (Nat.le_refl _)
   have hsp : c :: t = (c :: t).take (jSize (c :: t)) ++ (c :: t).drop (jSize (c :: t)) := (List.take_append_drop _ _).symm
   have hfm : (c :: t).flatMap jQc = (c :: t).take (jSize (c :: t)) ++ ((c :: t).drop (jSize (c :: t))).flatMap jQc := by
    have : ((c :: t).take (jSize (c :: t)) ++ (c :: t).drop (jSize (c :: t))).flatMap jQc = (c :: t).take (jSize (c :: t)) ++ ((c :: t).drop (jSize (c :: t))).flatMap jQc := by
     rw [List.flatMap_append, jQs_high _ hhi]
    rwa [← hsp] at this
   have hlen : ((c :: t).take (jSize (c :: t))).length = jSize (c :: t) := by rw [List.length_take]; omega
   have hdl : ((c :: t).drop (jSize (c :: t))).length ≤ t.length := by
    rw [List.length_drop]; simp only [List.length_cons] at hk ⊢; omega
   rw [hfm, List.append_assoc] at h
   have hb0 : b[p]? = some c := by
    have h1 := at_drop h 0
    rw [Nat.add_zero] at h1
    rw [h1]
    obtain ⟨k, hkk⟩ : ∃ k, jSize (c :: t) = k + 1 := ⟨jSize (c :: t) - 1, by omega⟩
    rw [hkk]
    rfl
   have hsz : jSize (b.drop p) = jSize (c :: t) := by
    rw [h, jSize_app (by rw [hkt]; exact h0), hkt]
   have hne : ∀ k : Nat, k < 128 → c ≠ UInt8.ofNat k := fun k hk he => by rw [he, ofNat_toNat' (by omega)] at hc; omega
   have htk : (b.drop p).take (jSize (c :: t)) = (c :: t).take (jSize (c :: t)) := by
    rw [h, List.take_append_of_le_length (by omega), List.take_of_length_le (by omega)]
   have hdr := drop_app h
   rw [hlen] at hdr
   rw [jTextL, hb0]
   simp only []
   rw [if_neg (show c ≠ 34 from hne 34 (by decide)), if_neg (show c ≠ 92 from hne 92 (by decide)), if_neg (by omega), hsz, if_neg h0, htk,
    jTextL_written n _ _ _ f (by omega) hv hdr (by omega), List.append_assoc, ← hsp, hfm, List.length_append, hlen, Nat.add_assoc p]
/-- A text that is written is read as that text. -/
theorem jText_written {b rest s : List UInt8} {p : Nat} (hv : validD s = true) (h : b.drop p = jQuote s ++ rest) : jText b p = .ok (s, p + (jQuote s).length) := by
 have h' : b.drop p = [34] ++ (s.flatMap jQc ++ (34 :: rest)) := by rw [h, jQuote]; simp
 have h0 : b[p]? = some 34 := by simpa using at_drop h' 0
 have hd := drop_app h'
 have hge := jQs_ge s
 have hl := congrArg List.length hd
 simp only [List.length_drop, List.length_append, List.length_cons, List.length_nil] at hl
 unfold jText
 rw [jWord, h0]
 simp only []
 rw [if_pos trivial, jWord]
 simp only []
 rw [jTextL_written s.length s [] (p + 1) _ (Nat.le_refl _) hv hd (by omega), jQuote]
 simp only [List.nil_append, List.length_append, List.length_cons, List.length_nil]
 congr 2
 omega
end Go.Proofs.YtlhicfpmlncomaaGreatDoor

namespace Go.Proofs.YtlhicfpmlncomaaGreatDoor
open Go.Lib
set_option linter.unusedSimpArgs false
set_option linter.unusedVariables false
theorem jWord_written {b rest : List UInt8} : ∀ (w : List UInt8) (p : Nat), b.drop p = w ++ rest → jWord b w p = .ok (p + w.length)
 | [], p, _ => by rw [jWord]; rfl
 | c :: w, p, h => by
  have h0 : b[p]? = some c := by simpa using at_drop h 0
  have hd : b.drop (p + 1) = w ++ rest := drop_app (x := [c]) h
  rw [jWord, h0]
  simp only []
  rw [if_pos trivial, jWord_written w (p + 1) hd, List.length_cons, Nat.add_right_comm, Nat.add_assoc p]
theorem itoa_numC (n : Int) : ∀ c ∈ itoa n, jNumC c = true := by
 have hd : ∀ u, ∀ c ∈ decDigits u, jNumC c = true := fun u c hc => by
  have := List.all_eq_true.1 (decDigits_dig u) c hc
  unfold jNumC
  rw [this]; rfl
 intro c hc
 unfold itoa at hc
 split at hc
 ·rcases List.mem_cons.1 hc with rfl | hc
  ·decide
  ·exact hd _ c hc
 ·exact hd _ c hc
theorem jNumber_written {b rest : List UInt8} {p : Nat} {n : Int} (h0 : -9007199254740991 ≤ n) (h1 : n ≤ 9007199254740991) (h : b.drop p = itoa n ++ rest) (hr : ∀ c, rest.head? = some c → jNumC c = false) : jNumber b p = .ok (n, p + (itoa n).length) := by
 have ht : (b.drop p).takeWhile jNumC = itoa n := by
  rw [h, List.takeWhile_append_of_pos (itoa_numC n)]
  cases rest with
  | nil => simp
  | cons c l => rw [List.takeWhile_cons, hr c rfl]; simp
 unfold jNumber
 simp only []
 rw [ht, jNum_itoa h0 h1]
theorem jBlanks_stay {b : List UInt8} {p : Nat} {c : UInt8} (h : b[p]? = some c) (hc : jBlank c = false) : jBlanks b p = p := by
 obtain ⟨hp, rfl⟩ := List.getElem?_eq_some_iff.1 h
 unfold jBlanks
 rw [List.drop_eq_getElem_cons hp, List.takeWhile_cons, hc]
 rfl
theorem itoa_head (n : Int) : ∃ c l, itoa n = c :: l ∧ (c = 45 ∨ jDig c = true) := by
 unfold itoa
 split
 ·exact ⟨_, _, rfl, .inl rfl⟩
 ·cases hd : decDigits n.toNat with
  | nil => exact absurd hd (decDigits_ne _)
  | cons c l => exact ⟨c, l, rfl, .inr (List.all_eq_true.1 (decDigits_dig n.toNat) c (by rw [hd]; simp))⟩
theorem dig_no {c : UInt8} (h : c = 45 ∨ jDig c = true) : jBlank c = false ∧ c ≠ 93 ∧ c ≠ 125 ∧ c ≠ 110 ∧ c ≠ 102 ∧ c ≠ 116 := by
 rcases h with rfl | h
 ·decide
 ·have : ∀ c : UInt8, jDig c = true → jBlank c = false ∧ c ≠ 93 ∧ c ≠ 125 ∧ c ≠ 110 ∧ c ≠ 102 ∧ c ≠ 116 := by
   intro c h
   unfold jDig at h
   simp only [Bool.and_eq_true, decide_eq_true_eq] at h
   have n : ∀ k : Nat, k < 256 → (k < 48 ∨ 57 < k) → c ≠ UInt8.ofNat k := fun k hk ho he => by rw [he, ofNat_toNat' hk] at h; omega
   refine ⟨?_, n 93 (by decide) (by decide), n 125 (by decide) (by decide), n 110 (by decide) (by decide), n 102 (by decide) (by decide), n 116 (by decide) (by decide)⟩
   unfold jBlank
   simp only [Bool.or_eq_false_iff, beq_eq_false_iff_ne]
   exact ⟨n 32 (by decide) (by decide), n 9 (by decide) (by decide), n 10 (by decide) (by decide), n 13 (by decide) (by decide)⟩
  exact this c h
/-- How a written value begins. -/
theorem jFull_head (k n : Int) (t : List UInt8) (ns : List (List UInt8)) (ks : List JV) : ∃ c l, jFull (.mk k n t ns ks) = c :: l ∧ jBlank c = false ∧ c ≠ 93 ∧ c ≠ 125 := by
 rw [jFull]
 split
 ·exact ⟨_, _, rfl, by decide⟩
 split
 ·exact ⟨_, _, rfl, by decide⟩
 split
 ·exact ⟨_, _, rfl, by decide⟩
 split
 ·obtain ⟨c, l, h, hc⟩ := itoa_head n
  have := dig_no hc
  exact ⟨c, l, h, this.1, this.2.1, this.2.2.1⟩
 split
 ·exact ⟨_, _, rfl, by decide⟩
 split
 ·exact ⟨_, _, rfl, by decide⟩
 ·exact ⟨_, _, rfl, by decide⟩
/-- A value that is neither a list nor an object. -/
theorem jLeaf_written {b rest : List UInt8} {val : Option (Nat → Nat → JR (JV × Nat × Nat))} {L p m : Nat} {k n : Int} {t : List UInt8} {ns : List (List UInt8)} {ks : List JV} (hg : JGood L (.mk k n t ns ks)) (hb : ¬ jBad k n t m) (hk : k < 5)
  (h : b.drop p = jFull (.mk k n t ns ks) ++ rest) (hr : ∀ c, rest.head? = some c → jNumC c = false) : jValueW b val p m = .ok (.mk k n t ns ks, p + (jFull (.mk k n t ns ks)).length, m + 1) := by
 rw [JGood] at hg
 obtain ⟨g1, g2, g3, g4, g5, g6, -⟩ := hg
 obtain rfl := g6 hk
 obtain rfl := g5 (by omega)
 unfold jBad at hb
 have hm : m ≠ 4096 := fun h => hb (.inl (by omega))
 have hk5 : k = 0 ∨ k = 1 ∨ k = 2 ∨ k = 3 ∨ k = 4 := by omega
 unfold jValueW
 rcases hk5 with rfl | rfl | rfl | rfl | rfl
 ·obtain rfl := g3 (by decide)
  obtain rfl := g4 (by decide)
  have hf : jFull (.mk 0 0 [] [] []) = [110, 117, 108, 108] := by rw [jFull]; rfl
  rw [hf] at h ⊢
  rw [show b[p]? = some 110 by simpa using at_drop h 0]
  simp only []
  rw [if_neg hm, if_pos trivial, jLit, jWord_written _ _ h]
  rfl
 ·obtain rfl := g3 (by decide)
  obtain rfl := g4 (by decide)
  have hf : jFull (.mk 1 0 [] [] []) = [102, 97, 108, 115, 101] := by rw [jFull]; rfl
  rw [hf] at h ⊢
  rw [show b[p]? = some 102 by simpa using at_drop h 0]
  simp only []
  rw [if_neg hm, if_neg (by decide), if_pos trivial, jLit, jWord_written _ _ h]
 ·obtain rfl := g3 (by decide)
  obtain rfl := g4 (by decide)
  have hf : jFull (.mk 2 0 [] [] []) = [116, 114, 117, 101] := by rw [jFull]; rfl
  rw [hf] at h ⊢
  rw [show b[p]? = some 116 by simpa using at_drop h 0]
  simp only []
  rw [if_neg hm, if_neg (by decide), if_neg (by decide), if_pos trivial, jLit, jWord_written _ _ h]
 ·obtain rfl := g4 (by decide)
  have hf : jFull (.mk 3 n [] [] []) = itoa n := by rw [jFull]; rfl
  rw [hf] at h ⊢
  obtain ⟨c, l, hc, hcd⟩ := itoa_head n
  obtain ⟨_, _, _, n1, n2, n3⟩ := dig_no hcd
  rw [show b[p]? = some c by have := at_drop h 0; rw [hc] at this; simpa using this]
  simp only []
  rw [if_neg hm, if_neg n1, if_neg n2, if_neg n3, if_pos hcd, jNumber_written (by omega) (by omega) h hr]
 ·obtain rfl := g3 (by decide)
  have hf : jFull (.mk 4 0 t [] []) = jQuote t := by rw [jFull]; rfl
  rw [hf] at h ⊢
  have hv : validD t = true := by cases hv : validD t; exact absurd (.inr (.inr (.inr (.inl hv)))) hb; rfl
  rw [show b[p]? = some 34 by have := at_drop h 0; rw [jQuote] at this; simpa using this]
  simp only []
  rw [if_neg hm, if_neg (by decide), if_neg (by decide), if_neg (by decide), if_neg (by decide), if_pos trivial, jText_written hv h]
end Go.Proofs.YtlhicfpmlncomaaGreatDoor

namespace Go.Proofs.YtlhicfpmlncomaaGreatDoor
open Go.Lib
set_option linter.unusedSimpArgs false
set_option linter.unusedVariables false
def ReadOk (b : List UInt8) (d : Nat) (val : Nat → Nat → JR (JV × Nat × Nat)) : Prop := ∀ (v : JV) (p m m' L : Nat) (rest : List UInt8), JGood L v → jRight d v m = some m' → b.drop p = jFull v ++ rest → (∀ c, rest.head? = some c → jNumC c = false) → val p m = .ok (v, p + (jFull v).length, m')
theorem jFullL_comma {obj : Bool} {ns : List (List UInt8)} {v : JV} {vs : List JV} : jFullL obj true ns (v :: vs) = 44 :: jFullL obj false ns (v :: vs) := by rw [jFullL, jFullL]; rfl
theorem jFullL_head {obj : Bool} {ns : List (List UInt8)} {v : JV} {vs : List JV} : ∃ c l, jFullL obj false ns (v :: vs) = c :: l ∧ jBlank c = false ∧ c ≠ 93 ∧ c ≠ 125 := by
 rw [jFullL]
 cases obj with
 | true => exact ⟨34, _, rfl, by decide⟩
 | false =>
  obtain ⟨k, n, t, ns', ks⟩ := v
  obtain ⟨c, l, h, hc⟩ := jFull_head k n t ns' ks
  exact ⟨c, _, by rw [h]; rfl, hc⟩
theorem jName_written {b l : List UInt8} {names : List (List UInt8)} {s : List UInt8} {p : Nat} {c : UInt8} (hv : validD s = true) (hs : s ∉ names) (h : b.drop p = jQuote s ++ (58 :: c :: l)) (hc : jBlank c = false) : jName b names p = .ok (s, p + (jQuote s).length + 1) := by
 have hd : b.drop (p + (jQuote s).length) = 58 :: c :: l := drop_app h
 have h0 : b[p + (jQuote s).length]? = some 58 := by simpa using at_drop hd 0
 have h1 : b[p + (jQuote s).length + 1]? = some c := by simpa using at_drop hd 1
 unfold jName
 rw [jText_written hv h]
 simp only []
 rw [if_neg hs, jBlanks_stay h0 (by decide), jWord, h0]
 simp only []
 rw [if_pos trivial, jWord]
 simp only []
 rw [jBlanks_stay h1 hc]
theorem jManyL_written {b : List UInt8} {kind : Int} {fin : UInt8} {d : Nat} {val : Nat → Nat → JR (JV × Nat × Nat)} (hk : kind = 5 ∧ fin = 93 ∨ kind = 6 ∧ fin = 125) (hv : ReadOk b d val) : ∀ (ks : List JV) (ns names seen : List (List UInt8)) (kids : List JV) (p m m' f L : Nat) (rest : List UInt8), ks ≠ [] → JGoodL L ks → (kind = 6 → ns.length = ks.length) → (kind ≠ 6 → ns = []) → (kind = 6 → seen = names) →
  jRightL (jRight d) (kind == 6) seen ns ks m = some m' → b.drop p = jFullL (kind == 6) false ns ks ++ (fin :: rest) → ks.length < f →
  jManyL b kind fin val f p m names kids = .ok (.mk kind 0 [] (names ++ ns) (kids ++ ks), p + (jFullL (kind == 6) false ns ks).length + 1, m')
 | [], _, _, _, _, _, _, _, _, _, _, h, _, _, _, _, _, _, _ => absurd rfl h
 | v :: vs, ns, names, seen, kids, p, m, m', f, L, rest, _, hg, hn6, hn5, hse, hr, h, hf => by
  obtain ⟨f, rfl⟩ : ∃ g, f = g + 1 := ⟨f - 1, by simp at hf; omega⟩
  simp only [List.length_cons] at hf
  rw [JGoodL] at hg
  rw [jRightL] at hr
  split at hr
  ·cases hr
  rename_i hbad
  cases hm : jRight d v m with
  | none => rw [hm] at hr; cases hr
  | some m1 =>
   rw [hm] at hr
   simp only [] at hr
   have hfin : jBlank fin = false ∧ jNumC fin = false ∧ fin ≠ 44 := by rcases hk with ⟨_, rfl⟩ | ⟨_, rfl⟩ <;> decide
   -- the name
   have hname : ∃ s q, (if kind = 6 then jName b names p else .ok ([], p)) = .ok (s, q) ∧ b.drop q = jFull v ++ (jFullL (kind == 6) true ns.tail vs ++ (fin :: rest)) ∧ (jFullL (kind == 6) false ns (v :: vs)).length + p = q + (jFull v).length + (jFullL (kind == 6) true ns.tail vs).length ∧ (if kind = 6 then names ++ [s] else names) ++ ns.tail = names ++ ns ∧ (kind = 6 → s = ns.headD []) := by
    rw [jFullL] at h ⊢
    by_cases h6 : kind = 6
    ·subst h6
     obtain ⟨s, ns', rfl⟩ : ∃ s ns', ns = s :: ns' := by
      cases ns with
      | nil => exact absurd (hn6 rfl) (by simp)
      | cons s ns' => exact ⟨s, ns', rfl⟩
     simp only [beq_self_eq_true, if_true, if_false, List.headD_cons, List.tail_cons, List.nil_append, List.append_assoc, List.cons_append, true_and, Bool.false_eq_true] at h hbad ⊢
     have hvs : validD s = true := by cases hh : validD s; exact absurd (.inl hh) hbad; rfl
     have hns : s ∉ names := fun hh => hbad (.inr (by rw [hse rfl]; exact hh))
     obtain ⟨k0, n0, t0, ns0, ks0⟩ := v
     obtain ⟨c, l, hcl, hc, _⟩ := jFull_head k0 n0 t0 ns0 ks0
     refine ⟨s, _, jName_written (c := c) (l := l ++ (jFullL true true ns' vs ++ (fin :: rest))) hvs hns (by rw [h, hcl]; rfl) hc, ?_, ?_, rfl, fun _ => rfl⟩
     ·have := drop_app (x := jQuote s ++ [58]) (y := jFull (.mk k0 n0 t0 ns0 ks0) ++ (jFullL true true ns' vs ++ (fin :: rest))) (b := b) (p := p) (by rw [h]; simp)
      rw [List.length_append] at this
      exact this
     ·simp only [List.length_append, List.length_cons]
      omega
    ·have hkb : (kind == 6) = false := by simpa using h6
     obtain rfl := hn5 h6
     rw [hkb] at h ⊢
     simp only [if_neg h6, Bool.false_eq_true, if_false, List.nil_append, List.tail_nil, List.append_assoc] at h ⊢
     exact ⟨_, _, rfl, h, by simp only [List.length_append]; omega, trivial, fun h => absurd h h6⟩
   obtain ⟨s, q, e1, e2, e3, e4, e5⟩ := hname
   have hnum : ∀ c, (jFullL (kind == 6) true ns.tail vs ++ (fin :: rest)).head? = some c → jNumC c = false := by
    intro c hc
    cases vs with
    | nil => rw [jFullL] at hc; injection hc with hc; rw [← hc]; exact hfin.2.1
    | cons u us => rw [jFullL_comma] at hc; injection hc with hc; rw [← hc]; decide
   have e6 := hv v q m m1 L _ hg.1 hm e2 hnum
   have e7 := drop_app e2
   rw [jManyL_go e1, e6]
   simp only []
   cases vs with
   | nil =>
    rw [jFullL] at e3 e7
    have hx : b[q + (jFull v).length]? = some fin := by simpa using at_drop e7 0
    rw [jBlanks_stay hx hfin.1, jNext, hx]
    simp only []
    rw [jRightL] at hr
    injection hr with hr
    simp only [List.length_nil, Nat.add_zero] at e3
    have ht : ns.tail = [] := by
     by_cases h6 : kind = 6
     ·have := hn6 h6
      exact List.eq_nil_of_length_eq_zero (by rw [List.length_tail]; simp at this; omega)
     ·rw [hn5 h6]; rfl
    rw [ht, List.append_nil] at e4
    rw [if_pos trivial, hr, e4, Nat.add_comm p, e3]
   | cons u us =>
    have e8 := e7
    rw [jFullL_comma] at e7 e3
    have hx : b[q + (jFull v).length]? = some 44 := by simpa using at_drop e7 0
    have hd : b.drop (q + (jFull v).length + 1) = jFullL (kind == 6) false ns.tail (u :: us) ++ (fin :: rest) := drop_app (x := [44]) e7
    obtain ⟨c, l, hcl, hc, _⟩ := @jFullL_head (kind == 6) ns.tail u us
    have hx1 : b[q + (jFull v).length + 1]? = some c := by
     have := at_drop hd 0
     rw [hcl] at this
     simpa using this
    rw [jBlanks_stay hx (by decide), jNext, hx]
    simp only []
    rw [if_neg (fun h => hfin.2.2 h.symm), jWord, hx]
    simp only []
    rw [if_pos trivial, jWord]
    simp only []
    rw [jBlanks_stay hx1 hc, jManyL_written hk hv (u :: us) ns.tail _ (seen ++ [ns.headD []]) _ _ m1 m' f L rest (by simp) hg.2 ?_ ?_ ?_ hr hd (by omega), e4, List.append_assoc]
    ·congr 2
     simp only [List.length_cons, List.cons_append, List.nil_append] at e3 ⊢
     congr 1
     omega
    ·intro h6
     have := hn6 h6
     rw [List.length_tail]
     simp only [List.length_cons] at this ⊢
     omega
    ·intro h6; rw [hn5 h6]; rfl
    ·intro h6; rw [hse h6, if_pos h6, e5 h6]
end Go.Proofs.YtlhicfpmlncomaaGreatDoor

namespace Go.Proofs.YtlhicfpmlncomaaGreatDoor
open Go.Lib
set_option linter.unusedSimpArgs false
set_option linter.unusedVariables false
theorem jFullL_ge : ∀ (ks : List JV) (obj more : Bool) (ns : List (List UInt8)), ks.length ≤ (jFullL obj more ns ks).length
 | [], _, _, _ => Nat.zero_le _
 | .mk k n t ns' ks' :: vs, obj, more, ns => by
  obtain ⟨c, l, h, _⟩ := jFull_head k n t ns' ks'
  have := jFullL_ge vs obj true ns.tail
  rw [jFullL, h]
  simp only [List.length_append, List.length_cons]
  omega
theorem jMany_written {b : List UInt8} {kind n : Int} {fin opn : UInt8} {d : Nat} {val : Nat → Nat → JR (JV × Nat × Nat)} {t : List UInt8} {ns : List (List UInt8)} {ks : List JV} {p m m' L : Nat} {rest : List UInt8} (hk : kind = 5 ∧ fin = 93 ∨ kind = 6 ∧ fin = 125) (hv : ReadOk b d val) (hg : JGood L (.mk kind n t ns ks)) (hr : jRight (d + 1) (.mk kind n t ns ks) m = some m')
  (h : b.drop p = [opn] ++ (jFullL (kind == 6) false ns ks ++ (fin :: rest))) : jMany b kind fin (some val) p (m + 1) = .ok (.mk kind n t ns ks, p + ((jFullL (kind == 6) false ns ks).length + 2), m') := by
 rw [JGood] at hg
 obtain ⟨g1, g2, g3, g4, g5, g6, -, -, -, -, g7⟩ := hg
 obtain rfl := g3 (by omega)
 obtain rfl := g4 (by omega)
 have hd : b.drop (p + 1) = jFullL (kind == 6) false ns ks ++ (fin :: rest) := drop_app (x := [opn]) h
 have hfin : jBlank fin = false := by rcases hk with ⟨_, rfl⟩ | ⟨_, rfl⟩ <;> decide
 rw [jRight] at hr
 split at hr
 ·cases hr
 rw [if_neg (by omega)] at hr
 split at hr
 ·cases hr
 rename_i hlen
 have hl6 : kind = 6 → ns.length = ks.length := fun h6 => Decidable.byContradiction fun hh => hlen ⟨h6, hh⟩
 unfold jMany
 simp only []
 cases ks with
 | nil =>
  have hns : ns = [] := by
   by_cases h6 : kind = 6
   ·exact List.eq_nil_of_length_eq_zero (hl6 h6)
   ·exact g5 h6
  subst hns
  rw [jFullL] at hd ⊢
  have hx : b[p + 1]? = some fin := by simpa using at_drop hd 0
  rw [jRightL] at hr
  injection hr with hr
  rw [jBlanks_stay hx hfin, jNext, hx]
  simp only []
  rw [if_pos trivial, hr]
  rfl
 | cons v vs =>
  obtain ⟨c, l, hcl, hc, hc1, hc2⟩ := @jFullL_head (kind == 6) ns v vs
  have hx : b[p + 1]? = some c := by
   have := at_drop hd 0
   rw [hcl] at this
   simpa using this
  have hge := jFullL_ge (v :: vs) (kind == 6) false ns
  have hbl := congrArg List.length hd
  simp only [List.length_drop, List.length_append, List.length_cons] at hbl hge
  rw [jBlanks_stay hx hc, jNext, hx]
  simp only []
  rw [if_neg (by rcases hk with ⟨_, rfl⟩ | ⟨_, rfl⟩; exact hc1; exact hc2), jManyL_written hk hv (v :: vs) ns [] [] [] (p + 1) (m + 1) m' _ L rest (by simp) g7 hl6 g5 (fun _ => rfl) hr hd (by simp only [List.length_cons]; omega)]
  simp only [List.nil_append]
  congr 2
  congr 1
  omega
theorem jValue_written {b : List UInt8} : ∀ (d : Nat), ReadOk b d (jValue b d)
 | d, .mk k n t ns ks, p, m, m', L, rest, hg, hr, h, hrest => by
  by_cases hb : jBad k n t m
  ·rw [jRight_bad hb] at hr; cases hr
  by_cases hk : k < 5
  ·rw [jRight_leaf hb hk] at hr
   injection hr with hr
   rw [← hr]
   cases d <;> (rw [jValue]; exact jLeaf_written hg hb hk h hrest)
  ·cases d with
   | zero => rw [jRight, if_neg hb, if_neg hk] at hr; cases hr
   | succ d =>
    have hm : m ≠ 4096 := fun h => hb (.inl (by omega))
    have hk6 : k ≤ 6 := Decidable.byContradiction fun hh => hb (.inr (.inr (.inl (by omega))))
    have ih := jValue_written (b := b) d
    rw [jValue, jValueW]
    rcases (by omega : k = 5 ∨ k = 6) with rfl | rfl
    ·have hf : jFull (.mk 5 n t ns ks) = [91] ++ (jFullL ((5 : Int) == 6) false ns ks ++ [93]) := by rw [jFull]; rfl
     rw [hf, List.append_assoc, List.append_assoc] at h
     rw [hf, show b[p]? = some 91 by simpa using at_drop h 0]
     simp only []
     rw [if_neg hm, if_neg (by decide), if_neg (by decide), if_neg (by decide), if_neg (by decide), if_neg (by decide), if_pos trivial, jMany_written (.inl ⟨rfl, rfl⟩) ih hg hr h]
     simp only [List.length_append, List.length_cons, List.length_nil]
     congr 2
     congr 1
     omega
    ·have hf : jFull (.mk 6 n t ns ks) = [123] ++ (jFullL ((6 : Int) == 6) false ns ks ++ [125]) := by rw [jFull]; rfl
     rw [hf, List.append_assoc, List.append_assoc] at h
     rw [hf, show b[p]? = some 123 by simpa using at_drop h 0]
     simp only []
     rw [if_neg hm, if_neg (by decide), if_neg (by decide), if_neg (by decide), if_neg (by decide), if_neg (by decide), if_neg (by decide), if_pos trivial, jMany_written (.inr ⟨rfl, rfl⟩) ih hg hr h]
     simp only [List.length_append, List.length_cons, List.length_nil]
     congr 2
     congr 1
     omega
/-- What is written of a bare value that is right is read as that value. -/
theorem jParse_written {v : JV} {L x : Nat} (hg : JGood L v) (hr : jRight 16 v 0 = some x) (hl : (jFull v).length ≤ 65536) : jParse (jFull v) = .ok v := by
 have h := jValue_written (b := jFull v) 16 v 0 0 x L [] hg hr (by simp) (fun c hc => by cases hc)
 have hb : jBlanks (jFull v) 0 = 0 := by
  obtain ⟨k, n, t, ns, ks⟩ := v
  obtain ⟨c, l, hcl, hc, _⟩ := jFull_head k n t ns ks
  exact jBlanks_stay (by rw [hcl]; rfl) hc
 unfold jParse
 rw [if_neg (by omega), hb, h]
 simp only []
 have := jBlanks_ge (jFull v) (0 + (jFull v).length)
 rw [if_neg (by omega)]
end Go.Proofs.YtlhicfpmlncomaaGreatDoor

namespace Go.Proofs.YtlhicfpmlncomaaGreatDoor
set_option linter.unusedSimpArgs false
set_option linter.unusedVariables false
end Go.Proofs.YtlhicfpmlncomaaGreatDoor

namespace Go.Proofs.YtlhicfpmlncomaaGreatDoor
open Go.Lib
set_option linter.unusedSimpArgs false
set_option linter.unusedVariables false
mutual
/-- A value without what isn't written. -/
def jBare : JV → JV
 | .mk k n t ns ks => .mk k (if k = 3 then n else 0) (if k = 4 then t else []) (if k = 6 then ns else []) (if 5 ≤ k then jBareL ks else [])
def jBareL : List JV → List JV
 | [] => []
 | v :: vs => jBare v :: jBareL vs
end
theorem jBareL_map : ∀ ks : List JV, jBareL ks = ks.map jBare
 | [] => rfl
 | v :: vs => by rw [jBareL, jBareL_map vs, List.map_cons]
theorem jBareL_len : ∀ ks : List JV, (jBareL ks).length = ks.length := fun ks => by rw [jBareL_map, List.length_map]
theorem jTotL_len : ∀ ks : List JV, ks.length ≤ jTotL ks
 | [] => Nat.le_refl _
 | v :: vs => by
  have h1 := jTotL_len vs
  have h2 := jTot_pos v
  rw [jTotL, List.length_cons]
  omega
theorem goodL_bare {f : JV → Nat → Option Nat} {L : Nat} (hf : ∀ v m x, jW v ≤ L → f v m = some x → JGood L (jBare v)) {obj : Bool} : ∀ (ks : List JV) (seen ns : List (List UInt8)) (m x : Nat), jWL ks ≤ L → jRightL f obj seen ns ks m = some x → JGoodL L (jBareL ks)
 | [], _, _, _, _, _, _ => by rw [jBareL, JGoodL]; trivial
 | v :: vs, seen, ns, m, x, hw, h => by
  rw [jWL] at hw
  rw [jRightL] at h
  rw [jBareL, JGoodL]
  split at h
  ·cases h
  ·cases hv : f v m with
   | none => rw [hv] at h; cases h
   | some m' =>
    rw [hv] at h
    exact ⟨hf v m m' (by omega) hv, goodL_bare hf vs _ _ m' x (by omega) h⟩
/-- A value that is right is good, once it is bare. -/
theorem good_bare (L : Nat) : ∀ (d : Nat) (v : JV) (m x : Nat), jW v ≤ L → jRight d v m = some x → JGood L (jBare v)
 | d, .mk k n t ns ks, m, x, hw, h => by
  have htot : m + jTot (.mk k n t ns ks) ≤ 4096 := by
   have h2 := h
   rw [jRight_doc] at h2
   split at h2
   ·rename_i h3; exact h3.2
   ·cases h2
  rw [jTot] at htot
  rw [jW] at hw
  have hkl := jTotL_len ks
  have hns := fun s hs => jWn_mem (ns := ns) (s := s) hs
  rw [jBare, JGood]
  cases d with
  | zero =>
   rw [jRight] at h
   split at h
   ·cases h
   ·rename_i hb
    have h0 : ¬ k < 0 := fun h => hb (.inr (.inl h))
    split at h
    ·rename_i hk
     rw [if_neg (show ¬ k = 6 by omega), if_neg (show ¬ 5 ≤ k by omega)]
     refine ⟨by omega, by omega, fun h => by rw [if_neg h], fun h => by rw [if_neg h], fun _ => rfl, fun _ => rfl, ?_, (fun s hs => by cases hs), by simp, by simp, by rw [JGoodL]; trivial⟩
     split
     ·omega
     ·simp
    ·cases h
  | succ d =>
   rw [jRight] at h
   split at h
   ·cases h
   ·rename_i hb
    have h0 : ¬ k < 0 := fun h => hb (.inr (.inl h))
    have h6 : ¬ 6 < k := fun h => hb (.inr (.inr (.inl h)))
    split at h
    ·rename_i hk
     rw [if_neg (show ¬ k = 6 by omega), if_neg (show ¬ 5 ≤ k by omega)]
     refine ⟨by omega, by omega, fun h => by rw [if_neg h], fun h => by rw [if_neg h], fun _ => rfl, fun _ => rfl, ?_, (fun s hs => by cases hs), by simp, by simp, by rw [JGoodL]; trivial⟩
     split
     ·omega
     ·simp
    ·rename_i hk
     split at h
     ·cases h
     ·rename_i hl
      rw [if_pos (show 5 ≤ k by omega)] at htot
      rw [if_pos (show 5 ≤ k by omega)]
      have hg := goodL_bare (fun v m x => good_bare L d v m x) ks _ _ _ _ (by omega) h
      refine ⟨by omega, by omega, fun h => by rw [if_neg h], fun h => by rw [if_neg h], fun h => by rw [if_neg h], fun h => absurd h hk, ?_, ?_, ?_, by rw [jBareL_len]; omega, hg⟩
      ·split
       ·omega
       ·simp
      ·intro s hs
       split at hs
       ·have := hns s hs; omega
       ·cases hs
      ·split
       ·rename_i h6'
        have : ns.length = ks.length := Decidable.byContradiction fun hh => hl ⟨h6', hh⟩
        omega
       ·simp
end Go.Proofs.YtlhicfpmlncomaaGreatDoor
