/-
 Layer 6, plain words: how many values a value has; which values are right, as the document counts it. No program is named here.
 Layer 6: the document's Count, walked.
 Layer 6: the document's Size and Valid, walked.
 Layer 6: the document's Size, walked.
 Layer 6, plain law: texts that are read are texts. No program is named here.
 Layer 6: the document's Valid, walked.
-/
import Derived.Test.YtlhicfpmlncomaaGreatDoorH17
import Derived.Test.YtlhicfpmlncomaaGreatDoorH02
import Derived.Test.YtlhicfpmlncomaaGreatDoorH16
import Derived.Test.YtlhicfpmlncomaaGreatDoorH07
import Derived.Lib.ValidLaws
namespace Go.Proofs.YtlhicfpmlncomaaGreatDoor
open Go.Lib
set_option linter.unusedSimpArgs false
mutual
/-- How many values a value has in all. -/
def jTot : JV → Nat
 | .mk k _ _ _ ks => if 5 ≤ k then 1 + jTotL ks else 1
def jTotL : List JV → Nat
 | [] => 0
 | v :: vs => jTot v + jTotL vs
end
mutual
/-- .. as far as so many and one more. -/
def jCnt : JV → Nat → Nat
 | .mk k _ _ _ ks, most => if 5 ≤ k then jCntL ks most 1 else 1
def jCntL : List JV → Nat → Nat → Nat
 | [], _, n => n
 | v :: vs, most, n => if n ≤ most then jCntL vs most (n + jCnt v (most - n)) else n
end
mutual
theorem jCnt_tot : ∀ (v : JV) (most : Nat), (jTot v ≤ most → jCnt v most = jTot v) ∧ (most < jTot v → 0 < most → most < jCnt v most) ∧ jCnt v most ≤ jTot v ∧ 1 ≤ jCnt v most
 | .mk k n t ns ks, most => by
  rw [jTot, jCnt]
  by_cases hk : 5 ≤ k
  ·rw [if_pos hk, if_pos hk]
   have := jCntL_tot ks most 1
   exact ⟨fun h => this.1 (by omega), fun h _ => this.2.1 h, this.2.2.1, by have := this.2.2.2; omega⟩
  ·rw [if_neg hk, if_neg hk]
   exact ⟨fun _ => rfl, fun h h0 => by omega, Nat.le_refl _, Nat.le_refl _⟩
theorem jCntL_tot : ∀ (ks : List JV) (most n : Nat), (n + jTotL ks ≤ most → jCntL ks most n = n + jTotL ks) ∧ (most < n + jTotL ks → most < jCntL ks most n) ∧ jCntL ks most n ≤ n + jTotL ks ∧ n ≤ jCntL ks most n
 | [], most, n => by rw [jTotL, jCntL]; exact ⟨fun _ => rfl, fun h => h, Nat.le_refl _, Nat.le_refl _⟩
 | v :: vs, most, n => by
  rw [jTotL, jCntL]
  by_cases hn : n ≤ most
  ·rw [if_pos hn]
   obtain ⟨h1, h2, h3, h4⟩ := jCnt_tot v (most - n)
   obtain ⟨g1, g2, g3, g4⟩ := jCntL_tot vs most (n + jCnt v (most - n))
   refine ⟨fun h => ?_, fun h => ?_, by omega, by omega⟩
   ·have := h1 (by omega)
    have := g1 (by omega)
    omega
   ·by_cases hv : jTot v ≤ most - n
    ·have := h1 hv
     exact g2 (by omega)
    ·by_cases h0 : 0 < most - n
     ·have := h2 (by omega) h0
      omega
     ·omega
  ·rw [if_neg hn]
   exact ⟨fun h => by omega, fun _ => by omega, by omega, Nat.le_refl _⟩
end
theorem jCnt_most {v : JV} {most : Nat} (h0 : 0 < most) : most < jCnt v most ↔ most < jTot v := by
 obtain ⟨h1, h2, h3, _⟩ := jCnt_tot v most
 exact ⟨fun h => by omega, fun h => h2 h h0⟩
mutual
theorem jTot_w : ∀ (v : JV), jTot v ≤ jW v
 | .mk k n t ns ks => by
  have := jTotL_w ks
  rw [jTot, jW]
  split <;> omega
theorem jTotL_w : ∀ (ks : List JV), jTotL ks ≤ jWL ks
 | [] => Nat.le_refl _
 | v :: vs => by
  have h1 := jTot_w v
  have h2 := jTotL_w vs
  rw [jTotL, jWL]
  omega
end
theorem jTotL_drop {ks : List JV} {i : Nat} {v : JV} (hv : ks[i]? = some v) : jTotL (ks.drop i) = jTot v + jTotL (ks.drop (i + 1)) := by
 rw [List.drop_eq_getElem_cons (List.getElem?_eq_some_iff.1 hv).1, (List.getElem?_eq_some_iff.1 hv).2, jTotL]
theorem jCntL_drop {ks : List JV} {i most n : Nat} {v : JV} (hv : ks[i]? = some v) : jCntL (ks.drop i) most n = if n ≤ most then jCntL (ks.drop (i + 1)) most (n + jCnt v (most - n)) else n := by
 rw [List.drop_eq_getElem_cons (List.getElem?_eq_some_iff.1 hv).1, (List.getElem?_eq_some_iff.1 hv).2, jCntL]
/-- What no value is right with. -/
def jBadD (k n : Int) (t : List UInt8) : Prop := k < 0 ∨ 6 < k ∨ 9007199254740991 < n ∨ n < -9007199254740991 ∨ validD t = false
instance (k n : Int) (t : List UInt8) : Decidable (jBadD k n t) := by unfold jBadD; exact inferInstance
def jDRL (f : JV → Bool) (obj : Bool) : List (List UInt8) → List (List UInt8) → List JV → Bool
 | _, _, [] => true
 | seen, ns, v :: vs => f v && (!(obj && decide (ns.headD [] ∈ seen)) && (!(obj && !validD (ns.headD [])) && jDRL f obj (seen ++ [ns.headD []]) ns.tail vs))
/-- Is a value right, where so many lists and objects may still be nested, whatever number of values it has? -/
def jDR : Nat → JV → Bool
 | 0, .mk k n t _ _ => decide (¬ jBadD k n t) && decide (k < 5)
 | d + 1, .mk k n t ns ks => decide (¬ jBadD k n t) && (decide (k < 5) || (!decide (k = 6 ∧ ns.length ≠ ks.length) && jDRL (jDR d) (k == 6) [] ns ks))
theorem jBad_iff {k n : Int} {t : List UInt8} {m : Nat} : jBad k n t m ↔ 4096 < m + 1 ∨ jBadD k n t := by
 unfold jBad jBadD
 constructor
 ·rintro (h | h | h | h | h | h) <;> simp [h]
 ·rintro (h | h | h | h | h | h) <;> simp [h]
theorem jTot_pos (v : JV) : 1 ≤ jTot v := by cases v; rw [jTot]; split <;> omega
theorem jRightL_doc {f : JV → Nat → Option Nat} {g : JV → Bool} (hf : ∀ v m, f v m = if g v = true ∧ m + jTot v ≤ 4096 then some (m + jTot v) else none) {obj : Bool} : ∀ (ks : List JV) (seen ns : List (List UInt8)) (m : Nat),
  m ≤ 4096 → jRightL f obj seen ns ks m = if jDRL g obj seen ns ks = true ∧ m + jTotL ks ≤ 4096 then some (m + jTotL ks) else none
 | [], seen, ns, m, hm => by rw [jRightL, jDRL, jTotL, if_pos ⟨rfl, hm⟩]; rfl
 | v :: vs, seen, ns, m, hm => by
  rw [jRightL, jDRL, jTotL]
  by_cases hn : obj = true ∧ (validD (ns.headD []) = false ∨ ns.headD [] ∈ seen)
  ·rw [if_pos hn, if_neg]
   rintro ⟨h, _⟩
   simp only [Bool.and_eq_true, Bool.not_eq_true', Bool.and_eq_false_iff, decide_eq_false_iff_not, Bool.not_eq_false'] at h
   obtain ⟨_, h1, h2, _⟩ := h
   rcases hn.2 with h3 | h3
   ·rcases h2 with h2 | h2
    ·rw [hn.1] at h2; cases h2
    ·rw [h3] at h2; cases h2
   ·rcases h1 with h1 | h1
    ·rw [hn.1] at h1; cases h1
    ·exact h1 h3
  ·rw [if_neg hn, hf]
   have h1 : (!(obj && decide (ns.headD [] ∈ seen))) = true := by
    cases obj with
    | false => rfl
    | true => simp only [Bool.true_and, Bool.not_eq_true', decide_eq_false_iff_not]; exact fun h => hn ⟨rfl, .inr h⟩
   have h2 : (!(obj && !validD (ns.headD []))) = true := by
    cases obj with
    | false => rfl
    | true => simp only [Bool.true_and, Bool.not_not]; cases hv : validD (ns.headD []); exact absurd ⟨rfl, .inl hv⟩ hn; rfl
   rw [h1, h2]
   simp only [Bool.true_and]
   by_cases hg : g v = true ∧ m + jTot v ≤ 4096
   ·rw [if_pos hg]
    simp only []
    rw [jRightL_doc hf vs _ _ _ hg.2, hg.1]
    simp only [Bool.true_and, Nat.add_assoc]
   ·rw [if_neg hg, if_neg]
    rintro ⟨h3, h4⟩
    rw [Bool.and_eq_true] at h3
    exact hg ⟨h3.1, by omega⟩
/-- The program's count and the document's agree. -/
theorem jRight_doc : ∀ (d : Nat) (v : JV) (m : Nat), jRight d v m = if jDR d v = true ∧ m + jTot v ≤ 4096 then some (m + jTot v) else none
 | 0, .mk k n t ns ks, m => by
  rw [jRight, jDR, jTot]
  by_cases hb : jBad k n t m
  ·rw [if_pos hb, if_neg]
   rintro ⟨h, h2⟩
   rw [Bool.and_eq_true, decide_eq_true_eq, decide_eq_true_eq] at h
   rcases jBad_iff.1 hb with h1 | h1
   ·split at h2 <;> omega
   ·exact h.1 h1
  ·rw [if_neg hb]
   have hb2 : ¬ jBadD k n t := fun h => hb (jBad_iff.2 (.inr h))
   have hm : ¬ 4096 < m + 1 := fun h => hb (jBad_iff.2 (.inl h))
   by_cases hk : k < 5
   ·rw [if_pos hk, if_neg (show ¬ 5 ≤ k by omega), if_pos ⟨by simp [hb2, hk], by omega⟩]
   ·rw [if_neg hk, if_neg (by simp [hk])]
 | d + 1, .mk k n t ns ks, m => by
  rw [jRight, jDR, jTot]
  by_cases hb : jBad k n t m
  ·rw [if_pos hb, if_neg]
   rintro ⟨h, h2⟩
   rw [Bool.and_eq_true, decide_eq_true_eq] at h
   rcases jBad_iff.1 hb with h1 | h1
   ·split at h2 <;> omega
   ·exact h.1 h1
  ·rw [if_neg hb]
   have hb2 : ¬ jBadD k n t := fun h => hb (jBad_iff.2 (.inr h))
   have hm : ¬ 4096 < m + 1 := fun h => hb (jBad_iff.2 (.inl h))
   by_cases hk : k < 5
   ·rw [if_pos hk, if_neg (show ¬ 5 ≤ k by omega), if_pos ⟨by simp [hb2, hk], by omega⟩]
   ·rw [if_neg hk, if_pos (show 5 ≤ k by omega)]
    by_cases hl : k = 6 ∧ ns.length ≠ ks.length
    ·rw [if_pos hl, if_neg (by simp [hk, hl])]
    ·rw [if_neg hl, jRightL_doc (jRight_doc d) ks [] ns (m + 1) (by omega)]
     have e1 : (decide (¬ jBadD k n t) && (decide (k < 5) || (!decide (k = 6 ∧ ns.length ≠ ks.length) && jDRL (jDR d) (k == 6) [] ns ks))) = jDRL (jDR d) (k == 6) [] ns ks := by
      rw [decide_eq_true hb2, decide_eq_false hk, decide_eq_false hl]; rfl
     rw [e1]
     simp only [Nat.add_assoc]
/-- What the document's Write tells is what the program's does. -/
theorem jWrite_doc (v : JV) : jWrite v = if 4096 < jCnt v 4096 ∨ jDR 16 v = false then ([], 1) else if 65536 < (jFull v).length then ([], 8) else (jFull v, 0) := by
 unfold jWrite
 rw [jRight_doc, Nat.zero_add]
 by_cases h : 4096 < jCnt v 4096 ∨ jDR 16 v = false
 ·rw [if_pos h, if_neg]
  rintro ⟨h1, h2⟩
  rcases h with h | h
  ·have := (jCnt_most (v := v) (by decide)).1 h; omega
  ·rw [h] at h1; cases h1
 ·rw [if_neg h, if_pos]
  refine ⟨?_, ?_⟩
  ·cases hd : jDR 16 v
   ·exact absurd (.inr hd) h
   ·rfl
  ·rcases Nat.lt_or_ge 4096 (jTot v) with h1 | h1
   ·exact absurd (.inl ((jCnt_most (by decide)).2 h1)) h
   ·exact h1
end Go.Proofs.YtlhicfpmlncomaaGreatDoor

namespace Go.Proofs.YtlhicfpmlncomaaGreatDoor
open Go.RowKit
set_option linter.unusedSimpArgs false
theorem wrap64_sub {a b : Nat} (h : b ≤ a) (ha : a ≤ 1000000000) : IntKind.i64.wrap ((a : Int) - (b : Int)) = ((a - b : Nat) : Int) := by
 simp [IntKind.wrap, IntKind.bits, IntKind.signed]
 split <;> omega
theorem wrap64_add {a b : Nat} (h : a + b ≤ 1000000000) : IntKind.i64.wrap ((a : Int) + (b : Int)) = ((a + b : Nat) : Int) := by
 simp [IntKind.wrap, IntKind.bits, IntKind.signed]
 split <;> omega
set_option maxRecDepth 20000 in
set_option maxHeartbeats 12800000 in
theorem rcount_any (N : Nat) : ∀ (v : JV) (cs : List Value) (w : World) (most : Nat), SizeOf.sizeOf v ≤ N → VRd w (· < w.heap.size) v cs → JSm v → most ≤ 1000000 → jTot v ≤ 10000000 →
  Calls Tryz.prog 38 #[.agg cs.toArray, .int .i64 (most : Int)] w fun e w' => e = .returned (.int .i64 (jCnt v most : Int)) ∧ Below w.heap.size w w' := by
 induction N with
 | zero => intro v _ _ _ h; cases v; simp only [JV.mk.sizeOf_spec] at h; omega
 | succ N ih =>
  intro v cs w most hN hv hsm hmost htot
  obtain ⟨k, n, t, ns, ks⟩ := v
  rw [VRd] at hv
  obtain ⟨An, nn, cn, Ak, nk, ck, xk, hcn, hck, rfl, hrn, hrk, hvk⟩ := hv
  rw [JSm] at hsm
  obtain ⟨hs1, hs2, hs3⟩ := hsm
  have hnk : ks.length = nk := by have := hrk.len; rw [hvk.len] at this; omega
  rw [hnk] at hs2
  replace hnk := box hnk
  replace hvk := box hvk
  clear hrn hs1
  obtain ⟨R, hR⟩ : ∃ R, R = jCnt (.mk k n t ns ks) most := ⟨_, rfl⟩
  rw [← hR]
  have hF0 := Fr.nil w
  rw [jTot] at htot
  rw [jCnt] at hR
  by_cases hk5 : 5 ≤ k
  ·rw [if_pos hk5] at hR htot
   have d5 : decide ((5 : Int) ≤ k) = true := decide_eq_true hk5
   replace hR := box hR
   replace hk5 := box hk5
   replace htot := box htot
   go_enter Tryz.func38, Tryz.ntmps38
   go_wp2_with (first | ((with_reducible refine lst (by with_unfolding_all rfl) (wp_fbox hF0 (cs := (vlL k n ⟨t.toArray⟩ (.slice An nn cn) (.slice Ak nk ck))) rfl (by with_unfolding_all rfl) (by with_unfolding_all rfl) ?_)); intro w1 g1 hF1 hz1))
   clear hF0
   go_loopg [5, 6] nk (fun gk a s wr => ∃ (i m : Nat), i ≤ nk ∧ Box (gk = nk - i) ∧ a = .int .i64 (m : Int) ∧ s = .int .i64 (i : Int) ∧ Box (R = jCntL (ks.drop i) most m) ∧ Box (m + jTotL (ks.drop i) ≤ 10000000) ∧ Fr [] w wr [.blk g1 51 (vlL k n ⟨t.toArray⟩ (.slice An nn cn) (.slice Ak nk ck))])
   case atStart => exact ⟨0, 1, by omega, box rfl, rfl, rfl, hR, htot, hF1⟩
   case round =>
    clear hF1
    obtain ⟨i, m, hi, hk, rfl, rfl, hRi, hmT, hF⟩ := hrel
    have hm7 : m ≤ 10000000 := by have := hmT.out; omega
    by_cases hlt : i < nk
    ·obtain ⟨vi, hvi⟩ : ∃ vi, ks[i]? = some vi := ⟨ks[i]'(by rw [hnk.out]; exact hlt), by simp⟩
     by_cases hmm : m ≤ most
     ·obtain ⟨ci, hci, hvri⟩ := hvk.out.at hvi
      have hcil := box hvri.len
      replace hci := box hci
      have hsi := hs3.at hvi
      have htd := jTotL_drop hvi
      have hmt := hmT.out
      rw [htd] at hmt
      have hsz : SizeOf.sizeOf vi ≤ N := by have := JV.size_kid (k := k) (n := n) (t := t) (ns := ns) hvi; omega
      have hq2' := (jCnt_tot vi (most - m)).2.2.1
      have hRd := hRi.out
      rw [jCntL_drop hvi, if_pos hmm] at hRd
      have ihc' := fun w' (hb : Below w.heap.size w w') => ih vi ci w' (most - m) hsz (hvri.on hb) hsi (by omega) (by omega)
      obtain ⟨q, hq⟩ : ∃ q, q = jCnt vi (most - m) := ⟨_, rfl⟩
      rw [← hq] at hq2' hRd ihc'
      have ihc := box ihc'
      have hR2 := box hRd
      have hq2 : Box (m + q + jTotL (ks.drop (i + 1)) ≤ 10000000) := box (by omega)
      have hw1 := wrap64_sub hmm (by omega)
      have hw2 := wrap64_add (a := m) (b := q) (by omega)
      have d6 : decide ((m : Int) ≤ (most : Int)) = true := decide_eq_true (by omega)
      clear hRd ihc' hq2' hmt htd
      replace hvi := box hvi
      replace hvri := box hvri
      replace hsi := box hsi
      replace hs3 := box hs3
      replace hsz := box hsz
      replace hN := box hN
      replace hq := box hq
      have hrk' := hrk.below hF.below
      go_wp2_with (first | (with_reducible refine lst (by with_unfolding_all rfl) (wp_fld0 hF Tryz.underlying49 rfl (by with_unfolding_all exact ⟨_, rfl, rfl⟩) rfl ?_)) | (with_reducible refine lst (by with_unfolding_all rfl) (wp_fld0 hF Tryz.underlying3 rfl (by with_unfolding_all exact ⟨_, rfl, rfl⟩) rfl ?_)) | (with_reducible refine lst (by with_unfolding_all rfl) (wp_indexAddr T_rvals hrk' (by with_unfolding_all exact ⟨_, _, _, _, rfl, rfl, rfl⟩) (by omega) (by omega) ?_)) | (with_reducible refine lst (by with_unfolding_all rfl) (wp_loadA hrk' Tryz.underlying51 rfl (by with_unfolding_all exact ⟨_, rfl, rfl⟩) (ds := ci) (by rw [hcil.out]; kernel_rfl) (by rw [hcil.out]; with_unfolding_all exact hci.out) ?_)))
      refine (ihc.out _ hF.below).mono ?_
      rintro e w2 ⟨rfl, hb2⟩
      have hF2 := hF.call hb2
      go_wp2_with fail
      go_roundg (nk - (i + 1))
      case rel => exact ⟨i + 1, m + q, by omega, box rfl, by go_num, by go_num, hR2, hq2, hF2⟩
      case measure => have := hk.out; omega
     ·have d6 : decide ((m : Int) ≤ (most : Int)) = false := decide_eq_false (by omega)
      have hRd := hRi.out
      rw [jCntL_drop hvi, if_neg hmm] at hRd
      clear hRi
      replace hvi := box hvi
      replace hRd := box hRd
      go_wp2_with (first | (with_reducible refine lst (by with_unfolding_all rfl) (wp_fld0 hF Tryz.underlying49 rfl (by with_unfolding_all exact ⟨_, rfl, rfl⟩) rfl ?_)) | (with_reducible refine lst (by with_unfolding_all rfl) (wp_fld0 hF Tryz.underlying3 rfl (by with_unfolding_all exact ⟨_, rfl, rfl⟩) rfl ?_)))
      go_ret
      exact ⟨by rw [hRd.out]; rfl, hF.below⟩
    ·have hRd := hRi.out
     rw [List.drop_of_length_le (by rw [hnk.out]; omega), jCntL] at hRd
     clear hRi
     replace hRd := box hRd
     go_wp2_with (first | (with_reducible refine lst (by with_unfolding_all rfl) (wp_fld0 hF Tryz.underlying49 rfl (by with_unfolding_all exact ⟨_, rfl, rfl⟩) rfl ?_)) | (with_reducible refine lst (by with_unfolding_all rfl) (wp_fld0 hF Tryz.underlying3 rfl (by with_unfolding_all exact ⟨_, rfl, rfl⟩) rfl ?_)))
     go_ret
     exact ⟨by rw [hRd.out]; rfl, hF.below⟩
  ·rw [if_neg hk5] at hR
   have d5 : decide ((5 : Int) ≤ k) = false := decide_eq_false hk5
   replace hR := box hR
   replace hk5 := box hk5
   clear htot
   go_enter Tryz.func38, Tryz.ntmps38
   go_wp2_with (first | ((with_reducible refine lst (by with_unfolding_all rfl) (wp_fbox hF0 (cs := (vlL k n ⟨t.toArray⟩ (.slice An nn cn) (.slice Ak nk ck))) rfl (by with_unfolding_all rfl) (by with_unfolding_all rfl) ?_)); intro w1 g1 hF1 hz1))
   clear hF0
   go_loopg [5, 6] 0 (fun gk a s wr => a = .int .i64 1 ∧ s = .int .i64 0 ∧ wr = w1)
   case atStart => exact ⟨rfl, rfl, rfl⟩
   case round =>
    obtain ⟨rfl, rfl, rfl⟩ := hrel
    by_cases hlt : 0 < nk
    ·by_cases hm1 : 1 ≤ most
     ·have e1 : decide ((1 : Int) ≤ (most : Int)) = true := decide_eq_true (by omega)
      go_wp2_with (first | (with_reducible refine lst (by with_unfolding_all rfl) (wp_fld0 hF1 Tryz.underlying49 rfl (by with_unfolding_all exact ⟨_, rfl, rfl⟩) rfl ?_)) | (with_reducible refine lst (by with_unfolding_all rfl) (wp_fld0 hF1 Tryz.underlying3 rfl (by with_unfolding_all exact ⟨_, rfl, rfl⟩) rfl ?_)))
      go_ret
      exact ⟨by rw [hR.out]; rfl, hF1.below⟩
     ·have e1 : decide ((1 : Int) ≤ (most : Int)) = false := decide_eq_false (by omega)
      go_wp2_with (first | (with_reducible refine lst (by with_unfolding_all rfl) (wp_fld0 hF1 Tryz.underlying49 rfl (by with_unfolding_all exact ⟨_, rfl, rfl⟩) rfl ?_)) | (with_reducible refine lst (by with_unfolding_all rfl) (wp_fld0 hF1 Tryz.underlying3 rfl (by with_unfolding_all exact ⟨_, rfl, rfl⟩) rfl ?_)))
      go_ret
      exact ⟨by rw [hR.out]; rfl, hF1.below⟩
    ·go_wp2_with (first | (with_reducible refine lst (by with_unfolding_all rfl) (wp_fld0 hF1 Tryz.underlying49 rfl (by with_unfolding_all exact ⟨_, rfl, rfl⟩) rfl ?_)) | (with_reducible refine lst (by with_unfolding_all rfl) (wp_fld0 hF1 Tryz.underlying3 rfl (by with_unfolding_all exact ⟨_, rfl, rfl⟩) rfl ?_)))
     go_ret
     exact ⟨by rw [hR.out]; rfl, hF1.below⟩
end Go.Proofs.YtlhicfpmlncomaaGreatDoor

namespace Go.Proofs.YtlhicfpmlncomaaGreatDoor
open Go.RowKit Go.Lib
set_option linter.unusedSimpArgs false
/-- The number that a sign's bytes make, behind its first. -/
def szv (n : Int) (xs : List UInt8) : Int := xs.foldl (fun n x => n * 64 + (x.toNat : Int) - 128) n
theorem szv_snoc (n : Int) (xs : List UInt8) (x : UInt8) : szv n (xs ++ [x]) = szv n xs * 64 + (x.toNat : Int) - 128 := by unfold szv; rw [List.foldl_append]; rfl
theorem jSize1 {c : UInt8} {t : List UInt8} (h : c.toNat < 128) : jSize (c :: t) = 1 := by rw [jSize.eq_def]; simp only []; rw [if_pos h]
theorem jSize0 {c : UInt8} {t : List UInt8} (h : 128 ≤ c.toNat ∧ c.toNat < 194 ∨ 245 ≤ c.toNat) : jSize (c :: t) = 0 := by
 rw [jSize.eq_def]
 simp only []
 rw [if_neg (by omega)]
 by_cases h1 : c.toNat < 194
 ·rw [if_pos h1]
 ·rw [if_neg h1, if_neg (by omega), if_neg (by omega), if_neg (by omega)]
theorem cont_eq (x : UInt8) : jCont x = true ↔ 128 ≤ x.toNat ∧ x.toNat ≤ 191 := by unfold jCont; rw [Bool.and_eq_true, decide_eq_true_eq, decide_eq_true_eq]
/-- What is told of a sign of k bytes of which the first is c. -/
def szOk (k : Nat) (base : Nat) (c : UInt8) (xs : List UInt8) : Prop :=
 xs.all jCont = true ∧ (k = 3 → ¬ (szv ((c.toNat : Int) - base) xs < 2048 ∨ 55296 ≤ szv ((c.toNat : Int) - base) xs ∧ szv ((c.toNat : Int) - base) xs < 57344)) ∧ (k = 4 → ¬ (szv ((c.toNat : Int) - base) xs < 65536 ∨ 1114111 < szv ((c.toNat : Int) - base) xs))
instance (k base : Nat) (c : UInt8) (xs : List UInt8) : Decidable (szOk k base c xs) := by unfold szOk; exact inferInstance
theorem jSize_k {c : UInt8} {t : List UInt8} {k base : Nat} (h : k = 2 ∧ base = 192 ∧ 194 ≤ c.toNat ∧ c.toNat < 224 ∨ k = 3 ∧ base = 224 ∧ 224 ≤ c.toNat ∧ c.toNat < 240 ∨ k = 4 ∧ base = 240 ∧ 240 ≤ c.toNat ∧ c.toNat < 245) :
  jSize (c :: t) = if k ≤ t.length + 1 ∧ szOk k base c (t.take (k - 1)) then k else 0 := by
 rw [jSize.eq_def]
 simp only []
 rw [if_neg (by omega), if_neg (by omega)]
 rcases h with ⟨rfl, rfl, h1, h2⟩ | ⟨rfl, rfl, h1, h2⟩ | ⟨rfl, rfl, h1, h2⟩
 ·rw [if_pos h2]
  match t with
  | [] => simp
  | x :: t => simp [szOk]
 ·rw [if_neg (by omega), if_pos h2]
  match t with
  | [] => simp
  | [x] => simp
  | x :: y :: t =>
   simp only [List.length_cons, szOk, szv, List.take_succ_cons, List.take_zero, List.all_cons, List.all_nil, Bool.and_true, Bool.and_eq_true, List.foldl_cons, List.foldl_nil]
   by_cases hx : jCont x = true
   ·by_cases hy : jCont y = true
    ·have h3 := (cont_eq x).1 hx
     have h4 := (cont_eq y).1 hy
     congr 1
     simp only [hx, hy, true_and, eq_iff_iff]
     constructor
     ·intro h; refine ⟨by omega, fun _ => by omega, fun h => by omega⟩
     ·intro h; have := h.2.1 trivial; omega
    ·simp [hy]
   ·simp [hx]
 ·rw [if_neg (by omega), if_neg (by omega), if_pos h2]
  match t with
  | [] => simp
  | [x] => simp
  | [x, y] => simp
  | x :: y :: z :: t =>
   simp only [List.length_cons, szOk, szv, List.take_succ_cons, List.take_zero, List.all_cons, List.all_nil, Bool.and_true, Bool.and_eq_true, List.foldl_cons, List.foldl_nil]
   by_cases hx : jCont x = true
   ·by_cases hy : jCont y = true
    ·by_cases hz : jCont z = true
     ·have h3 := (cont_eq x).1 hx
      have h4 := (cont_eq y).1 hy
      have h5 := (cont_eq z).1 hz
      congr 1
      simp only [hx, hy, hz, true_and, eq_iff_iff]
      constructor
      ·intro h; refine ⟨by omega, fun h => by omega, fun _ => by omega⟩
      ·intro h; have := h.2.2 trivial; omega
     ·simp [hz]
    ·simp [hy]
   ·simp [hx]
end Go.Proofs.YtlhicfpmlncomaaGreatDoor

namespace Go.Proofs.YtlhicfpmlncomaaGreatDoor
open Go.RowKit
set_option linter.unusedSimpArgs false
set_option maxRecDepth 20000 in
set_option maxHeartbeats 12800000 in
theorem rsize_pos (A : Option Addr) (n c : Nat) (c0 : UInt8) (t : List UInt8) (w : World) (S : Nat → Prop) (hn : n ≤ 140737488355328) (hr : Rd w S A 1 n ((c0 :: t).map bv)) :
  Calls Tryz.prog 104 #[.slice A n c] w fun e w' => e = .returned (.int .i64 (jSize (c0 :: t) : Int)) ∧ w = w' := by
 have hl0 := hr.bytes_len
 rw [List.length_cons] at hl0
 have hl := box hl0
 have hn0 : 0 < n := by omega
 have hz : ((n : Int) == 0) = false := by rw [beq_eq_false_iff_ne]; omega
 clear hl0
 have hc0 : Box ((c0 :: t)[0]? = some c0) := box rfl
 have hcl := c0.toNat_lt
 by_cases k1 : c0.toNat < 128
 ·have hend : Box (jSize (c0 :: t) = 1) := box (jSize1 k1)
  have d128 : decide ((128 : Int) ≤ (c0.toNat : Int)) = false := decide_eq_false (by omega)
  have hn1 : ¬ (n : Int) < 1 := by omega
  replace k1 := box k1
  go_enter Tryz.func104, Tryz.ntmps104
  go_wp2_with (first | (with_reducible refine lst (by with_unfolding_all rfl) (wp_indexAddr T_u8 hr (by with_unfolding_all exact ⟨_, _, _, _, rfl, rfl, rfl⟩) (by omega) (by omega) ?_)) | (with_reducible refine lst (by with_unfolding_all rfl) (wp_loadC hr hc0 Tryz.underlying5 rfl (by with_unfolding_all exact ⟨_, rfl, rfl⟩) (by first | (simp; done) | (simp; omega) | omega) ?_)))
  go_loopg [5] 0 (fun gk b wr => b = .int .i64 1 ∧ wr = w)
  case atStart => exact ⟨rfl, rfl⟩
  case round =>
   obtain ⟨rfl, rfl⟩ := hrel
   go_wp2
   go_ret
   exact ⟨by rw [hend.out]; rfl, rfl⟩
 have d128 : decide ((128 : Int) ≤ (c0.toNat : Int)) = true := decide_eq_true (by omega)
 by_cases k2 : c0.toNat < 194
 ·have hend : Box (jSize (c0 :: t) = 0) := box (jSize0 (.inl ⟨by omega, k2⟩))
  have d194 : decide ((194 : Int) ≤ (c0.toNat : Int)) = false := decide_eq_false (by omega)
  have d224 : decide ((224 : Int) ≤ (c0.toNat : Int)) = false := decide_eq_false (by omega)
  have d240 : decide ((240 : Int) ≤ (c0.toNat : Int)) = false := decide_eq_false (by omega)
  replace k1 := box k1
  replace k2 := box k2
  go_enter Tryz.func104, Tryz.ntmps104
  go_wp2_with (first | (with_reducible refine lst (by with_unfolding_all rfl) (wp_indexAddr T_u8 hr (by with_unfolding_all exact ⟨_, _, _, _, rfl, rfl, rfl⟩) (by omega) (by omega) ?_)) | (with_reducible refine lst (by with_unfolding_all rfl) (wp_loadC hr hc0 Tryz.underlying5 rfl (by with_unfolding_all exact ⟨_, rfl, rfl⟩) (by first | (simp; done) | (simp; omega) | omega) ?_)))
  go_ret
  exact ⟨by rw [hend.out]; rfl, rfl⟩
 by_cases k3 : 245 ≤ c0.toNat
 ·have hend : Box (jSize (c0 :: t) = 0) := box (jSize0 (.inr k3))
  have d194 : decide ((194 : Int) ≤ (c0.toNat : Int)) = true := decide_eq_true (by omega)
  have e224 : decide ((c0.toNat : Int) < 224) = false := decide_eq_false (by omega)
  have d224 : decide ((224 : Int) ≤ (c0.toNat : Int)) = true := decide_eq_true (by omega)
  have e240 : decide ((c0.toNat : Int) < 240) = false := decide_eq_false (by omega)
  have d240 : decide ((240 : Int) ≤ (c0.toNat : Int)) = true := decide_eq_true (by omega)
  have e245 : decide ((c0.toNat : Int) < 245) = false := decide_eq_false (by omega)
  replace k1 := box k1
  replace k2 := box k2
  replace k3 := box k3
  go_enter Tryz.func104, Tryz.ntmps104
  go_wp2_with (first | (with_reducible refine lst (by with_unfolding_all rfl) (wp_indexAddr T_u8 hr (by with_unfolding_all exact ⟨_, _, _, _, rfl, rfl, rfl⟩) (by omega) (by omega) ?_)) | (with_reducible refine lst (by with_unfolding_all rfl) (wp_loadC hr hc0 Tryz.underlying5 rfl (by with_unfolding_all exact ⟨_, rfl, rfl⟩) (by first | (simp; done) | (simp; omega) | omega) ?_)))
  go_ret
  exact ⟨by rw [hend.out]; rfl, rfl⟩
 have d194 : decide ((194 : Int) ≤ (c0.toNat : Int)) = true := decide_eq_true (by omega)
 by_cases k4 : c0.toNat < 224
 ·skip
  have e224 : decide ((c0.toNat : Int) < 224) = true := decide_eq_true (by omega)
  have hj := box (jSize_k (c := c0) (t := t) (k := 2) (base := 192) (by omega))
  have hb0 : 0 ≤ (c0.toNat : Int) - 192 ∧ (c0.toNat : Int) - 192 ≤ 31 := by omega
  have hb1 : 192 ≤ c0.toNat := by omega
  replace k1 := box k1
  replace k2 := box k2
  replace k3 := box k3
  replace k4 := box k4
  by_cases hshort : n < 2
  ·have hend : Box (jSize (c0 :: t) = 0) := box (by rw [hj.out, if_neg (by have := hl.out; omega)])
   have hn1 : (n : Int) < 2 := by omega
   go_enter Tryz.func104, Tryz.ntmps104
   go_wp2_with (first | (with_reducible refine lst (by with_unfolding_all rfl) (wp_indexAddr T_u8 hr (by with_unfolding_all exact ⟨_, _, _, _, rfl, rfl, rfl⟩) (by omega) (by omega) ?_)) | (with_reducible refine lst (by with_unfolding_all rfl) (wp_loadC hr hc0 Tryz.underlying5 rfl (by with_unfolding_all exact ⟨_, rfl, rfl⟩) (by first | (simp; done) | (simp; omega) | omega) ?_)))
   go_ret
   exact ⟨by rw [hend.out]; rfl, rfl⟩
  have hn1 : ¬ (n : Int) < 2 := by omega
  replace hshort := box hshort
  go_enter Tryz.func104, Tryz.ntmps104
  go_wp2_with (first | (with_reducible refine lst (by with_unfolding_all rfl) (wp_indexAddr T_u8 hr (by with_unfolding_all exact ⟨_, _, _, _, rfl, rfl, rfl⟩) (by omega) (by omega) ?_)) | (with_reducible refine lst (by with_unfolding_all rfl) (wp_loadC hr hc0 Tryz.underlying5 rfl (by with_unfolding_all exact ⟨_, rfl, rfl⟩) (by first | (simp; done) | (simp; omega) | omega) ?_)))
  go_loopg [4, 5] 1 (fun gk a b wr => ∃ (i : Nat) (m : Int), 1 ≤ i ∧ i ≤ 2 ∧ Box (gk = 2 - i) ∧ a = .int .i64 m ∧ b = .int .i64 (i : Int) ∧ Box (m = szv ((c0.toNat : Int) - (192 : Nat)) (t.take (i - 1))) ∧ Box ((t.take (i - 1)).all jCont = true) ∧ 0 ≤ m ∧ m ≤ 8388607 ∧ Box ((i = 1 → m ≤ 31) ∧ (i = 2 → m ≤ 2047) ∧ (i = 3 → m ≤ 131071)) ∧ wr = w)
  case atStart => exact ⟨1, (c0.toNat : Int) - 192, by omega, by omega, box rfl, by go_num, rfl, box rfl, box rfl, by omega, by omega, box ⟨fun _ => by omega, fun h => by omega, fun h => by omega⟩, rfl⟩
  case round =>
   obtain ⟨i, m, hi1, hi, hk, rfl, rfl, hm, hco, hm0, hm1, hmb, rfl⟩ := hrel
   by_cases hlt : i < 2
   ·obtain ⟨x, hx'⟩ : ∃ x, t[i - 1]? = some x := ⟨t[i - 1]'(by have := hl.out; omega), by simp⟩
    have hx : Box ((c0 :: t)[i]? = some x) := box (by obtain ⟨j, rfl⟩ : ∃ j, i = j + 1 := ⟨i - 1, by omega⟩; simpa using hx')
    have hm2 : m ≤ 131071 := by have h := hmb.out; rcases (by omega : i = 1 ∨ i = 2 ∨ i = 3) with h1 | h1 | h1; exact Int.le_trans (h.1 h1) (by omega); exact Int.le_trans (h.2.1 h1) (by omega); exact h.2.2 h1
    have hxl := x.toNat_lt
    have hsn : Box (t.take i = t.take (i - 1) ++ [x]) := box (by obtain ⟨j, rfl⟩ : ∃ j, i = j + 1 := ⟨i - 1, by omega⟩; rw [List.take_add_one]; simp only [Nat.add_sub_cancel] at hx' ⊢; rw [hx']; rfl)
    replace hx' := box hx'
    by_cases hc : 128 ≤ x.toNat ∧ x.toNat ≤ 191
    ·have f1 : decide ((x.toNat : Int) < 128) = false := decide_eq_false (by omega)
     have f2 : decide ((191 : Int) < (x.toNat : Int)) = false := decide_eq_false (by omega)
     go_wp2_with (first | (with_reducible refine lst (by with_unfolding_all rfl) (wp_indexAddr T_u8 hr (by with_unfolding_all exact ⟨_, _, _, _, rfl, rfl, rfl⟩) (by omega) (by omega) ?_)) | (with_reducible refine lst (by with_unfolding_all rfl) (wp_loadC hr hc0 Tryz.underlying5 rfl (by with_unfolding_all exact ⟨_, rfl, rfl⟩) (by first | (simp; done) | (simp; omega) | omega) ?_)) | (with_reducible refine lst (by with_unfolding_all rfl) (wp_loadC hr hx Tryz.underlying5 rfl (by with_unfolding_all exact ⟨_, rfl, rfl⟩) (by first | (simp; done) | (simp; omega) | omega) ?_)))
     go_roundg (2 - (i + 1))
     case rel => exact ⟨i + 1, m * 64 + (x.toNat : Int) - 128, by omega, by omega, box rfl, by go_num, by go_num, box (by rw [Nat.add_sub_cancel, hsn.out, szv_snoc, hm.out]), box (by rw [Nat.add_sub_cancel, hsn.out, List.all_append, hco.out]; simp only [List.all_cons, List.all_nil, Bool.and_true, Bool.true_and]; exact (cont_eq x).2 hc), by omega, by omega, box (by have h := hmb.out; refine ⟨fun h1 => by omega, fun h1 => ?_, fun h1 => ?_⟩; have := h.1 (by omega); omega; have := h.2.1 (by omega); omega), rfl⟩
     case measure => have := hk.out; omega
    ·have hend : Box (jSize (c0 :: t) = 0) := box (by
      rw [hj.out, if_neg]
      intro h
      have h2 := h.2.1
      have h3 : x ∈ t.take (2 - 1) := by
       refine List.mem_of_getElem? (i := i - 1) ?_
       rw [List.getElem?_take, if_pos (by omega)]; exact hx'.out
      have := (cont_eq x).1 (List.all_eq_true.1 h2 x h3)
      exact hc this)
     by_cases hc2 : x.toNat < 128
     ·have f1 : decide ((x.toNat : Int) < 128) = true := decide_eq_true (by omega)
      go_wp2_with (first | (with_reducible refine lst (by with_unfolding_all rfl) (wp_indexAddr T_u8 hr (by with_unfolding_all exact ⟨_, _, _, _, rfl, rfl, rfl⟩) (by omega) (by omega) ?_)) | (with_reducible refine lst (by with_unfolding_all rfl) (wp_loadC hr hc0 Tryz.underlying5 rfl (by with_unfolding_all exact ⟨_, rfl, rfl⟩) (by first | (simp; done) | (simp; omega) | omega) ?_)) | (with_reducible refine lst (by with_unfolding_all rfl) (wp_loadC hr hx Tryz.underlying5 rfl (by with_unfolding_all exact ⟨_, rfl, rfl⟩) (by first | (simp; done) | (simp; omega) | omega) ?_)))
      go_ret
      exact ⟨by rw [hend.out]; rfl, rfl⟩
     ·have f1 : decide ((x.toNat : Int) < 128) = false := decide_eq_false (by omega)
      have f2 : decide ((191 : Int) < (x.toNat : Int)) = true := decide_eq_true (by omega)
      go_wp2_with (first | (with_reducible refine lst (by with_unfolding_all rfl) (wp_indexAddr T_u8 hr (by with_unfolding_all exact ⟨_, _, _, _, rfl, rfl, rfl⟩) (by omega) (by omega) ?_)) | (with_reducible refine lst (by with_unfolding_all rfl) (wp_loadC hr hc0 Tryz.underlying5 rfl (by with_unfolding_all exact ⟨_, rfl, rfl⟩) (by first | (simp; done) | (simp; omega) | omega) ?_)) | (with_reducible refine lst (by with_unfolding_all rfl) (wp_loadC hr hx Tryz.underlying5 rfl (by with_unfolding_all exact ⟨_, rfl, rfl⟩) (by first | (simp; done) | (simp; omega) | omega) ?_)))
      go_ret
      exact ⟨by rw [hend.out]; rfl, rfl⟩
   ·obtain rfl : i = 2 := by omega
    have hend : Box (jSize (c0 :: t) = 2) := box (by rw [hj.out, if_pos]; refine ⟨by have := hl.out; have := hshort.out; omega, hco.out, ?_, ?_⟩ <;> (intro hh; first | omega | (have := hm.out; simp only [Nat.add_one_sub_one] at this; rw [← this]; omega)))
    go_wp2
    go_ret
    exact ⟨by rw [hend.out]; rfl, rfl⟩
 have e224 : decide ((c0.toNat : Int) < 224) = false := decide_eq_false (by omega)
 have d224 : decide ((224 : Int) ≤ (c0.toNat : Int)) = true := decide_eq_true (by omega)
 by_cases k5 : c0.toNat < 240
 ·skip
  have e240 : decide ((c0.toNat : Int) < 240) = true := decide_eq_true (by omega)
  have hj := box (jSize_k (c := c0) (t := t) (k := 3) (base := 224) (by omega))
  have hb0 : 0 ≤ (c0.toNat : Int) - 224 ∧ (c0.toNat : Int) - 224 ≤ 31 := by omega
  have hb1 : 224 ≤ c0.toNat := by omega
  replace k1 := box k1
  replace k2 := box k2
  replace k3 := box k3
  replace k4 := box k4
  replace k5 := box k5
  by_cases hshort : n < 3
  ·have hend : Box (jSize (c0 :: t) = 0) := box (by rw [hj.out, if_neg (by have := hl.out; omega)])
   have hn1 : (n : Int) < 3 := by omega
   go_enter Tryz.func104, Tryz.ntmps104
   go_wp2_with (first | (with_reducible refine lst (by with_unfolding_all rfl) (wp_indexAddr T_u8 hr (by with_unfolding_all exact ⟨_, _, _, _, rfl, rfl, rfl⟩) (by omega) (by omega) ?_)) | (with_reducible refine lst (by with_unfolding_all rfl) (wp_loadC hr hc0 Tryz.underlying5 rfl (by with_unfolding_all exact ⟨_, rfl, rfl⟩) (by first | (simp; done) | (simp; omega) | omega) ?_)))
   go_ret
   exact ⟨by rw [hend.out]; rfl, rfl⟩
  have hn1 : ¬ (n : Int) < 3 := by omega
  replace hshort := box hshort
  go_enter Tryz.func104, Tryz.ntmps104
  go_wp2_with (first | (with_reducible refine lst (by with_unfolding_all rfl) (wp_indexAddr T_u8 hr (by with_unfolding_all exact ⟨_, _, _, _, rfl, rfl, rfl⟩) (by omega) (by omega) ?_)) | (with_reducible refine lst (by with_unfolding_all rfl) (wp_loadC hr hc0 Tryz.underlying5 rfl (by with_unfolding_all exact ⟨_, rfl, rfl⟩) (by first | (simp; done) | (simp; omega) | omega) ?_)))
  go_loopg [4, 5] 2 (fun gk a b wr => ∃ (i : Nat) (m : Int), 1 ≤ i ∧ i ≤ 3 ∧ Box (gk = 3 - i) ∧ a = .int .i64 m ∧ b = .int .i64 (i : Int) ∧ Box (m = szv ((c0.toNat : Int) - (224 : Nat)) (t.take (i - 1))) ∧ Box ((t.take (i - 1)).all jCont = true) ∧ 0 ≤ m ∧ m ≤ 8388607 ∧ Box ((i = 1 → m ≤ 31) ∧ (i = 2 → m ≤ 2047) ∧ (i = 3 → m ≤ 131071)) ∧ wr = w)
  case atStart => exact ⟨1, (c0.toNat : Int) - 224, by omega, by omega, box rfl, by go_num, rfl, box rfl, box rfl, by omega, by omega, box ⟨fun _ => by omega, fun h => by omega, fun h => by omega⟩, rfl⟩
  case round =>
   obtain ⟨i, m, hi1, hi, hk, rfl, rfl, hm, hco, hm0, hm1, hmb, rfl⟩ := hrel
   by_cases hlt : i < 3
   ·obtain ⟨x, hx'⟩ : ∃ x, t[i - 1]? = some x := ⟨t[i - 1]'(by have := hl.out; omega), by simp⟩
    have hx : Box ((c0 :: t)[i]? = some x) := box (by obtain ⟨j, rfl⟩ : ∃ j, i = j + 1 := ⟨i - 1, by omega⟩; simpa using hx')
    have hm2 : m ≤ 131071 := by have h := hmb.out; rcases (by omega : i = 1 ∨ i = 2 ∨ i = 3) with h1 | h1 | h1; exact Int.le_trans (h.1 h1) (by omega); exact Int.le_trans (h.2.1 h1) (by omega); exact h.2.2 h1
    have hxl := x.toNat_lt
    have hsn : Box (t.take i = t.take (i - 1) ++ [x]) := box (by obtain ⟨j, rfl⟩ : ∃ j, i = j + 1 := ⟨i - 1, by omega⟩; rw [List.take_add_one]; simp only [Nat.add_sub_cancel] at hx' ⊢; rw [hx']; rfl)
    replace hx' := box hx'
    by_cases hc : 128 ≤ x.toNat ∧ x.toNat ≤ 191
    ·have f1 : decide ((x.toNat : Int) < 128) = false := decide_eq_false (by omega)
     have f2 : decide ((191 : Int) < (x.toNat : Int)) = false := decide_eq_false (by omega)
     go_wp2_with (first | (with_reducible refine lst (by with_unfolding_all rfl) (wp_indexAddr T_u8 hr (by with_unfolding_all exact ⟨_, _, _, _, rfl, rfl, rfl⟩) (by omega) (by omega) ?_)) | (with_reducible refine lst (by with_unfolding_all rfl) (wp_loadC hr hc0 Tryz.underlying5 rfl (by with_unfolding_all exact ⟨_, rfl, rfl⟩) (by first | (simp; done) | (simp; omega) | omega) ?_)) | (with_reducible refine lst (by with_unfolding_all rfl) (wp_loadC hr hx Tryz.underlying5 rfl (by with_unfolding_all exact ⟨_, rfl, rfl⟩) (by first | (simp; done) | (simp; omega) | omega) ?_)))
     go_roundg (3 - (i + 1))
     case rel => exact ⟨i + 1, m * 64 + (x.toNat : Int) - 128, by omega, by omega, box rfl, by go_num, by go_num, box (by rw [Nat.add_sub_cancel, hsn.out, szv_snoc, hm.out]), box (by rw [Nat.add_sub_cancel, hsn.out, List.all_append, hco.out]; simp only [List.all_cons, List.all_nil, Bool.and_true, Bool.true_and]; exact (cont_eq x).2 hc), by omega, by omega, box (by have h := hmb.out; refine ⟨fun h1 => by omega, fun h1 => ?_, fun h1 => ?_⟩; have := h.1 (by omega); omega; have := h.2.1 (by omega); omega), rfl⟩
     case measure => have := hk.out; omega
    ·have hend : Box (jSize (c0 :: t) = 0) := box (by
      rw [hj.out, if_neg]
      intro h
      have h2 := h.2.1
      have h3 : x ∈ t.take (3 - 1) := by
       refine List.mem_of_getElem? (i := i - 1) ?_
       rw [List.getElem?_take, if_pos (by omega)]; exact hx'.out
      have := (cont_eq x).1 (List.all_eq_true.1 h2 x h3)
      exact hc this)
     by_cases hc2 : x.toNat < 128
     ·have f1 : decide ((x.toNat : Int) < 128) = true := decide_eq_true (by omega)
      go_wp2_with (first | (with_reducible refine lst (by with_unfolding_all rfl) (wp_indexAddr T_u8 hr (by with_unfolding_all exact ⟨_, _, _, _, rfl, rfl, rfl⟩) (by omega) (by omega) ?_)) | (with_reducible refine lst (by with_unfolding_all rfl) (wp_loadC hr hc0 Tryz.underlying5 rfl (by with_unfolding_all exact ⟨_, rfl, rfl⟩) (by first | (simp; done) | (simp; omega) | omega) ?_)) | (with_reducible refine lst (by with_unfolding_all rfl) (wp_loadC hr hx Tryz.underlying5 rfl (by with_unfolding_all exact ⟨_, rfl, rfl⟩) (by first | (simp; done) | (simp; omega) | omega) ?_)))
      go_ret
      exact ⟨by rw [hend.out]; rfl, rfl⟩
     ·have f1 : decide ((x.toNat : Int) < 128) = false := decide_eq_false (by omega)
      have f2 : decide ((191 : Int) < (x.toNat : Int)) = true := decide_eq_true (by omega)
      go_wp2_with (first | (with_reducible refine lst (by with_unfolding_all rfl) (wp_indexAddr T_u8 hr (by with_unfolding_all exact ⟨_, _, _, _, rfl, rfl, rfl⟩) (by omega) (by omega) ?_)) | (with_reducible refine lst (by with_unfolding_all rfl) (wp_loadC hr hc0 Tryz.underlying5 rfl (by with_unfolding_all exact ⟨_, rfl, rfl⟩) (by first | (simp; done) | (simp; omega) | omega) ?_)) | (with_reducible refine lst (by with_unfolding_all rfl) (wp_loadC hr hx Tryz.underlying5 rfl (by with_unfolding_all exact ⟨_, rfl, rfl⟩) (by first | (simp; done) | (simp; omega) | omega) ?_)))
      go_ret
      exact ⟨by rw [hend.out]; rfl, rfl⟩
   ·obtain rfl : i = 3 := by omega
    by_cases b1 : m < 2048
    ·have hend : Box (jSize (c0 :: t) = 0) := box (by rw [hj.out, if_neg]; intro hh; have h3 := hh.2.2.1 rfl; have := hm.out; simp only [Nat.add_one_sub_one] at this; rw [← this] at h3; omega)
     have f1 : decide (m < 2048) = true := decide_eq_true b1
     go_wp2
     go_ret
     exact ⟨by rw [hend.out]; rfl, rfl⟩
    have f1 : decide (m < 2048) = false := decide_eq_false b1
    by_cases b2 : 55296 ≤ m
    ·have f2 : decide ((55296 : Int) ≤ m) = true := decide_eq_true b2
     by_cases b3 : m < 57344
     ·have hend : Box (jSize (c0 :: t) = 0) := box (by rw [hj.out, if_neg]; intro hh; have h3 := hh.2.2.1 rfl; have := hm.out; simp only [Nat.add_one_sub_one] at this; rw [← this] at h3; omega)
      have f3 : decide (m < 57344) = true := decide_eq_true b3
      go_wp2
      go_ret
      exact ⟨by rw [hend.out]; rfl, rfl⟩
     ·have hend : Box (jSize (c0 :: t) = 3) := box (by rw [hj.out, if_pos]; refine ⟨by have := hl.out; have := hshort.out; omega, hco.out, ?_, ?_⟩ <;> (intro hh; first | omega | (have := hm.out; simp only [Nat.add_one_sub_one] at this; rw [← this]; omega)))
      have f3 : decide (m < 57344) = false := decide_eq_false b3
      go_wp2
      go_ret
      exact ⟨by rw [hend.out]; rfl, rfl⟩
    ·have hend : Box (jSize (c0 :: t) = 3) := box (by rw [hj.out, if_pos]; refine ⟨by have := hl.out; have := hshort.out; omega, hco.out, ?_, ?_⟩ <;> (intro hh; first | omega | (have := hm.out; simp only [Nat.add_one_sub_one] at this; rw [← this]; omega)))
     have f2 : decide ((55296 : Int) ≤ m) = false := decide_eq_false b2
     go_wp2
     go_ret
     exact ⟨by rw [hend.out]; rfl, rfl⟩
 have e240 : decide ((c0.toNat : Int) < 240) = false := decide_eq_false (by omega)
 have d240 : decide ((240 : Int) ≤ (c0.toNat : Int)) = true := decide_eq_true (by omega)
 have e245 : decide ((c0.toNat : Int) < 245) = true := decide_eq_true (by omega)
 have hj := box (jSize_k (c := c0) (t := t) (k := 4) (base := 240) (by omega))
 have hb0 : 0 ≤ (c0.toNat : Int) - 240 ∧ (c0.toNat : Int) - 240 ≤ 31 := by omega
 have hb1 : 240 ≤ c0.toNat := by omega
 replace k1 := box k1
 replace k2 := box k2
 replace k3 := box k3
 replace k4 := box k4
 replace k5 := box k5
 by_cases hshort : n < 4
 ·have hend : Box (jSize (c0 :: t) = 0) := box (by rw [hj.out, if_neg (by have := hl.out; omega)])
  have hn1 : (n : Int) < 4 := by omega
  go_enter Tryz.func104, Tryz.ntmps104
  go_wp2_with (first | (with_reducible refine lst (by with_unfolding_all rfl) (wp_indexAddr T_u8 hr (by with_unfolding_all exact ⟨_, _, _, _, rfl, rfl, rfl⟩) (by omega) (by omega) ?_)) | (with_reducible refine lst (by with_unfolding_all rfl) (wp_loadC hr hc0 Tryz.underlying5 rfl (by with_unfolding_all exact ⟨_, rfl, rfl⟩) (by first | (simp; done) | (simp; omega) | omega) ?_)))
  go_ret
  exact ⟨by rw [hend.out]; rfl, rfl⟩
 have hn1 : ¬ (n : Int) < 4 := by omega
 replace hshort := box hshort
 go_enter Tryz.func104, Tryz.ntmps104
 go_wp2_with (first | (with_reducible refine lst (by with_unfolding_all rfl) (wp_indexAddr T_u8 hr (by with_unfolding_all exact ⟨_, _, _, _, rfl, rfl, rfl⟩) (by omega) (by omega) ?_)) | (with_reducible refine lst (by with_unfolding_all rfl) (wp_loadC hr hc0 Tryz.underlying5 rfl (by with_unfolding_all exact ⟨_, rfl, rfl⟩) (by first | (simp; done) | (simp; omega) | omega) ?_)))
 go_loopg [4, 5] 3 (fun gk a b wr => ∃ (i : Nat) (m : Int), 1 ≤ i ∧ i ≤ 4 ∧ Box (gk = 4 - i) ∧ a = .int .i64 m ∧ b = .int .i64 (i : Int) ∧ Box (m = szv ((c0.toNat : Int) - (240 : Nat)) (t.take (i - 1))) ∧ Box ((t.take (i - 1)).all jCont = true) ∧ 0 ≤ m ∧ m ≤ 8388607 ∧ Box ((i = 1 → m ≤ 31) ∧ (i = 2 → m ≤ 2047) ∧ (i = 3 → m ≤ 131071)) ∧ wr = w)
 case atStart => exact ⟨1, (c0.toNat : Int) - 240, by omega, by omega, box rfl, by go_num, rfl, box rfl, box rfl, by omega, by omega, box ⟨fun _ => by omega, fun h => by omega, fun h => by omega⟩, rfl⟩
 case round =>
  obtain ⟨i, m, hi1, hi, hk, rfl, rfl, hm, hco, hm0, hm1, hmb, rfl⟩ := hrel
  by_cases hlt : i < 4
  ·obtain ⟨x, hx'⟩ : ∃ x, t[i - 1]? = some x := ⟨t[i - 1]'(by have := hl.out; omega), by simp⟩
   have hx : Box ((c0 :: t)[i]? = some x) := box (by obtain ⟨j, rfl⟩ : ∃ j, i = j + 1 := ⟨i - 1, by omega⟩; simpa using hx')
   have hm2 : m ≤ 131071 := by have h := hmb.out; rcases (by omega : i = 1 ∨ i = 2 ∨ i = 3) with h1 | h1 | h1; exact Int.le_trans (h.1 h1) (by omega); exact Int.le_trans (h.2.1 h1) (by omega); exact h.2.2 h1
   have hxl := x.toNat_lt
   have hsn : Box (t.take i = t.take (i - 1) ++ [x]) := box (by obtain ⟨j, rfl⟩ : ∃ j, i = j + 1 := ⟨i - 1, by omega⟩; rw [List.take_add_one]; simp only [Nat.add_sub_cancel] at hx' ⊢; rw [hx']; rfl)
   replace hx' := box hx'
   by_cases hc : 128 ≤ x.toNat ∧ x.toNat ≤ 191
   ·have f1 : decide ((x.toNat : Int) < 128) = false := decide_eq_false (by omega)
    have f2 : decide ((191 : Int) < (x.toNat : Int)) = false := decide_eq_false (by omega)
    go_wp2_with (first | (with_reducible refine lst (by with_unfolding_all rfl) (wp_indexAddr T_u8 hr (by with_unfolding_all exact ⟨_, _, _, _, rfl, rfl, rfl⟩) (by omega) (by omega) ?_)) | (with_reducible refine lst (by with_unfolding_all rfl) (wp_loadC hr hc0 Tryz.underlying5 rfl (by with_unfolding_all exact ⟨_, rfl, rfl⟩) (by first | (simp; done) | (simp; omega) | omega) ?_)) | (with_reducible refine lst (by with_unfolding_all rfl) (wp_loadC hr hx Tryz.underlying5 rfl (by with_unfolding_all exact ⟨_, rfl, rfl⟩) (by first | (simp; done) | (simp; omega) | omega) ?_)))
    go_roundg (4 - (i + 1))
    case rel => exact ⟨i + 1, m * 64 + (x.toNat : Int) - 128, by omega, by omega, box rfl, by go_num, by go_num, box (by rw [Nat.add_sub_cancel, hsn.out, szv_snoc, hm.out]), box (by rw [Nat.add_sub_cancel, hsn.out, List.all_append, hco.out]; simp only [List.all_cons, List.all_nil, Bool.and_true, Bool.true_and]; exact (cont_eq x).2 hc), by omega, by omega, box (by have h := hmb.out; refine ⟨fun h1 => by omega, fun h1 => ?_, fun h1 => ?_⟩; have := h.1 (by omega); omega; have := h.2.1 (by omega); omega), rfl⟩
    case measure => have := hk.out; omega
   ·have hend : Box (jSize (c0 :: t) = 0) := box (by
     rw [hj.out, if_neg]
     intro h
     have h2 := h.2.1
     have h3 : x ∈ t.take (4 - 1) := by
      refine List.mem_of_getElem? (i := i - 1) ?_
      rw [List.getElem?_take, if_pos (by omega)]; exact hx'.out
     have := (cont_eq x).1 (List.all_eq_true.1 h2 x h3)
     exact hc this)
    by_cases hc2 : x.toNat < 128
    ·have f1 : decide ((x.toNat : Int) < 128) = true := decide_eq_true (by omega)
     go_wp2_with (first | (with_reducible refine lst (by with_unfolding_all rfl) (wp_indexAddr T_u8 hr (by with_unfolding_all exact ⟨_, _, _, _, rfl, rfl, rfl⟩) (by omega) (by omega) ?_)) | (with_reducible refine lst (by with_unfolding_all rfl) (wp_loadC hr hc0 Tryz.underlying5 rfl (by with_unfolding_all exact ⟨_, rfl, rfl⟩) (by first | (simp; done) | (simp; omega) | omega) ?_)) | (with_reducible refine lst (by with_unfolding_all rfl) (wp_loadC hr hx Tryz.underlying5 rfl (by with_unfolding_all exact ⟨_, rfl, rfl⟩) (by first | (simp; done) | (simp; omega) | omega) ?_)))
     go_ret
     exact ⟨by rw [hend.out]; rfl, rfl⟩
    ·have f1 : decide ((x.toNat : Int) < 128) = false := decide_eq_false (by omega)
     have f2 : decide ((191 : Int) < (x.toNat : Int)) = true := decide_eq_true (by omega)
     go_wp2_with (first | (with_reducible refine lst (by with_unfolding_all rfl) (wp_indexAddr T_u8 hr (by with_unfolding_all exact ⟨_, _, _, _, rfl, rfl, rfl⟩) (by omega) (by omega) ?_)) | (with_reducible refine lst (by with_unfolding_all rfl) (wp_loadC hr hc0 Tryz.underlying5 rfl (by with_unfolding_all exact ⟨_, rfl, rfl⟩) (by first | (simp; done) | (simp; omega) | omega) ?_)) | (with_reducible refine lst (by with_unfolding_all rfl) (wp_loadC hr hx Tryz.underlying5 rfl (by with_unfolding_all exact ⟨_, rfl, rfl⟩) (by first | (simp; done) | (simp; omega) | omega) ?_)))
     go_ret
     exact ⟨by rw [hend.out]; rfl, rfl⟩
  ·obtain rfl : i = 4 := by omega
   by_cases b1 : m < 65536
   ·have hend : Box (jSize (c0 :: t) = 0) := box (by rw [hj.out, if_neg]; intro hh; have h3 := hh.2.2.2 rfl; have := hm.out; simp only [Nat.add_one_sub_one] at this; rw [← this] at h3; omega)
    have f1 : decide (m < 65536) = true := decide_eq_true b1
    go_wp2
    go_ret
    exact ⟨by rw [hend.out]; rfl, rfl⟩
   have f1 : decide (m < 65536) = false := decide_eq_false b1
   by_cases b2 : 1114111 < m
   ·have hend : Box (jSize (c0 :: t) = 0) := box (by rw [hj.out, if_neg]; intro hh; have h3 := hh.2.2.2 rfl; have := hm.out; simp only [Nat.add_one_sub_one] at this; rw [← this] at h3; omega)
    have f2 : decide ((1114111 : Int) < m) = true := decide_eq_true b2
    go_wp2
    go_ret
    exact ⟨by rw [hend.out]; rfl, rfl⟩
   ·have hend : Box (jSize (c0 :: t) = 4) := box (by rw [hj.out, if_pos]; refine ⟨by have := hl.out; have := hshort.out; omega, hco.out, ?_, ?_⟩ <;> (intro hh; first | omega | (have := hm.out; simp only [Nat.add_one_sub_one] at this; rw [← this]; omega)))
    have f2 : decide ((1114111 : Int) < m) = false := decide_eq_false b2
    go_wp2
    go_ret
    exact ⟨by rw [hend.out]; rfl, rfl⟩
theorem rsize_any (A : Option Addr) (n c : Nat) (l : List UInt8) (w : World) (S : Nat → Prop) (hn : n ≤ 140737488355328) (hr : Rd w S A 1 n (l.map bv)) :
  Calls Tryz.prog 104 #[.slice A n c] w fun e w' => e = .returned (.int .i64 (jSize l : Int)) ∧ w = w' := by
 cases l with
 | cons c0 t => exact rsize_pos A n c c0 t w S hn hr
 | nil =>
  have hl := hr.bytes_len
  obtain rfl : 0 = n := hl
  go_enter Tryz.func104, Tryz.ntmps104
  go_wp2
  go_ret
  exact ⟨rfl, rfl⟩
end Go.Proofs.YtlhicfpmlncomaaGreatDoor

namespace Go.Proofs.YtlhicfpmlncomaaGreatDoor
open Go.Lib
set_option linter.unusedSimpArgs false
set_option linter.unusedVariables false
set_option maxRecDepth 100000 in
set_option maxHeartbeats 4000000 in
/-- The decoder's check at a lead byte from 128 on says what jSize says. -/
theorem check_jSize (c : UInt8) (t : List UInt8) (h0 : 128 ≤ c.toNat) :
  checkN (t.length + 1) (t.getD 0 0).toNat (t.getD 1 0).toNat (t.getD 2 0).toNat (firstT c.toNat % 8) (accLo (firstT c.toNat / 16)) (accHi (firstT c.toNat / 16)) = if jSize (c :: t) = 0 then none else some (jSize (c :: t)) := by
 have hc := c.toNat_lt
 have key : ∀ sz lo hi, firstT c.toNat % 8 = sz → accLo (firstT c.toNat / 16) = lo → accHi (firstT c.toNat / 16) = hi →
   checkN (t.length + 1) (t.getD 0 0).toNat (t.getD 1 0).toNat (t.getD 2 0).toNat sz lo hi = (if jSize (c :: t) = 0 then none else some (jSize (c :: t))) →
   checkN (t.length + 1) (t.getD 0 0).toNat (t.getD 1 0).toNat (t.getD 2 0).toNat (firstT c.toNat % 8) (accLo (firstT c.toNat / 16)) (accHi (firstT c.toNat / 16)) = if jSize (c :: t) = 0 then none else some (jSize (c :: t)) := fun sz lo hi e1 e2 e3 h => by
  rw [e1, e2, e3, h]
 by_cases c0 : c.toNat < 194
 ·refine key (firstT c.toNat % 8) (accLo (firstT c.toNat / 16)) (accHi (firstT c.toNat / 16)) rfl rfl rfl ?_
  simp [checkN, jSize, firstT, show ¬ c.toNat < 128 by omega, show c.toNat < 194 by omega, show c.toNat < 224 by omega, show c.toNat < 240 by omega, show c.toNat < 245 by omega]
 by_cases c1 : c.toNat < 224
 ·refine key 2 128 191 (by simp [firstT, show ¬ c.toNat < 128 by omega, c0, c1]) (by simp [firstT, accLo, show ¬ c.toNat < 128 by omega, c0, c1]) (by simp [firstT, accHi, show ¬ c.toNat < 128 by omega, c0, c1]) ?_
  rcases t with _ | ⟨x, _ | ⟨y, _ | ⟨z, t⟩⟩⟩ <;> simp [checkN, jSize, jCont, show ¬ c.toNat < 128 by omega, show ¬ c.toNat < 194 by omega, show c.toNat < 224 by omega, show c.toNat < 240 by omega, show c.toNat < 245 by omega] <;> (repeat' split) <;> first | omega | (simp_all; done) | (simp_all; omega)
 by_cases c2 : c.toNat = 224
 ·refine key 3 160 191 (by rw [c2]; decide) (by rw [c2]; decide) (by rw [c2]; decide) ?_
  rcases t with _ | ⟨x, _ | ⟨y, _ | ⟨z, t⟩⟩⟩ <;> simp [checkN, jSize, jCont, show ¬ c.toNat < 128 by omega, show ¬ c.toNat < 194 by omega, show ¬ c.toNat < 224 by omega, show c.toNat < 240 by omega, show c.toNat < 245 by omega] <;> (repeat' split) <;> first | omega | (simp_all; done) | (simp_all; omega)
 by_cases c3 : c.toNat < 237
 ·refine key 3 128 191 (by simp [firstT, show ¬ c.toNat < 128 by omega, c0, c1, c2, c3]) (by simp [firstT, accLo, show ¬ c.toNat < 128 by omega, c0, c1, c2, c3]) (by simp [firstT, accHi, show ¬ c.toNat < 128 by omega, c0, c1, c2, c3]) ?_
  rcases t with _ | ⟨x, _ | ⟨y, _ | ⟨z, t⟩⟩⟩ <;> simp [checkN, jSize, jCont, show ¬ c.toNat < 128 by omega, show ¬ c.toNat < 194 by omega, show ¬ c.toNat < 224 by omega, show c.toNat < 240 by omega, show c.toNat < 245 by omega] <;> (repeat' split) <;> first | omega | (simp_all; done) | (simp_all; omega)
 by_cases c4 : c.toNat = 237
 ·refine key 3 128 159 (by rw [c4]; decide) (by rw [c4]; decide) (by rw [c4]; decide) ?_
  rcases t with _ | ⟨x, _ | ⟨y, _ | ⟨z, t⟩⟩⟩ <;> simp [checkN, jSize, jCont, show ¬ c.toNat < 128 by omega, show ¬ c.toNat < 194 by omega, show ¬ c.toNat < 224 by omega, show c.toNat < 240 by omega, show c.toNat < 245 by omega] <;> (repeat' split) <;> first | omega | (simp_all; done) | (simp_all; omega)
 by_cases c5 : c.toNat < 240
 ·refine key 3 128 191 (by simp [firstT, show ¬ c.toNat < 128 by omega, c0, c1, c2, c3, c4, c5]) (by simp [firstT, accLo, show ¬ c.toNat < 128 by omega, c0, c1, c2, c3, c4, c5]) (by simp [firstT, accHi, show ¬ c.toNat < 128 by omega, c0, c1, c2, c3, c4, c5]) ?_
  rcases t with _ | ⟨x, _ | ⟨y, _ | ⟨z, t⟩⟩⟩ <;> simp [checkN, jSize, jCont, show ¬ c.toNat < 128 by omega, show ¬ c.toNat < 194 by omega, show ¬ c.toNat < 224 by omega, show c.toNat < 240 by omega, show c.toNat < 245 by omega] <;> (repeat' split) <;> first | omega | (simp_all; done) | (simp_all; omega)
 by_cases c6 : c.toNat = 240
 ·refine key 4 144 191 (by rw [c6]; decide) (by rw [c6]; decide) (by rw [c6]; decide) ?_
  rcases t with _ | ⟨x, _ | ⟨y, _ | ⟨z, t⟩⟩⟩ <;> simp [checkN, jSize, jCont, show ¬ c.toNat < 128 by omega, show ¬ c.toNat < 194 by omega, show ¬ c.toNat < 224 by omega, show ¬ c.toNat < 240 by omega, show c.toNat < 245 by omega] <;> (repeat' split) <;> first | omega | (simp_all; done) | (simp_all; omega)
 by_cases c7 : c.toNat < 244
 ·refine key 4 128 191 (by simp [firstT, show ¬ c.toNat < 128 by omega, c0, c1, c2, c3, c4, c5, c6, c7]) (by simp [firstT, accLo, show ¬ c.toNat < 128 by omega, c0, c1, c2, c3, c4, c5, c6, c7]) (by simp [firstT, accHi, show ¬ c.toNat < 128 by omega, c0, c1, c2, c3, c4, c5, c6, c7]) ?_
  rcases t with _ | ⟨x, _ | ⟨y, _ | ⟨z, t⟩⟩⟩ <;> simp [checkN, jSize, jCont, show ¬ c.toNat < 128 by omega, show ¬ c.toNat < 194 by omega, show ¬ c.toNat < 224 by omega, show ¬ c.toNat < 240 by omega, show c.toNat < 245 by omega] <;> (repeat' split) <;> first | omega | (simp_all; done) | (simp_all; omega)
 by_cases c8 : c.toNat = 244
 ·refine key 4 128 143 (by rw [c8]; decide) (by rw [c8]; decide) (by rw [c8]; decide) ?_
  rcases t with _ | ⟨x, _ | ⟨y, _ | ⟨z, t⟩⟩⟩ <;> simp [checkN, jSize, jCont, show ¬ c.toNat < 128 by omega, show ¬ c.toNat < 194 by omega, show ¬ c.toNat < 224 by omega, show ¬ c.toNat < 240 by omega, show c.toNat < 245 by omega] <;> (repeat' split) <;> first | omega | (simp_all; done) | (simp_all; omega)
 refine key (firstT c.toNat % 8) (accLo (firstT c.toNat / 16)) (accHi (firstT c.toNat / 16)) rfl rfl rfl ?_
 simp [checkN, jSize, firstT, show ¬ c.toNat < 128 by omega, c0, c1, c2, c3, c4, c5, c6, c7, c8, show ¬ c.toNat < 240 by omega, show ¬ c.toNat < 245 by omega]
theorem validD_jSize (c : UInt8) (t : List UInt8) : validD (c :: t) = if jSize (c :: t) = 0 then false else validD ((c :: t).drop (jSize (c :: t))) := by
 by_cases h : c.toNat < 128
 ·rw [validD_cons c t h, show jSize (c :: t) = 1 by simp [jSize, h]]
  rfl
 ·rw [validD_lead (c :: t) (by simp) (by simpa using h)]
  have := check_jSize c t (by omega)
  simp only [List.length_cons, List.getD_cons_zero, List.getD_cons_succ] at this ⊢
  rw [this]
  by_cases h0 : jSize (c :: t) = 0
  ·rw [if_pos h0, if_pos h0]
  ·rw [if_neg h0, if_neg h0]
theorem jSize_take {l : List UInt8} {n : Nat} (h : jSize l ≠ 0) (hn : jSize l ≤ n) : jSize l ≤ l.length ∧ jSize (l.take n) = jSize l := by
 rcases l with _ | ⟨c, _ | ⟨x, _ | ⟨y, _ | ⟨z, t⟩⟩⟩⟩ <;> rcases n with _ | _ | _ | _ | n <;> simp only [jSize, List.take_zero, List.take_succ_cons, List.take_nil, List.length_cons, List.length_nil] at h hn ⊢ <;> (repeat' split at h) <;> simp_all <;> (repeat' split) <;> (try omega)
theorem jSize_app {l k : List UInt8} (h : jSize l ≠ 0) : jSize (l ++ k) = jSize l := by
 rcases l with _ | ⟨c, _ | ⟨x, _ | ⟨y, _ | ⟨z, t⟩⟩⟩⟩ <;> simp only [jSize, List.nil_append, List.cons_append] at h ⊢ <;> (repeat' split at h) <;> simp_all
theorem ofNat_toNat' {n : Nat} (h : n < 256) : (UInt8.ofNat n).toNat = n := by
 rw [UInt8.toNat_ofNat']; omega
end Go.Proofs.YtlhicfpmlncomaaGreatDoor

namespace Go.Proofs.YtlhicfpmlncomaaGreatDoor
open Go.RowKit Go.Lib
set_option linter.unusedSimpArgs false
set_option maxRecDepth 20000 in
set_option maxHeartbeats 3200000 in
theorem rvalid_any (t : List UInt8) (w : World) (ht : t.length ≤ 140737488355328) :
  Calls Tryz.prog 74 #[.string ⟨t.toArray⟩] w fun e w' => e = .returned (.bool (validD t)) ∧ Below w.heap.size w w' := by
 obtain ⟨R, hR⟩ : ∃ R, R = validD t := ⟨_, rfl⟩
 rw [← hR]
 replace hR := box hR
 have hF0 := Fr.nil w
 go_enter Tryz.func74, Tryz.ntmps74
 go_wp2_with (first | ((with_reducible refine lst (by with_unfolding_all rfl) (wp_fs2b T_u8 Tryz.underlying5 Tryz.underlying9 hF0 (by with_unfolding_all exact ⟨_, rfl, rfl⟩) ?_)); intro w1 g1 c1 hF1 hz1 hc1))
 have hr1 := hF1.rd (i := 0) rfl
 rw [str_mk_size] at hr1 hc1
 go_loopg [3] (t.length + 1) (fun gk a wr => ∃ (A : Option Addr) (n c : Nat) (l : List UInt8), a = .slice A n c ∧ n ≤ c ∧ Box (gk = n + 1) ∧ n ≤ 140737488355328 ∧ Box (R = validD l) ∧ Rd w1 (· < w1.heap.size) A 1 n (l.map bv) ∧ wr = w1)
 case atStart => exact ⟨_, _, _, t, rfl, hc1, box rfl, ht, hR, hr1, rfl⟩
 case round =>
  obtain ⟨A, n, c, l, rfl, hnc, hk, hn, hv, hr, rfl⟩ := hrel
  clear hr1 hc1 ht
  have hl := box hr.bytes_len
  cases l with
  | nil =>
   obtain rfl : 0 = n := hl.out
   have hend : Box (R = true) := box (by rw [hv.out]; rfl)
   go_wp2
   go_ret
   exact ⟨by rw [hend.out]; rfl, hF1.below⟩
  | cons y l =>
   have hn0 : 0 < n := by have := hl.out; rw [List.length_cons] at this; omega
   have hs := rsize_any A n c (y :: l) wr _ hn hr
   have hvd := validD_jSize y l
   go_wp2_with fail
   refine hs.mono ?_
   rintro e w2 ⟨rfl, rfl⟩
   by_cases h0 : jSize (y :: l) = 0
   ·rw [if_pos h0] at hvd
    have hend : Box (R = false) := box (by rw [hv.out, hvd])
    rw [h0]
    clear hvd hs
    go_wp2
    go_ret
    exact ⟨by rw [hend.out]; rfl, hF1.below⟩
   ·rw [if_neg h0] at hvd
    have hle := (jSize_take h0 (Nat.le_refl _)).1
    rw [hl.out] at hle
    have hv2 : Box (R = validD ((y :: l).drop (jSize (y :: l)))) := box (by rw [hv.out, hvd])
    obtain ⟨k, hk'⟩ : ∃ k, k = jSize (y :: l) := ⟨_, rfl⟩
    rw [← hk'] at hv2 hle h0
    rw [← hk']
    have hkz : ((k : Int) == 0) = false := by rw [beq_eq_false_iff_ne]; omega
    have htk : Box ((y :: l).take n = y :: l) := box (List.take_of_length_le (by rw [hl.out]; exact Nat.le_refl _))
    replace hk' := box hk'
    replace h0 := box h0
    clear hvd hs
    go_wp2_with (first | ((with_reducible refine lst (by with_unfolding_all rfl) (wp_cutB T_u8 hr hnc (lo := (some (k:Int))) (hi := none) (mx := none) ?_ (l := k) (h := n) (m := c) (by first | (simp; done) | (simp; omega)) (by first | (simp; done) | (simp; omega)) (by first | (simp; done) | (simp; omega)) (by simp) (by omega) (by omega) (by omega) (by omega) ?_)); exact ⟨_, _, _, _, .i64, .i64, .i64, rfl, rfl, rfl, rfl, rfl⟩; intro A2 c2 hr2 hc2 hc3))
    rw [htk.out] at hr2
    go_roundg (n - k + 1)
    case rel => exact ⟨A2, n - k, c2, _, rfl, hc2, box rfl, by omega, hv2, hr2, rfl⟩
    case measure => have := hk.out; have := h0.out; omega
end Go.Proofs.YtlhicfpmlncomaaGreatDoor
