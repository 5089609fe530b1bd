/-
  Layer 6, plain law: a text that is written is read as that text. No program is named here.
  Layer 6, plain law: a value that is written is read as that value. No program is named here.
  Layer 6, plain law: lists and objects that are written are read as themselves. No program is named here.
  Layer 6, plain law: what is written of a bare value that is right is read as that value. No program is named here.
  Layer 6, plain law: a value that is right is no deeper than it may be. No program is named here.
  Layer 6, plain words: a value without what isn't written. No program is named here.
  Layer 6: values of which no more than so many kids are kept: in plain words, and as they stand on the heap.
-/
import Derived.Test.YtdekogmegdhjoaaDoorM16
import Derived.Test.YtdekogmegdhjoaaDoorM11
import Derived.Test.YtdekogmegdhjoaaDoorM15
namespace Go.Proofs.YtdekogmegdhjoaaDoor
open Go.Lib
set_option linter.unusedSimpArgs false
set_option linter.unusedVariables false

theorem at_drop {b l : List UInt8} {p : Nat} (h : b.drop p = l) (i : Nat) : b[p + i]? = l[i]? := by rw [← h, List.getElem?_drop]
theorem jHex_digit (n : Nat) (h : n < 16) : jHex (jHexD n) = some n := by
  have : ∀ n : Fin 16, jHex (jHexD n.val) = some n.val := by decide
  exact this ⟨n, h⟩
theorem jSign_small {c : UInt8} (h : c.toNat < 128) : jSign c.toNat = [c] := by
  unfold jSign
  rw [if_pos h, UInt8.ofNat_toNat]
theorem jTextL_esc {b : List UInt8} {p f : Nat} {out e : List UInt8} {q : Nat} (h : b[p]? = some 92) (he : jEscape b p = .ok (e, q)) : jTextL b (f + 1) p out = jTextL b f q (out ++ e) := by
  rw [jTextL, h]
  simp only []
  rw [if_neg (by decide), if_pos trivial, he]
theorem jQc_read {b rest out : List UInt8} {p f : Nat} {c : UInt8} (hc : c.toNat < 128) (h : b.drop p = jQc c ++ rest) : jTextL b (f + 1) p out = jTextL b f (p + (jQc c).length) (out ++ [c]) := by
  have h0 := at_drop h 0
  have h1 := at_drop h 1
  unfold jQc at h h0 h1 ⊢
  by_cases c1 : c = 34 ∨ c = 92
  · rw [if_pos c1] at h h0 h1 ⊢
    refine jTextL_esc (by simpa using h0) ?_
    unfold jEscape
    rw [show b[p + 1]? = some c by simpa using h1]
    simp only []
    rw [if_pos (by rcases c1 with h | h; exact .inl h; exact .inr (.inl h))]
    rfl
  rw [if_neg c1] at h h0 h1 ⊢
  by_cases c2 : c = 8
  · subst c2
    refine jTextL_esc (by simpa using h0) ?_
    unfold jEscape
    rw [show b[p + 1]? = some 98 by simpa using h1]
    rfl
  rw [if_neg c2] at h h0 h1 ⊢
  by_cases c3 : c = 9
  · subst c3
    refine jTextL_esc (by simpa using h0) ?_
    unfold jEscape
    rw [show b[p + 1]? = some 116 by simpa using h1]
    rfl
  rw [if_neg c3] at h h0 h1 ⊢
  by_cases c4 : c = 10
  · subst c4
    refine jTextL_esc (by simpa using h0) ?_
    unfold jEscape
    rw [show b[p + 1]? = some 110 by simpa using h1]
    rfl
  rw [if_neg c4] at h h0 h1 ⊢
  by_cases c5 : c = 12
  · subst c5
    refine jTextL_esc (by simpa using h0) ?_
    unfold jEscape
    rw [show b[p + 1]? = some 102 by simpa using h1]
    rfl
  rw [if_neg c5] at h h0 h1 ⊢
  by_cases c6 : c = 13
  · subst c6
    refine jTextL_esc (by simpa using h0) ?_
    unfold jEscape
    rw [show b[p + 1]? = some 114 by simpa using h1]
    rfl
  rw [if_neg c6] at h h0 h1 ⊢
  by_cases c7 : c.toNat < 32
  · rw [if_pos c7] at h h0 h1 ⊢
    refine jTextL_esc (by simpa using h0) ?_
    have h2 := at_drop h 2
    have h3 := at_drop h 3
    have h4 := at_drop h 4
    have h5 := at_drop h 5
    simp only [List.cons_append, List.getElem?_cons_zero, List.getElem?_cons_succ] at h1 h2 h3 h4 h5
    have hu : jUnit b p 4 0 (p + 2) = .ok c.toNat := by
      rw [jUnit, h2]
      simp only [show jHex 48 = some 0 from rfl]
      rw [jUnit, show p + 2 + 1 = p + 3 by omega, h3]
      simp only [show jHex 48 = some 0 from rfl]
      rw [jUnit, show p + 3 + 1 = p + 4 by omega, h4]
      simp only [jHex_digit (c.toNat / 16) (by omega)]
      rw [jUnit, show p + 4 + 1 = p + 5 by omega, h5]
      simp only [jHex_digit (c.toNat % 16) (by omega)]
      rw [jUnit]
      congr 1
      omega
    unfold jEscape
    rw [h1]
    simp only []
    rw [if_neg (by decide), if_neg (by decide), if_neg (by decide), if_neg (by decide), if_neg (by decide), if_neg (by decide), if_pos trivial, hu]
    simp only []
    rw [if_neg (by omega), if_neg (by omega), jSign_small hc]
    rfl
  · rw [if_neg c7] at h h0 h1 ⊢
    have hs : jSize (b.drop p) = 1 := by rw [h]; simp [jSize, hc]
    rw [jTextL, show b[p]? = some c by simpa using h0]
    simp only []
    rw [if_neg (fun h => c1 (.inl h)), if_neg (fun h => c1 (.inr h)), if_neg c7, if_neg (by rw [hs]; decide), hs, h]
    rfl
theorem jQc_high {c : UInt8} (h : 128 ≤ c.toNat) : jQc c = [c] := by
  have n : ∀ k : Nat, k < 128 → c ≠ UInt8.ofNat k := fun k hk he => by rw [he, ofNat_toNat' (by omega)] at h; omega
  unfold jQc
  rw [if_neg (by rintro (h | h); exact n 34 (by decide) h; exact n 92 (by decide) h), if_neg (show c ≠ 8 from n 8 (by decide)), if_neg (show c ≠ 9 from n 9 (by decide)), if_neg (show c ≠ 10 from n 10 (by decide)), if_neg (show c ≠ 12 from n 12 (by decide)), if_neg (show c ≠ 13 from n 13 (by decide)), if_neg (by omega)]
theorem jQs_high : ∀ (l : List UInt8), (∀ c ∈ l, 128 ≤ c.toNat) → l.flatMap jQc = l
  | [], _ => rfl
  | c :: l, h => by rw [List.flatMap_cons, jQc_high (h c (by simp)), jQs_high l (fun x hx => h x (by simp [hx]))]; rfl
theorem jSize_high {c : UInt8} {t : List UInt8} (h : 128 ≤ c.toNat) (h0 : jSize (c :: t) ≠ 0) : ∀ x ∈ (c :: t).take (jSize (c :: t)), 128 ≤ x.toNat := by
  unfold jSize at h0 ⊢
  rcases t with _ | ⟨x, _ | ⟨y, _ | ⟨z, t⟩⟩⟩ <;> simp only [] at h0 ⊢ <;> (repeat' split at h0) <;> simp_all [jCont] <;> (try (repeat' split)) <;> (try omega) <;> simp_all <;> (try omega)
theorem drop_app {b x y : List UInt8} {p : Nat} (h : b.drop p = x ++ y) : b.drop (p + x.length) = y := by rw [← List.drop_drop, h, List.drop_left]
theorem jTextL_written {b rest : List UInt8} : ∀ (n : Nat) (s out : List UInt8) (p f : Nat), s.length ≤ n → validD s = true → b.drop p = s.flatMap jQc ++ (34 :: rest) → s.length < f → jTextL b f p out = .ok (out ++ s, p + (s.flatMap jQc).length + 1)
  | _, [], out, p, f, _, _, h, hf => by
    obtain ⟨f, rfl⟩ : ∃ g, f = g + 1 := ⟨f - 1, by simp at hf; omega⟩
    have h0 : b[p]? = some 34 := by simpa using at_drop h 0
    rw [jTextL, h0]
    simp only []
    rw [if_pos trivial, List.append_nil]
    rfl
  | 0, c :: t, _, _, _, hn, _, _, _ => by simp at hn
  | n + 1, c :: t, out, p, f, hn, hv, h, hf => by
    obtain ⟨f, rfl⟩ : ∃ g, f = g + 1 := ⟨f - 1, by simp at hf; omega⟩
    simp only [List.length_cons] at hn hf
    by_cases hc : c.toNat < 128
    · rw [validD_cons c t hc] at hv
      rw [List.flatMap_cons, List.append_assoc] at h
      rw [jQc_read hc h, jTextL_written n t (out ++ [c]) (p + (jQc c).length) f (by omega) hv (drop_app h) (by omega), List.append_assoc, List.flatMap_cons, List.length_append, Nat.add_assoc p]
      rfl
    · rw [validD_jSize] at hv
      by_cases h0 : jSize (c :: t) = 0
      · rw [if_pos h0] at hv; cases hv
      rw [if_neg h0] at hv
      have hhi := jSize_high (by omega) h0
      obtain ⟨hk, hkt⟩ := jSize_take h0 (Nat.le_refl _)
      have hsp : c :: t = (c :: t).take (jSize (c :: t)) ++ (c :: t).drop (jSize (c :: t)) := (List.take_append_drop _ _).symm
      have hfm : (c :: t).flatMap jQc = (c :: t).take (jSize (c :: t)) ++ ((c :: t).drop (jSize (c :: t))).flatMap jQc := by
        have : ((c :: t).take (jSize (c :: t)) ++ (c :: t).drop (jSize (c :: t))).flatMap jQc = (c :: t).take (jSize (c :: t)) ++ ((c :: t).drop (jSize (c :: t))).flatMap jQc := by
          rw [List.flatMap_append, jQs_high _ hhi]
        rwa [← hsp] at this
      have hlen : ((c :: t).take (jSize (c :: t))).length = jSize (c :: t) := by rw [List.length_take]; omega
      have hdl : ((c :: t).drop (jSize (c :: t))).length ≤ t.length := by
        rw [List.length_drop]; simp only [List.length_cons] at hk ⊢; omega
      rw [hfm, List.append_assoc] at h
      have hb0 : b[p]? = some c := by
        have h1 := at_drop h 0
        rw [Nat.add_zero] at h1
        rw [h1]
        obtain ⟨k, hkk⟩ : ∃ k, jSize (c :: t) = k + 1 := ⟨jSize (c :: t) - 1, by omega⟩
        rw [hkk]
        rfl
      have hsz : jSize (b.drop p) = jSize (c :: t) := by
        rw [h, jSize_app (by rw [hkt]; exact h0), hkt]
      have hne : ∀ k : Nat, k < 128 → c ≠ UInt8.ofNat k := fun k hk he => by rw [he, ofNat_toNat' (by omega)] at hc; omega
      have htk : (b.drop p).take (jSize (c :: t)) = (c :: t).take (jSize (c :: t)) := by
        rw [h, List.take_append_of_le_length (by omega), List.take_of_length_le (by omega)]
      have hdr := drop_app h
      rw [hlen] at hdr
      rw [jTextL, hb0]
      simp only []
      rw [if_neg (show c ≠ 34 from hne 34 (by decide)), if_neg (show c ≠ 92 from hne 92 (by decide)), if_neg (by omega), hsz, if_neg h0, htk,
        jTextL_written n _ _ _ f (by omega) hv hdr (by omega), List.append_assoc, ← hsp, hfm, List.length_append, hlen, Nat.add_assoc p]
/-- A text that is written is read as that text. -/
theorem jText_written {b rest s : List UInt8} {p : Nat} (hv : validD s = true) (h : b.drop p = jQuote s ++ rest) : jText b p = .ok (s, p + (jQuote s).length) := by
  have h' : b.drop p = [34] ++ (s.flatMap jQc ++ (34 :: rest)) := by rw [h, jQuote]; simp
  have h0 : b[p]? = some 34 := by simpa using at_drop h' 0
  have hd := drop_app h'
  have hge := jQs_ge s
  have hl := congrArg List.length hd
  simp only [List.length_drop, List.length_append, List.length_cons, List.length_nil] at hl
  unfold jText
  rw [jWord, h0]
  simp only []
  rw [if_pos trivial, jWord]
  simp only []
  rw [jTextL_written s.length s [] (p + 1) _ (Nat.le_refl _) hv hd (by omega), jQuote]
  simp only [List.nil_append, List.length_append, List.length_cons, List.length_nil]
  congr 2
  omega
end Go.Proofs.YtdekogmegdhjoaaDoor

namespace Go.Proofs.YtdekogmegdhjoaaDoor
open Go.Lib
set_option linter.unusedSimpArgs false
set_option linter.unusedVariables false

theorem jWord_written {b rest : List UInt8} : ∀ (w : List UInt8) (p : Nat), b.drop p = w ++ rest → jWord b w p = .ok (p + w.length)
  | [], p, _ => by rw [jWord]; rfl
  | c :: w, p, h => by
    have h0 : b[p]? = some c := by simpa using at_drop h 0
    have hd : b.drop (p + 1) = w ++ rest := drop_app (x := [c]) h
    rw [jWord, h0]
    simp only []
    rw [if_pos trivial, jWord_written w (p + 1) hd, List.length_cons, Nat.add_right_comm, Nat.add_assoc p]
theorem itoa_numC (n : Int) : ∀ c ∈ itoa n, jNumC c = true := by
  have hd : ∀ u, ∀ c ∈ decDigits u, jNumC c = true := fun u c hc => by
    have := List.all_eq_true.1 (decDigits_dig u) c hc
    unfold jNumC
    rw [this]; rfl
  intro c hc
  unfold itoa at hc
  split at hc
  · rcases List.mem_cons.1 hc with rfl | hc
    · decide
    · exact hd _ c hc
  · exact hd _ c hc
theorem jNumber_written {b rest : List UInt8} {p : Nat} {n : Int} (h0 : -9007199254740991 ≤ n) (h1 : n ≤ 9007199254740991) (h : b.drop p = itoa n ++ rest) (hr : ∀ c, rest.head? = some c → jNumC c = false) : jNumber b p = .ok (n, p + (itoa n).length) := by
  have ht : (b.drop p).takeWhile jNumC = itoa n := by
    rw [h, List.takeWhile_append_of_pos (itoa_numC n)]
    cases rest with
    | nil => simp
    | cons c l => rw [List.takeWhile_cons, hr c rfl]; simp
  unfold jNumber
  simp only []
  rw [ht, jNum_itoa h0 h1]
theorem jBlanks_stay {b : List UInt8} {p : Nat} {c : UInt8} (h : b[p]? = some c) (hc : jBlank c = false) : jBlanks b p = p := by
  obtain ⟨hp, rfl⟩ := List.getElem?_eq_some_iff.1 h
  unfold jBlanks
  rw [List.drop_eq_getElem_cons hp, List.takeWhile_cons, hc]
  rfl
theorem itoa_head (n : Int) : ∃ c l, itoa n = c :: l ∧ (c = 45 ∨ jDig c = true) := by
  unfold itoa
  split
  · exact ⟨_, _, rfl, .inl rfl⟩
  · cases hd : decDigits n.toNat with
    | nil => exact absurd hd (decDigits_ne _)
    | cons c l => exact ⟨c, l, rfl, .inr (List.all_eq_true.1 (decDigits_dig n.toNat) c (by rw [hd]; simp))⟩
theorem dig_no {c : UInt8} (h : c = 45 ∨ jDig c = true) : jBlank c = false ∧ c ≠ 93 ∧ c ≠ 125 ∧ c ≠ 110 ∧ c ≠ 102 ∧ c ≠ 116 := by
  rcases h with rfl | h
  · decide
  · have : ∀ c : UInt8, jDig c = true → jBlank c = false ∧ c ≠ 93 ∧ c ≠ 125 ∧ c ≠ 110 ∧ c ≠ 102 ∧ c ≠ 116 := by
      intro c h
      unfold jDig at h
      simp only [Bool.and_eq_true, decide_eq_true_eq] at h
      have n : ∀ k : Nat, k < 256 → (k < 48 ∨ 57 < k) → c ≠ UInt8.ofNat k := fun k hk ho he => by rw [he, ofNat_toNat' hk] at h; omega
      refine ⟨?_, n 93 (by decide) (by decide), n 125 (by decide) (by decide), n 110 (by decide) (by decide), n 102 (by decide) (by decide), n 116 (by decide) (by decide)⟩
      unfold jBlank
      simp only [Bool.or_eq_false_iff, beq_eq_false_iff_ne]
      exact ⟨n 32 (by decide) (by decide), n 9 (by decide) (by decide), n 10 (by decide) (by decide), n 13 (by decide) (by decide)⟩
    exact this c h
/-- How a written value begins. -/
theorem jFull_head (k n : Int) (t : List UInt8) (ns : List (List UInt8)) (ks : List JV) : ∃ c l, jFull (.mk k n t ns ks) = c :: l ∧ jBlank c = false ∧ c ≠ 93 ∧ c ≠ 125 := by
  rw [jFull]
  split
  · exact ⟨_, _, rfl, by decide⟩
  split
  · exact ⟨_, _, rfl, by decide⟩
  split
  · exact ⟨_, _, rfl, by decide⟩
  split
  · obtain ⟨c, l, h, hc⟩ := itoa_head n
    have := dig_no hc
    exact ⟨c, l, h, this.1, this.2.1, this.2.2.1⟩
  split
  · exact ⟨_, _, rfl, by decide⟩
  split
  · exact ⟨_, _, rfl, by decide⟩
  · exact ⟨_, _, rfl, by decide⟩
/-- A value that is neither a list nor an object. -/
theorem jLeaf_written {b rest : List UInt8} {val : Option (Nat → Nat → JR (JV × Nat × Nat))} {L p m : Nat} {k n : Int} {t : List UInt8} {ns : List (List UInt8)} {ks : List JV} (hg : JGood L (.mk k n t ns ks)) (hb : ¬ jBad k n t m) (hk : k < 5)
    (h : b.drop p = jFull (.mk k n t ns ks) ++ rest) (hr : ∀ c, rest.head? = some c → jNumC c = false) : jValueW b val p m = .ok (.mk k n t ns ks, p + (jFull (.mk k n t ns ks)).length, m + 1) := by
  rw [JGood] at hg
  obtain ⟨g1, g2, g3, g4, g5, g6, -⟩ := hg
  obtain rfl := g6 hk
  obtain rfl := g5 (by omega)
  unfold jBad at hb
  have hm : m ≠ 4096 := fun h => hb (.inl (by omega))
  have hk5 : k = 0 ∨ k = 1 ∨ k = 2 ∨ k = 3 ∨ k = 4 := by omega
  unfold jValueW
  rcases hk5 with rfl | rfl | rfl | rfl | rfl
  · obtain rfl := g3 (by decide)
    obtain rfl := g4 (by decide)
    have hf : jFull (.mk 0 0 [] [] []) = [110, 117, 108, 108] := by rw [jFull]; rfl
    rw [hf] at h ⊢
    rw [show b[p]? = some 110 by simpa using at_drop h 0]
    simp only []
    rw [if_neg hm, if_pos trivial, jLit, jWord_written _ _ h]
    rfl
  · obtain rfl := g3 (by decide)
    obtain rfl := g4 (by decide)
    have hf : jFull (.mk 1 0 [] [] []) = [102, 97, 108, 115, 101] := by rw [jFull]; rfl
    rw [hf] at h ⊢
    rw [show b[p]? = some 102 by simpa using at_drop h 0]
    simp only []
    rw [if_neg hm, if_neg (by decide), if_pos trivial, jLit, jWord_written _ _ h]
  · obtain rfl := g3 (by decide)
    obtain rfl := g4 (by decide)
    have hf : jFull (.mk 2 0 [] [] []) = [116, 114, 117, 101] := by rw [jFull]; rfl
    rw [hf] at h ⊢
    rw [show b[p]? = some 116 by simpa using at_drop h 0]
    simp only []
    rw [if_neg hm, if_neg (by decide), if_neg (by decide), if_pos trivial, jLit, jWord_written _ _ h]
  · obtain rfl := g4 (by decide)
    have hf : jFull (.mk 3 n [] [] []) = itoa n := by rw [jFull]; rfl
    rw [hf] at h ⊢
    obtain ⟨c, l, hc, hcd⟩ := itoa_head n
    obtain ⟨_, _, _, n1, n2, n3⟩ := dig_no hcd
    rw [show b[p]? = some c by have := at_drop h 0; rw [hc] at this; simpa using this]
    simp only []
    rw [if_neg hm, if_neg n1, if_neg n2, if_neg n3, if_pos hcd, jNumber_written (by omega) (by omega) h hr]
  · obtain rfl := g3 (by decide)
    have hf : jFull (.mk 4 0 t [] []) = jQuote t := by rw [jFull]; rfl
    rw [hf] at h ⊢
    have hv : validD t = true := by cases hv : validD t; exact absurd (.inr (.inr (.inr (.inl hv)))) hb; rfl
    rw [show b[p]? = some 34 by have := at_drop h 0; rw [jQuote] at this; simpa using this]
    simp only []
    rw [if_neg hm, if_neg (by decide), if_neg (by decide), if_neg (by decide), if_neg (by decide), if_pos trivial, jText_written hv h]
end Go.Proofs.YtdekogmegdhjoaaDoor

namespace Go.Proofs.YtdekogmegdhjoaaDoor
open Go.Lib
set_option linter.unusedSimpArgs false
set_option linter.unusedVariables false

def ReadOk (b : List UInt8) (d : Nat) (val : Nat → Nat → JR (JV × Nat × Nat)) : Prop := ∀ (v : JV) (p m m' L : Nat) (rest : List UInt8), JGood L v → jRight d v m = some m' → b.drop p = jFull v ++ rest → (∀ c, rest.head? = some c → jNumC c = false) → val p m = .ok (v, p + (jFull v).length, m')
theorem jFullL_comma {obj : Bool} {ns : List (List UInt8)} {v : JV} {vs : List JV} : jFullL obj true ns (v :: vs) = 44 :: jFullL obj false ns (v :: vs) := by rw [jFullL, jFullL]; rfl
theorem jFullL_head {obj : Bool} {ns : List (List UInt8)} {v : JV} {vs : List JV} : ∃ c l, jFullL obj false ns (v :: vs) = c :: l ∧ jBlank c = false ∧ c ≠ 93 ∧ c ≠ 125 := by
  rw [jFullL]
  cases obj with
  | true => exact ⟨34, _, rfl, by decide⟩
  | false =>
    obtain ⟨k, n, t, ns', ks⟩ := v
    obtain ⟨c, l, h, hc⟩ := jFull_head k n t ns' ks
    exact ⟨c, _, by rw [h]; rfl, hc⟩
theorem jName_written {b l : List UInt8} {names : List (List UInt8)} {s : List UInt8} {p : Nat} {c : UInt8} (hv : validD s = true) (hs : s ∉ names) (h : b.drop p = jQuote s ++ (58 :: c :: l)) (hc : jBlank c = false) : jName b names p = .ok (s, p + (jQuote s).length + 1) := by
  have hd : b.drop (p + (jQuote s).length) = 58 :: c :: l := drop_app h
  have h0 : b[p + (jQuote s).length]? = some 58 := by simpa using at_drop hd 0
  have h1 : b[p + (jQuote s).length + 1]? = some c := by simpa using at_drop hd 1
  unfold jName
  rw [jText_written hv h]
  simp only []
  rw [if_neg hs, jBlanks_stay h0 (by decide), jWord, h0]
  simp only []
  rw [if_pos trivial, jWord]
  simp only []
  rw [jBlanks_stay h1 hc]
theorem jManyL_written {b : List UInt8} {kind : Int} {fin : UInt8} {d : Nat} {val : Nat → Nat → JR (JV × Nat × Nat)} (hk : kind = 5 ∧ fin = 93 ∨ kind = 6 ∧ fin = 125) (hv : ReadOk b d val) : ∀ (ks : List JV) (ns names seen : List (List UInt8)) (kids : List JV) (p m m' f L : Nat) (rest : List UInt8), ks ≠ [] → JGoodL L ks → (kind = 6 → ns.length = ks.length) → (kind ≠ 6 → ns = []) → (kind = 6 → seen = names) →
    jRightL (jRight d) (kind == 6) seen ns ks m = some m' → b.drop p = jFullL (kind == 6) false ns ks ++ (fin :: rest) → ks.length < f →
    jManyL b kind fin val f p m names kids = .ok (.mk kind 0 [] (names ++ ns) (kids ++ ks), p + (jFullL (kind == 6) false ns ks).length + 1, m')
  | [], _, _, _, _, _, _, _, _, _, _, h, _, _, _, _, _, _, _ => absurd rfl h
  | v :: vs, ns, names, seen, kids, p, m, m', f, L, rest, _, hg, hn6, hn5, hse, hr, h, hf => by
    obtain ⟨f, rfl⟩ : ∃ g, f = g + 1 := ⟨f - 1, by simp at hf; omega⟩
    simp only [List.length_cons] at hf
    rw [JGoodL] at hg
    rw [jRightL] at hr
    split at hr
    · cases hr
    rename_i hbad
    cases hm : jRight d v m with
    | none => rw [hm] at hr; cases hr
    | some m1 =>
      rw [hm] at hr
      simp only [] at hr
      have hfin : jBlank fin = false ∧ jNumC fin = false ∧ fin ≠ 44 := by rcases hk with ⟨_, rfl⟩ | ⟨_, rfl⟩ <;> decide
      -- the name
      have hname : ∃ s q, (if kind = 6 then jName b names p else .ok ([], p)) = .ok (s, q) ∧ b.drop q = jFull v ++ (jFullL (kind == 6) true ns.tail vs ++ (fin :: rest)) ∧ (jFullL (kind == 6) false ns (v :: vs)).length + p = q + (jFull v).length + (jFullL (kind == 6) true ns.tail vs).length ∧ (if kind = 6 then names ++ [s] else names) ++ ns.tail = names ++ ns ∧ (kind = 6 → s = ns.headD []) := by
        rw [jFullL] at h ⊢
        by_cases h6 : kind = 6
        · subst h6
          obtain ⟨s, ns', rfl⟩ : ∃ s ns', ns = s :: ns' := by
            cases ns with
            | nil => exact absurd (hn6 rfl) (by simp)
            | cons s ns' => exact ⟨s, ns', rfl⟩
          simp only [beq_self_eq_true, if_true, if_false, List.headD_cons, List.tail_cons, List.nil_append, List.append_assoc, List.cons_append, true_and, Bool.false_eq_true] at h hbad ⊢
          have hvs : validD s = true := by cases hh : validD s; exact absurd (.inl hh) hbad; rfl
          have hns : s ∉ names := fun hh => hbad (.inr (by rw [hse rfl]; exact hh))
          obtain ⟨k0, n0, t0, ns0, ks0⟩ := v
          obtain ⟨c, l, hcl, hc, _⟩ := jFull_head k0 n0 t0 ns0 ks0
          refine ⟨s, _, jName_written (c := c) (l := l ++ (jFullL true true ns' vs ++ (fin :: rest))) hvs hns (by rw [h, hcl]; rfl) hc, ?_, ?_, rfl, fun _ => rfl⟩
          · have := drop_app (x := jQuote s ++ [58]) (y := jFull (.mk k0 n0 t0 ns0 ks0) ++ (jFullL true true ns' vs ++ (fin :: rest))) (b := b) (p := p) (by rw [h]; simp)
            rw [List.length_append] at this
            exact this
          · simp only [List.length_append, List.length_cons]
            omega
        · have hkb : (kind == 6) = false := by simpa using h6
          obtain rfl := hn5 h6
          rw [hkb] at h ⊢
          simp only [if_neg h6, Bool.false_eq_true, if_false, List.nil_append, List.tail_nil, List.append_assoc] at h ⊢
          exact ⟨_, _, rfl, h, by simp only [List.length_append]; omega, trivial, fun h => absurd h h6⟩
      obtain ⟨s, q, e1, e2, e3, e4, e5⟩ := hname
      have hnum : ∀ c, (jFullL (kind == 6) true ns.tail vs ++ (fin :: rest)).head? = some c → jNumC c = false := by
        intro c hc
        cases vs with
        | nil => rw [jFullL] at hc; injection hc with hc; rw [← hc]; exact hfin.2.1
        | cons u us => rw [jFullL_comma] at hc; injection hc with hc; rw [← hc]; decide
      have e6 := hv v q m m1 L _ hg.1 hm e2 hnum
      have e7 := drop_app e2
      rw [jManyL_go e1, e6]
      simp only []
      cases vs with
      | nil =>
        rw [jFullL] at e3 e7
        have hx : b[q + (jFull v).length]? = some fin := by simpa using at_drop e7 0
        rw [jBlanks_stay hx hfin.1, jNext, hx]
        simp only []
        rw [jRightL] at hr
        injection hr with hr
        simp only [List.length_nil, Nat.add_zero] at e3
        have ht : ns.tail = [] := by
          by_cases h6 : kind = 6
          · have := hn6 h6
            exact List.eq_nil_of_length_eq_zero (by rw [List.length_tail]; simp at this; omega)
          · rw [hn5 h6]; rfl
        rw [ht, List.append_nil] at e4
        rw [if_pos trivial, hr, e4, Nat.add_comm p, e3]
      | cons u us =>
        have e8 := e7
        rw [jFullL_comma] at e7 e3
        have hx : b[q + (jFull v).length]? = some 44 := by simpa using at_drop e7 0
        have hd : b.drop (q + (jFull v).length + 1) = jFullL (kind == 6) false ns.tail (u :: us) ++ (fin :: rest) := drop_app (x := [44]) e7
        obtain ⟨c, l, hcl, hc, _⟩ := @jFullL_head (kind == 6) ns.tail u us
        have hx1 : b[q + (jFull v).length + 1]? = some c := by
          have := at_drop hd 0
          rw [hcl] at this
          simpa using this
        rw [jBlanks_stay hx (by decide), jNext, hx]
        simp only []
        rw [if_neg (fun h => hfin.2.2 h.symm), jWord, hx]
        simp only []
        rw [if_pos trivial, jWord]
        simp only []
        rw [jBlanks_stay hx1 hc, jManyL_written hk hv (u :: us) ns.tail _ (seen ++ [ns.headD []]) _ _ m1 m' f L rest (by simp) hg.2 ?_ ?_ ?_ hr hd (by omega), e4, List.append_assoc]
        · congr 2
          simp only [List.length_cons, List.cons_append, List.nil_append] at e3 ⊢
          congr 1
          omega
        · intro h6
          have := hn6 h6
          rw [List.length_tail]
          simp only [List.length_cons] at this ⊢
          omega
        · intro h6; rw [hn5 h6]; rfl
        · intro h6; rw [hse h6, if_pos h6, e5 h6]
end Go.Proofs.YtdekogmegdhjoaaDoor

namespace Go.Proofs.YtdekogmegdhjoaaDoor
open Go.Lib
set_option linter.unusedSimpArgs false
set_option linter.unusedVariables false

theorem jFullL_ge : ∀ (ks : List JV) (obj more : Bool) (ns : List (List UInt8)), ks.length ≤ (jFullL obj more ns ks).length
  | [], _, _, _ => Nat.zero_le _
  | .mk k n t ns' ks' :: vs, obj, more, ns => by
    obtain ⟨c, l, h, _⟩ := jFull_head k n t ns' ks'
    have := jFullL_ge vs obj true ns.tail
    rw [jFullL, h]
    simp only [List.length_append, List.length_cons]
    omega
theorem jMany_written {b : List UInt8} {kind n : Int} {fin opn : UInt8} {d : Nat} {val : Nat → Nat → JR (JV × Nat × Nat)} {t : List UInt8} {ns : List (List UInt8)} {ks : List JV} {p m m' L : Nat} {rest : List UInt8} (hk : kind = 5 ∧ fin = 93 ∨ kind = 6 ∧ fin = 125) (hv : ReadOk b d val) (hg : JGood L (.mk kind n t ns ks)) (hr : jRight (d + 1) (.mk kind n t ns ks) m = some m')
    (h : b.drop p = [opn] ++ (jFullL (kind == 6) false ns ks ++ (fin :: rest))) : jMany b kind fin (some val) p (m + 1) = .ok (.mk kind n t ns ks, p + ((jFullL (kind == 6) false ns ks).length + 2), m') := by
  rw [JGood] at hg
  obtain ⟨g1, g2, g3, g4, g5, g6, -, -, -, -, g7⟩ := hg
  obtain rfl := g3 (by omega)
  obtain rfl := g4 (by omega)
  have hd : b.drop (p + 1) = jFullL (kind == 6) false ns ks ++ (fin :: rest) := drop_app (x := [opn]) h
  have hfin : jBlank fin = false := by rcases hk with ⟨_, rfl⟩ | ⟨_, rfl⟩ <;> decide
  rw [jRight] at hr
  split at hr
  · cases hr
  rw [if_neg (by omega)] at hr
  split at hr
  · cases hr
  rename_i hlen
  have hl6 : kind = 6 → ns.length = ks.length := fun h6 => Decidable.byContradiction fun hh => hlen ⟨h6, hh⟩
  unfold jMany
  simp only []
  cases ks with
  | nil =>
    have hns : ns = [] := by
      by_cases h6 : kind = 6
      · exact List.eq_nil_of_length_eq_zero (hl6 h6)
      · exact g5 h6
    subst hns
    rw [jFullL] at hd ⊢
    have hx : b[p + 1]? = some fin := by simpa using at_drop hd 0
    rw [jRightL] at hr
    injection hr with hr
    rw [jBlanks_stay hx hfin, jNext, hx]
    simp only []
    rw [if_pos trivial, hr]
    rfl
  | cons v vs =>
    obtain ⟨c, l, hcl, hc, hc1, hc2⟩ := @jFullL_head (kind == 6) ns v vs
    have hx : b[p + 1]? = some c := by
      have := at_drop hd 0
      rw [hcl] at this
      simpa using this
    have hge := jFullL_ge (v :: vs) (kind == 6) false ns
    have hbl := congrArg List.length hd
    simp only [List.length_drop, List.length_append, List.length_cons] at hbl hge
    rw [jBlanks_stay hx hc, jNext, hx]
    simp only []
    rw [if_neg (by rcases hk with ⟨_, rfl⟩ | ⟨_, rfl⟩; exact hc1; exact hc2), jManyL_written hk hv (v :: vs) ns [] [] [] (p + 1) (m + 1) m' _ L rest (by simp) g7 hl6 g5 (fun _ => rfl) hr hd (by simp only [List.length_cons]; omega)]
    simp only [List.nil_append]
    congr 2
    congr 1
    omega
theorem jValue_written {b : List UInt8} : ∀ (d : Nat), ReadOk b d (jValue b d)
  | d, .mk k n t ns ks, p, m, m', L, rest, hg, hr, h, hrest => by
    by_cases hb : jBad k n t m
    · rw [jRight_bad hb] at hr; cases hr
    by_cases hk : k < 5
    · rw [jRight_leaf hb hk] at hr
      injection hr with hr
      rw [← hr]
      cases d <;> (rw [jValue]; exact jLeaf_written hg hb hk h hrest)
    · cases d with
      | zero => rw [jRight, if_neg hb, if_neg hk] at hr; cases hr
      | succ d =>
        have hm : m ≠ 4096 := fun h => hb (.inl (by omega))
        have hk6 : k ≤ 6 := Decidable.byContradiction fun hh => hb (.inr (.inr (.inl (by omega))))
        have ih := jValue_written (b := b) d
        rw [jValue, jValueW]
        rcases (by omega : k = 5 ∨ k = 6) with rfl | rfl
        · have hf : jFull (.mk 5 n t ns ks) = [91] ++ (jFullL ((5 : Int) == 6) false ns ks ++ [93]) := by rw [jFull]; rfl
          rw [hf, List.append_assoc, List.append_assoc] at h
          rw [hf, show b[p]? = some 91 by simpa using at_drop h 0]
          simp only []
          rw [if_neg hm, if_neg (by decide), if_neg (by decide), if_neg (by decide), if_neg (by decide), if_neg (by decide), if_pos trivial, jMany_written (.inl ⟨rfl, rfl⟩) ih hg hr h]
          simp only [List.length_append, List.length_cons, List.length_nil]
          congr 2
          congr 1
          omega
        · have hf : jFull (.mk 6 n t ns ks) = [123] ++ (jFullL ((6 : Int) == 6) false ns ks ++ [125]) := by rw [jFull]; rfl
          rw [hf, List.append_assoc, List.append_assoc] at h
          rw [hf, show b[p]? = some 123 by simpa using at_drop h 0]
          simp only []
          rw [if_neg hm, if_neg (by decide), if_neg (by decide), if_neg (by decide), if_neg (by decide), if_neg (by decide), if_neg (by decide), if_pos trivial, jMany_written (.inr ⟨rfl, rfl⟩) ih hg hr h]
          simp only [List.length_append, List.length_cons, List.length_nil]
          congr 2
          congr 1
          omega
/-- What is written of a bare value that is right is read as that value. -/
theorem jParse_written {v : JV} {L x : Nat} (hg : JGood L v) (hr : jRight 16 v 0 = some x) (hl : (jFull v).length ≤ 65536) : jParse (jFull v) = .ok v := by
  have h := jValue_written (b := jFull v) 16 v 0 0 x L [] hg hr (by simp) (fun c hc => by cases hc)
  have hb : jBlanks (jFull v) 0 = 0 := by
    obtain ⟨k, n, t, ns, ks⟩ := v
    obtain ⟨c, l, hcl, hc, _⟩ := jFull_head k n t ns ks
    exact jBlanks_stay (by rw [hcl]; rfl) hc
  unfold jParse
  rw [if_neg (by omega), hb, h]
  simp only []
  have := jBlanks_ge (jFull v) (0 + (jFull v).length)
  rw [if_neg (by omega)]
end Go.Proofs.YtdekogmegdhjoaaDoor

namespace Go.Proofs.YtdekogmegdhjoaaDoor
set_option linter.unusedSimpArgs false
set_option linter.unusedVariables false

theorem jCutL_right {f : JV → Nat → Option Nat} {D L : Nat} (hf : ∀ v m x, JGood L v → f v m = some x → jCut D v = v) {obj : Bool} : ∀ (ks : List JV) (seen ns : List (List UInt8)) (m x : Nat), JGoodL L ks → jRightL f obj seen ns ks m = some x → ks.map (jCut D) = ks
  | [], _, _, _, _, _, _ => rfl
  | v :: vs, seen, ns, m, x, hg, h => by
    rw [JGoodL] at hg
    rw [jRightL] at h
    split at h
    · cases h
    · cases hv : f v m with
      | none => rw [hv] at h; cases h
      | some m' =>
        rw [hv] at h
        rw [List.map_cons, hf v m m' hg.1 hv, jCutL_right hf vs _ _ m' x hg.2 h]
/-- A value that is right is no deeper than it may be. -/
theorem jCut_right : ∀ (d D L : Nat) (v : JV) (m x : Nat), d ≤ D → JGood L v → jRight d v m = some x → jCut D v = v
  | d, D, L, .mk k n t ns ks, m, x, hD, hg, hr => by
    have hg' := hg
    rw [JGood] at hg
    obtain ⟨-, -, -, -, -, g6, -, -, -, -, g7⟩ := hg
    by_cases hk : k < 5
    · obtain rfl := g6 hk
      cases D <;> rw [jCut] <;> rfl
    · cases d with
      | zero =>
        rw [jRight, if_neg hk] at hr
        split at hr <;> cases hr
      | succ d =>
        obtain ⟨D, rfl⟩ : ∃ E, D = E + 1 := ⟨D - 1, by omega⟩
        rw [jRight, if_neg hk] at hr
        split at hr
        · cases hr
        split at hr
        · cases hr
        rw [jCut, jCutL_right (fun v m x hg hv => jCut_right d D L v m x (by omega) hg hv) ks _ _ _ _ g7 hr]
end Go.Proofs.YtdekogmegdhjoaaDoor

namespace Go.Proofs.YtdekogmegdhjoaaDoor
open Go.Lib
set_option linter.unusedSimpArgs false
set_option linter.unusedVariables false

mutual
/-- A value without what isn't written. -/
def jBare : JV → JV
  | .mk k n t ns ks => .mk k (if k = 3 then n else 0) (if k = 4 then t else []) (if k = 6 then ns else []) (if 5 ≤ k then jBareL ks else [])
def jBareL : List JV → List JV
  | [] => []
  | v :: vs => jBare v :: jBareL vs
end
theorem jBareL_map : ∀ ks : List JV, jBareL ks = ks.map jBare
  | [] => rfl
  | v :: vs => by rw [jBareL, jBareL_map vs, List.map_cons]
theorem jRightL_bare {f : JV → Nat → Option Nat} (hf : ∀ v m x, f v m = some x → f (jBare v) m = some x) {obj : Bool} : ∀ (ks : List JV) (seen ns ns' : List (List UInt8)) (m x : Nat), (obj = true → ns' = ns) → jRightL f obj seen ns ks m = some x → ∀ seen', (obj = true → seen' = seen) → jRightL f obj seen' ns' (jBareL ks) m = some x
  | [], _, _, _, _, _, _, h, _, _ => h
  | v :: vs, seen, ns, ns', m, x, hn, h, seen', hs => by
    rw [jRightL] at h
    rw [jBareL, jRightL]
    split at h
    · cases h
    · rename_i hc
      cases hv : f v m with
      | none => rw [hv] at h; cases h
      | some m' =>
        rw [hv] at h
        rw [hf v m m' hv, if_neg (by rintro ⟨ho, h2⟩; rw [hn ho, hs ho] at h2; exact hc ⟨ho, h2⟩)]
        exact jRightL_bare hf vs _ _ _ m' x (fun ho => by rw [hn ho]) h _ (fun ho => by rw [hn ho, hs ho])
theorem jBad_bare {k n : Int} {t : List UInt8} {m : Nat} (h : ¬ jBad k n t m) : ¬ jBad k (if k = 3 then n else 0) (if k = 4 then t else []) m := by
  unfold jBad at *
  rintro (h1 | h1 | h1 | h1 | h1 | h1)
  · exact h (.inl h1)
  · exact h (.inr (.inl h1))
  · exact h (.inr (.inr (.inl h1)))
  · split at h1
    · exact h (.inr (.inr (.inr (.inl h1))))
    · cases h1
  · split at h1
    · exact h (.inr (.inr (.inr (.inr (.inl h1)))))
    · omega
  · split at h1
    · exact h (.inr (.inr (.inr (.inr (.inr h1)))))
    · omega
theorem jBareL_len : ∀ ks : List JV, (jBareL ks).length = ks.length := fun ks => by rw [jBareL_map, List.length_map]
theorem jRight_bare : ∀ (d : Nat) (v : JV) (m x : Nat), jRight d v m = some x → jRight d (jBare v) m = some x
  | 0, .mk k n t ns ks, m, x, h => by
    rw [jRight] at h
    rw [jBare, jRight]
    split at h
    · cases h
    · rename_i hb
      rw [if_neg (jBad_bare hb)]
      exact h
  | d + 1, .mk k n t ns ks, m, x, h => by
    rw [jRight] at h
    rw [jBare, jRight]
    split at h
    · cases h
    · rename_i hb
      rw [if_neg (jBad_bare hb)]
      split at h
      · rename_i hk; rw [if_pos hk]; exact h
      · rename_i hk
        rw [if_neg hk]
        split at h
        · cases h
        · rename_i hl
          rw [if_pos (show 5 ≤ k by omega), if_neg]
          · exact jRightL_bare (jRight_bare d) ks [] ns _ _ _ (fun ho => by rw [if_pos (beq_iff_eq.1 ho)]) h [] (fun _ => rfl)
          · rintro ⟨h6, h7⟩
            rw [if_pos h6, jBareL_len] at h7
            exact hl ⟨h6, h7⟩
theorem jFullL_bare {f : JV → Nat → Option Nat} (hf : ∀ v m x, f v m = some x → jFull (jBare v) = jFull v) {obj : Bool} : ∀ (ks : List JV) (seen ns ns' : List (List UInt8)) (m x : Nat) (more : Bool), (obj = true → ns' = ns) → jRightL f obj seen ns ks m = some x → jFullL obj more ns' (jBareL ks) = jFullL obj more ns ks
  | [], _, _, _, _, _, _, _, _ => by rw [jBareL, jFullL, jFullL]
  | v :: vs, seen, ns, ns', m, x, more, hn, h => by
    rw [jRightL] at h
    rw [jBareL, jFullL, jFullL]
    split at h
    · cases h
    · cases hv : f v m with
      | none => rw [hv] at h; cases h
      | some m' =>
        rw [hv] at h
        rw [hf v m m' hv, jFullL_bare hf vs _ _ _ m' x true (fun ho => by rw [hn ho]) h]
        cases obj with
        | false => rfl
        | true => rw [hn rfl]
theorem jFull_bare : ∀ (d : Nat) (v : JV) (m x : Nat), jRight d v m = some x → jFull (jBare v) = jFull v
  | 0, .mk k n t ns ks, m, x, h => by
    rw [jRight] at h
    rw [jBare, jFull, jFull]
    split at h
    · cases h
    · rename_i hb
      have h0 : ¬ k < 0 := fun h => hb (.inr (.inl h))
      split at h
      · rename_i hk
        rcases (by omega : k = 0 ∨ k = 1 ∨ k = 2 ∨ k = 3 ∨ k = 4) with rfl | rfl | rfl | rfl | rfl <;> rfl
      · cases h
  | d + 1, .mk k n t ns ks, m, x, h => by
    rw [jRight] at h
    rw [jBare, jFull, jFull]
    split at h
    · cases h
    · rename_i hb
      have h0 : ¬ k < 0 := fun h => hb (.inr (.inl h))
      have h6 : ¬ 6 < k := fun h => hb (.inr (.inr (.inl h)))
      split at h
      · rename_i hk
        rcases (by omega : k = 0 ∨ k = 1 ∨ k = 2 ∨ k = 3 ∨ k = 4) with rfl | rfl | rfl | rfl | rfl <;> rfl
      · rename_i hk
        split at h
        · cases h
        · rcases (by omega : k = 5 ∨ k = 6) with rfl | rfl
          · have := jFullL_bare (jFull_bare d) ks [] ns [] _ _ false (fun ho => by cases ho) h
            simp only [show ((5 : Int) = 3) = False by simp, show ((5 : Int) = 6) = False by simp, if_false]
            rw [if_pos (show (5 : Int) ≤ 5 by omega)]
            simp only [show ((5 : Int) = 0) = False by simp, show ((5 : Int) = 1) = False by simp, show ((5 : Int) = 2) = False by simp, show ((5 : Int) = 4) = False by simp, if_false]
            rw [show ((5 : Int) == 6) = false by decide] at this
            rw [this]
          · have := jFullL_bare (jFull_bare d) ks [] ns ns _ _ false (fun _ => rfl) h
            simp only [show ((6 : Int) = 3) = False by simp, if_false, if_true]
            rw [if_pos (show (5 : Int) ≤ 6 by omega)]
            simp only [show ((6 : Int) = 0) = False by simp, show ((6 : Int) = 1) = False by simp, show ((6 : Int) = 2) = False by simp, show ((6 : Int) = 4) = False by simp, if_false]
            rw [show ((6 : Int) == 6) = true by decide] at this
            rw [this]
theorem jTotL_len : ∀ ks : List JV, ks.length ≤ jTotL ks
  | [] => Nat.le_refl _
  | v :: vs => by
    have h1 := jTotL_len vs
    have h2 := jTot_pos v
    rw [jTotL, List.length_cons]
    omega
theorem goodL_bare {f : JV → Nat → Option Nat} {L : Nat} (hf : ∀ v m x, jW v ≤ L → f v m = some x → JGood L (jBare v)) {obj : Bool} : ∀ (ks : List JV) (seen ns : List (List UInt8)) (m x : Nat), jWL ks ≤ L → jRightL f obj seen ns ks m = some x → JGoodL L (jBareL ks)
  | [], _, _, _, _, _, _ => by rw [jBareL, JGoodL]; trivial
  | v :: vs, seen, ns, m, x, hw, h => by
    rw [jWL] at hw
    rw [jRightL] at h
    rw [jBareL, JGoodL]
    split at h
    · cases h
    · cases hv : f v m with
      | none => rw [hv] at h; cases h
      | some m' =>
        rw [hv] at h
        exact ⟨hf v m m' (by omega) hv, goodL_bare hf vs _ _ m' x (by omega) h⟩
/-- A value that is right is good, once it is bare. -/
theorem good_bare (L : Nat) : ∀ (d : Nat) (v : JV) (m x : Nat), jW v ≤ L → jRight d v m = some x → JGood L (jBare v)
  | d, .mk k n t ns ks, m, x, hw, h => by
    have htot : m + jTot (.mk k n t ns ks) ≤ 4096 := by
      have h2 := h
      rw [jRight_doc] at h2
      split at h2
      · rename_i h3; exact h3.2
      · cases h2
    rw [jTot] at htot
    rw [jW] at hw
    have hkl := jTotL_len ks
    have hns := fun s hs => jWn_mem (ns := ns) (s := s) hs
    rw [jBare, JGood]
    cases d with
    | zero =>
      rw [jRight] at h
      split at h
      · cases h
      · rename_i hb
        have h0 : ¬ k < 0 := fun h => hb (.inr (.inl h))
        split at h
        · rename_i hk
          rw [if_neg (show ¬ k = 6 by omega), if_neg (show ¬ 5 ≤ k by omega)]
          refine ⟨by omega, by omega, fun h => by rw [if_neg h], fun h => by rw [if_neg h], fun _ => rfl, fun _ => rfl, ?_, (fun s hs => by cases hs), by simp, by simp, by rw [JGoodL]; trivial⟩
          split
          · omega
          · simp
        · cases h
    | succ d =>
      rw [jRight] at h
      split at h
      · cases h
      · rename_i hb
        have h0 : ¬ k < 0 := fun h => hb (.inr (.inl h))
        have h6 : ¬ 6 < k := fun h => hb (.inr (.inr (.inl h)))
        split at h
        · rename_i hk
          rw [if_neg (show ¬ k = 6 by omega), if_neg (show ¬ 5 ≤ k by omega)]
          refine ⟨by omega, by omega, fun h => by rw [if_neg h], fun h => by rw [if_neg h], fun _ => rfl, fun _ => rfl, ?_, (fun s hs => by cases hs), by simp, by simp, by rw [JGoodL]; trivial⟩
          split
          · omega
          · simp
        · rename_i hk
          split at h
          · cases h
          · rename_i hl
            rw [if_pos (show 5 ≤ k by omega)] at htot
            rw [if_pos (show 5 ≤ k by omega)]
            have hg := goodL_bare (fun v m x => good_bare L d v m x) ks _ _ _ _ (by omega) h
            refine ⟨by omega, by omega, fun h => by rw [if_neg h], fun h => by rw [if_neg h], fun h => by rw [if_neg h], fun h => absurd h hk, ?_, ?_, ?_, by rw [jBareL_len]; omega, hg⟩
            · split
              · omega
              · simp
            · intro s hs
              split at hs
              · have := hns s hs; omega
              · cases hs
            · split
              · rename_i h6'
                have : ns.length = ks.length := Decidable.byContradiction fun hh => hl ⟨h6', hh⟩
                omega
              · simp
/-- What is written of a value is read as that value without what isn't written. -/
theorem jBack {v : JV} (hw : jW v ≤ 1048576) {l : List UInt8} (h : jWrite v = (l, 0)) : jParse l = .ok (jBare v) ∧ JGood 1048576 (jBare v) ∧ jCut 20 (jBare v) = jBare v := by
  unfold jWrite at h
  split at h
  · injection h with h1 h2; cases h2
  · rename_i x hx
    split at h
    · injection h with h1 h2; cases h2
    · rename_i hl
      injection h with h1 h2
      have hr := jRight_bare 16 v 0 x hx
      have hf := jFull_bare 16 v 0 x hx
      have hg := good_bare 1048576 16 v 0 x hw hx
      refine ⟨?_, hg, jCut_right 16 20 _ _ 0 x (by decide) hg hr⟩
      rw [← h1, ← hf]
      exact jParse_written hg hr (by rw [hf]; omega)
end Go.Proofs.YtdekogmegdhjoaaDoor

namespace Go.Proofs.YtdekogmegdhjoaaDoor
open Go.RowKit

def jCutL (f : JV → Nat → JV × Nat) : List JV → Nat → List JV × Nat
  | [], m => ([], m)
  | _ :: _, 0 => ([], 0)
  | v :: vs, m + 1 => ((f v m).1 :: (jCutL f vs (f v m).2).1, (jCutL f vs (f v m).2).2)
/-- A value, so deep, of so many kids at most; how many may still come. -/
def jCutN : Nat → JV → Nat → JV × Nat
  | 0, .mk k n t ns _, m => (.mk k n t ns [], m)
  | d + 1, .mk k n t ns ks, m => (.mk k n t ns (jCutL (jCutN d) ks m).1, (jCutL (jCutN d) ks m).2)
theorem jCutL_le {f : JV → Nat → JV × Nat} (hf : ∀ v m, (f v m).2 ≤ m) : ∀ (ks : List JV) (m : Nat), (jCutL f ks m).2 ≤ m
  | [], m => Nat.le_refl _
  | _ :: _, 0 => Nat.le_refl _
  | v :: vs, m + 1 => by
    rw [jCutL]
    have h1 := jCutL_le hf vs (f v m).2
    have h2 := hf v m
    simp only []
    omega
theorem jCutN_le : ∀ (d : Nat) (v : JV) (m : Nat), (jCutN d v m).2 ≤ m
  | 0, .mk k n t ns ks, m => by rw [jCutN]; exact Nat.le_refl _
  | d + 1, .mk k n t ns ks, m => by rw [jCutN]; exact jCutL_le (jCutN_le d) ks m
theorem jCutL_step {f : JV → Nat → JV × Nat} {ks ys : List JV} {i m m' : Nat} {v : JV} (hv : ks[i]? = some v) (h : jCutL f ks m = (ys ++ (jCutL f (ks.drop i) (m' + 1)).1, (jCutL f (ks.drop i) (m' + 1)).2)) :
    jCutL f ks m = (ys ++ [(f v m').1] ++ (jCutL f (ks.drop (i + 1)) (f v m').2).1, (jCutL f (ks.drop (i + 1)) (f v m').2).2) := by
  rw [h, List.drop_eq_getElem_cons (List.getElem?_eq_some_iff.1 hv).1, (List.getElem?_eq_some_iff.1 hv).2, jCutL]
  simp
theorem jCutL_zero {f : JV → Nat → JV × Nat} (ks : List JV) : jCutL f ks 0 = ([], 0) := by cases ks <;> rfl
mutual
/-- A value that was laid anew of one that came in: its names read as they came in, in blocks below B; of its kids the entries tell. -/
def VC (w : World) (B : Nat) : JV → List Value → List Ent → Prop
  | .mk k n t ns ks, cs, es => ∃ (An : Option Addr) (nn cn : Nat) (Ak : Option Addr) (nk ck : Nat) (xs : List Value) (TE : List Ent), nn ≤ cn ∧ nk ≤ ck ∧
      cs = vlL k n ⟨t.toArray⟩ (.slice An nn cn) (.slice Ak nk ck) ∧ Rd w (· < B) An 1 nn (ns.map strv) ∧ es = .rd Ak 5 nk xs :: TE ∧ VCL w B ks xs TE
def VCL (w : World) (B : Nat) : List JV → List Value → List Ent → Prop
  | [], xs, TE => xs = [] ∧ TE = []
  | v :: vs, xs, TE => ∃ (cs ys : List Value) (E1 E2 : List Ent), xs = cs ++ ys ∧ TE = E1 ++ E2 ∧ VC w B v cs E1 ∧ VCL w B vs ys E2
end
section
variable {w w' : World} {B : Nat}
theorem VC.mk_ {k n : Int} {t : List UInt8} {ns : List (List UInt8)} {ks : List JV} {An Ak : Option Addr} {nn cn nk ck : Nat} {xs : List Value} {TE : List Ent} (h1 : nn ≤ cn) (h2 : nk ≤ ck) (hr : Rd w (· < B) An 1 nn (ns.map strv)) (h : VCL w B ks xs TE) :
    VC w B (.mk k n t ns ks) (vlL k n ⟨t.toArray⟩ (.slice An nn cn) (.slice Ak nk ck)) (.rd Ak 5 nk xs :: TE) := by
  unfold VC
  exact ⟨_, _, _, _, _, _, _, _, h1, h2, rfl, hr, rfl, h⟩
theorem VC.len {v : JV} {cs : List Value} {es : List Ent} (h : VC w B v cs es) : cs.length = 5 := by
  cases v
  unfold VC at h
  obtain ⟨_, _, _, _, _, _, _, _, _, _, rfl, _⟩ := h
  rfl
theorem VC.one {v : JV} {cs : List Value} {es : List Ent} (h : VC w B v cs es) : ∀ u ∈ cs, u.oneCell' = true := by
  cases v
  unfold VC at h
  obtain ⟨_, _, _, _, _, _, _, _, _, _, rfl, _⟩ := h
  exact vlL_one
theorem VCL.nil : VCL w B [] [] [] := by unfold VCL; exact ⟨rfl, rfl⟩
theorem VCL.snoc : ∀ {ks : List JV} {v : JV} {xs cs : List Value} {TE es : List Ent}, VCL w B ks xs TE → VC w B v cs es → VCL w B (ks ++ [v]) (xs ++ cs) (TE ++ es)
  | [], v, xs, cs, TE, es, h, hv => by
    unfold VCL at h
    obtain ⟨rfl, rfl⟩ := h
    rw [List.nil_append, List.nil_append, List.nil_append, VCL]
    exact ⟨cs, [], es, [], by simp, by simp, hv, VCL.nil⟩
  | k :: ks, v, xs, cs, TE, es, h, hv => by
    rw [VCL] at h
    obtain ⟨c1, ys, E1, E2, rfl, rfl, h1, h2⟩ := h
    rw [List.cons_append, VCL]
    exact ⟨c1, ys ++ cs, E1, E2 ++ es, by simp, by simp, h1, VCL.snoc h2 hv⟩
theorem VCL.len : ∀ {ks : List JV} {xs : List Value} {TE : List Ent}, VCL w B ks xs TE → xs.length = ks.length * 5
  | [], xs, TE, h => by unfold VCL at h; rw [h.1]; rfl
  | k :: ks, xs, TE, h => by
    rw [VCL] at h
    obtain ⟨c1, ys, E1, E2, rfl, rfl, h1, h2⟩ := h
    rw [List.length_append, h1.len, VCL.len h2, List.length_cons]
    omega
mutual
theorem VC.keep (hk : ∀ k, k < B → w'.heap[k]? = w.heap[k]?) : ∀ (v : JV) {cs : List Value} {es : List Ent}, VC w B v cs es → VC w' B v cs es
  | .mk k n t ns ks, cs, es, h => by
    rw [VC] at h ⊢
    obtain ⟨An, nn, cn, Ak, nk, ck, xs, TE, h1, h2, rfl, hr, rfl, h3⟩ := h
    exact ⟨An, nn, cn, Ak, nk, ck, xs, TE, h1, h2, rfl, hr.same hk, rfl, VCL.keep hk ks h3⟩
theorem VCL.keep (hk : ∀ k, k < B → w'.heap[k]? = w.heap[k]?) : ∀ (vs : List JV) {xs : List Value} {TE : List Ent}, VCL w B vs xs TE → VCL w' B vs xs TE
  | [], xs, TE, h => by rw [VCL] at h ⊢; exact h
  | v :: vs, xs, TE, h => by
    rw [VCL] at h ⊢
    obtain ⟨cs, ys, E1, E2, rfl, rfl, h1, h2⟩ := h
    exact ⟨cs, ys, E1, E2, rfl, rfl, VC.keep hk v h1, VCL.keep hk vs h2⟩
end
mutual
theorem VC.rd {S : Nat → Prop} (hS : ∀ k, k < B → S k) (hk : ∀ k, k < B → w'.heap[k]? = w.heap[k]?) : ∀ (v : JV) {cs : List Value} {es : List Ent}, VC w B v cs es → (∀ e ∈ es, e.holds w' ∧ ∀ b, e.block = some b → S b) → VRd w' S v cs
  | .mk k n t ns ks, cs, es, h, hh => by
    rw [VC] at h
    obtain ⟨An, nn, cn, Ak, nk, ck, xs, TE, h1, h2, rfl, hr, rfl, h3⟩ := h
    rw [VRd]
    exact ⟨An, nn, cn, Ak, nk, ck, xs, h1, h2, rfl, (hr.same hk).mono hS, rd_of_ent (hh _ (by simp)).1 (hh _ (by simp)).2, VCL.rd hS hk ks h3 fun e he => hh e (by simp [he])⟩
theorem VCL.rd {S : Nat → Prop} (hS : ∀ k, k < B → S k) (hk : ∀ k, k < B → w'.heap[k]? = w.heap[k]?) : ∀ (vs : List JV) {xs : List Value} {TE : List Ent}, VCL w B vs xs TE → (∀ e ∈ TE, e.holds w' ∧ ∀ b, e.block = some b → S b) → VRdL w' S vs xs
  | [], xs, TE, h, _ => by rw [VCL] at h; rw [VRdL]; exact h.1
  | v :: vs, xs, TE, h, hh => by
    rw [VCL] at h
    obtain ⟨cs, ys, E1, E2, rfl, rfl, h1, h2⟩ := h
    rw [VRdL]
    exact ⟨cs, ys, rfl, VC.rd hS hk v h1 fun e he => hh e (by simp [he]), VCL.rd hS hk vs h2 fun e he => hh e (by simp [he])⟩
end
/-- A value of a frame, read in its world. -/
theorem VC.rdF {X : List Nat} {w0 : World} {v : JV} {cs : List Value} {es' es : List Ent} (h : VC w B v cs es') (hF : Fr X w0 w' es) (hB : B ≤ w'.heap.size) (hb : Below B w w') (hs : ∀ e ∈ es', e ∈ es) : VRd w' (· < w'.heap.size) v cs :=
  VC.rd (fun _ h => Nat.lt_of_lt_of_le h hB) (fun k hk => hb.block k hk) v h fun e he => by
    obtain ⟨i, hi⟩ := List.mem_iff_getElem?.1 (hs e he)
    exact ⟨hF.holds i e hi, fun b hb => Ent.lt (hF.holds i e hi) hb⟩
end
end Go.Proofs.YtdekogmegdhjoaaDoor
