/-
 Layer 6, plain law: texts that are read are texts. No program is named here.
 Layer 6, plain law: what is read is right, bare, and not too long when it is written. No program is named here.
 Layer 6, plain law: a text that is written is read as that text. No program is named here.
 Layer 6, plain law: a value that is written is read as that value. No program is named here.
 Layer 6, plain law: lists and objects that are written are read as themselves. No program is named here.
 Layer 6, plain law: what is written of a bare value that is right is read as that value. No program is named here.
 Layer 6, plain law: a value that is right is no deeper than it may be. No program is named here.
 Layer 6, plain words: a value without what isn't written. No program is named here.
 Layer 8, plain words: which documents may be written, and as which value; what is written is read as that document. No program is named here.
 Layer 7: the walks of the document's IsMedia.
 Layer 8: the document's media, walked.
 Two structs compared, field by field: whole numbers, texts, yes-or-no, arrays of bytes. No program is named here.
 Layer 8: the document's notes, walked.
-/
import Derived.Test.YtlhicfpmlncomaaGreatDoorF07
import Derived.Test.YtlhicfpmlncomaaGreatDoorF02
import Derived.Lib.ValidLaws
import Derived.Test.YtlhicfpmlncomaaGreatDoorF11
import Derived.Test.YtlhicfpmlncomaaGreatDoorF08
import Derived.Laws.StructEq
import Derived.Test.YtlhicfpmlncomaaGreatDoorF00
set_option linter.unusedSimpArgs false
set_option linter.unusedVariables false
namespace Go.Proofs.YtlhicfpmlncomaaGreatDoor
open Go.Lib
set_option maxRecDepth 100000 in
set_option maxHeartbeats 4000000 in
theorem check_jSize (c : UInt8) (t : List UInt8) (h0 : 128 ≤ c.toNat) :
  checkN (t.length + 1) (t.getD 0 0).toNat (t.getD 1 0).toNat (t.getD 2 0).toNat (firstT c.toNat % 8) (accLo (firstT c.toNat / 16)) (accHi (firstT c.toNat / 16)) = if jSize (c :: t) = 0 then none else some (jSize (c :: t)) := by
 have hc := c.toNat_lt
 have key : ∀ sz lo hi, firstT c.toNat % 8 = sz → accLo (firstT c.toNat / 16) = lo → accHi (firstT c.toNat / 16) = hi →
   checkN (t.length + 1) (t.getD 0 0).toNat (t.getD 1 0).toNat (t.getD 2 0).toNat sz lo hi = (if jSize (c :: t) = 0 then none else some (jSize (c :: t))) →
   checkN (t.length + 1) (t.getD 0 0).toNat (t.getD 1 0).toNat (t.getD 2 0).toNat (firstT c.toNat % 8) (accLo (firstT c.toNat / 16)) (accHi (firstT c.toNat / 16)) = if jSize (c :: t) = 0 then none else some (jSize (c :: t)) := fun sz lo hi e1 e2 e3 h => by
  rw [e1, e2, e3, h]
 by_cases c0 : c.toNat < 194
 ·refine key (firstT c.toNat % 8) (accLo (firstT c.toNat / 16)) (accHi (firstT c.toNat / 16)) rfl rfl rfl ?_
  simp [checkN, jSize, firstT, show ¬ c.toNat < 128 by omega, show c.toNat < 194 by omega, show c.toNat < 224 by omega, show c.toNat < 240 by omega, show c.toNat < 245 by omega]
 by_cases c1 : c.toNat < 224
 ·refine key 2 128 191 (by simp [firstT, show ¬ c.toNat < 128 by omega, c0, c1]) (by simp [firstT, accLo, show ¬ c.toNat < 128 by omega, c0, c1]) (by simp [firstT, accHi, show ¬ c.toNat < 128 by omega, c0, c1]) ?_
  rcases t with _ | ⟨x, _ | ⟨y, _ | ⟨z, t⟩⟩⟩ <;> simp [checkN, jSize, jCont, show ¬ c.toNat < 128 by omega, show ¬ c.toNat < 194 by omega, show c.toNat < 224 by omega, show c.toNat < 240 by omega, show c.toNat < 245 by omega] <;> (repeat' split) <;> first | omega | (simp_all; done) | (simp_all; omega)
 by_cases c2 : c.toNat = 224
 ·refine key 3 160 191 (by rw [c2]; decide) (by rw [c2]; decide) (by rw [c2]; decide) ?_
  rcases t with _ | ⟨x, _ | ⟨y, _ | ⟨z, t⟩⟩⟩ <;> simp [checkN, jSize, jCont, show ¬ c.toNat < 128 by omega, show ¬ c.toNat < 194 by omega, show ¬ c.toNat < 224 by omega, show c.toNat < 240 by omega, show c.toNat < 245 by omega] <;> (repeat' split) <;> first | omega | (simp_all; done) | (simp_all; omega)
 by_cases c3 : c.toNat < 237
 ·refine key 3 128 191 (by simp [firstT, show ¬ c.toNat < 128 by omega, c0, c1, c2, c3]) (by simp [firstT, accLo, show ¬ c.toNat < 128 by omega, c0, c1, c2, c3]) (by simp [firstT, accHi, show ¬ c.toNat < 128 by omega, c0, c1, c2, c3]) ?_
  rcases t with _ | ⟨x, _ | ⟨y, _ | ⟨z, t⟩⟩⟩ <;> simp [checkN, jSize, jCont, show ¬ c.toNat < 128 by omega, show ¬ c.toNat < 194 by omega, show ¬ c.toNat < 224 by omega, show c.toNat < 240 by omega, show c.toNat < 245 by omega] <;> (repeat' split) <;> first | omega | (simp_all; done) | (simp_all; omega)
 by_cases c4 : c.toNat = 237
 ·refine key 3 128 159 (by rw [c4]; decide) (by rw [c4]; decide) (by rw [c4]; decide) ?_
  rcases t with _ | ⟨x, _ | ⟨y, _ | ⟨z, t⟩⟩⟩ <;> simp [checkN, jSize, jCont, show ¬ c.toNat < 128 by omega, show ¬ c.toNat < 194 by omega, show ¬ c.toNat < 224 by omega, show c.toNat < 240 by omega, show c.toNat < 245 by omega] <;> (repeat' split) <;> first | omega | (simp_all; done) | (simp_all; omega)
 by_cases c5 : c.toNat < 240
 ·refine key 3 128 191 (by simp [firstT, show ¬ c.toNat < 128 by omega, c0, c1, c2, c3, c4, c5]) (by simp [firstT, accLo, show ¬ c.toNat < 128 by omega, c0, c1, c2, c3, c4, c5]) (by simp [firstT, accHi, show ¬ c.toNat < 128 by omega, c0, c1, c2, c3, c4, c5]) ?_
  rcases t with _ | ⟨x, _ | ⟨y, _ | ⟨z, t⟩⟩⟩ <;> simp [checkN, jSize, jCont, show ¬ c.toNat < 128 by omega, show ¬ c.toNat < 194 by omega, show ¬ c.toNat < 224 by omega, show c.toNat < 240 by omega, show c.toNat < 245 by omega] <;> (repeat' split) <;> first | omega | (simp_all; done) | (simp_all; omega)
 by_cases c6 : c.toNat = 240
 ·refine key 4 144 191 (by rw [c6]; decide) (by rw [c6]; decide) (by rw [c6]; decide) ?_
  rcases t with _ | ⟨x, _ | ⟨y, _ | ⟨z, t⟩⟩⟩ <;> simp [checkN, jSize, jCont, show ¬ c.toNat < 128 by omega, show ¬ c.toNat < 194 by omega, show ¬ c.toNat < 224 by omega, show ¬ c.toNat < 240 by omega, show c.toNat < 245 by omega] <;> (repeat' split) <;> first | omega | (simp_all; done) | (simp_all; omega)
 by_cases c7 : c.toNat < 244
 ·refine key 4 128 191 (by simp [firstT, show ¬ c.toNat < 128 by omega, c0, c1, c2, c3, c4, c5, c6, c7]) (by simp [firstT, accLo, show ¬ c.toNat < 128 by omega, c0, c1, c2, c3, c4, c5, c6, c7]) (by simp [firstT, accHi, show ¬ c.toNat < 128 by omega, c0, c1, c2, c3, c4, c5, c6, c7]) ?_
  rcases t with _ | ⟨x, _ | ⟨y, _ | ⟨z, t⟩⟩⟩ <;> simp [checkN, jSize, jCont, show ¬ c.toNat < 128 by omega, show ¬ c.toNat < 194 by omega, show ¬ c.toNat < 224 by omega, show ¬ c.toNat < 240 by omega, show c.toNat < 245 by omega] <;> (repeat' split) <;> first | omega | (simp_all; done) | (simp_all; omega)
 by_cases c8 : c.toNat = 244
 ·refine key 4 128 143 (by rw [c8]; decide) (by rw [c8]; decide) (by rw [c8]; decide) ?_
  rcases t with _ | ⟨x, _ | ⟨y, _ | ⟨z, t⟩⟩⟩ <;> simp [checkN, jSize, jCont, show ¬ c.toNat < 128 by omega, show ¬ c.toNat < 194 by omega, show ¬ c.toNat < 224 by omega, show ¬ c.toNat < 240 by omega, show c.toNat < 245 by omega] <;> (repeat' split) <;> first | omega | (simp_all; done) | (simp_all; omega)
 refine key (firstT c.toNat % 8) (accLo (firstT c.toNat / 16)) (accHi (firstT c.toNat / 16)) rfl rfl rfl ?_
 simp [checkN, jSize, firstT, show ¬ c.toNat < 128 by omega, c0, c1, c2, c3, c4, c5, c6, c7, c8, show ¬ c.toNat < 240 by omega, show ¬ c.toNat < 245 by omega]
theorem validD_jSize (c : UInt8) (t : List UInt8) : validD (c :: t) = if jSize (c :: t) = 0 then false else validD ((c :: t).drop (jSize (c :: t))) := by
 by_cases h : c.toNat < 128
 ·rw [validD_cons c t h, show jSize (c :: t) = 1 by simp [jSize, h]]
  rfl
 ·rw [validD_lead (c :: t) (by simp) (by simpa using h)]
  have := check_jSize c t (by omega)
  simp only [List.length_cons, List.getD_cons_zero, List.getD_cons_succ] at this ⊢
  rw [this]
  by_cases h0 : jSize (c :: t) = 0
  ·rw [if_pos h0, if_pos h0]
  ·rw [if_neg h0, if_neg h0]
theorem jSize_take {l : List UInt8} {n : Nat} (h : jSize l ≠ 0) (hn : jSize l ≤ n) : jSize l ≤ l.length ∧ jSize (l.take n) = jSize l := by
 rcases l with _ | ⟨c, _ | ⟨x, _ | ⟨y, _ | ⟨z, t⟩⟩⟩⟩ <;> rcases n with _ | _ | _ | _ | n <;> simp only [jSize, List.take_zero, List.take_succ_cons, List.take_nil, List.length_cons, List.length_nil] at h hn ⊢ <;> (repeat' split at h) <;> simp_all <;> (repeat' split) <;> (try omega)
theorem jSize_app {l k : List UInt8} (h : jSize l ≠ 0) : jSize (l ++ k) = jSize l := by
 rcases l with _ | ⟨c, _ | ⟨x, _ | ⟨y, _ | ⟨z, t⟩⟩⟩⟩ <;> simp only [jSize, List.nil_append, List.cons_append] at h ⊢ <;> (repeat' split at h) <;> simp_all
theorem ofNat_toNat' {n : Nat} (h : n < 256) : (UInt8.ofNat n).toNat = n := by
 rw [UInt8.toNat_ofNat']; omega
end Go.Proofs.YtlhicfpmlncomaaGreatDoor

namespace Go.Proofs.YtlhicfpmlncomaaGreatDoor
open Go.Lib
mutual
def JGood (L : Nat) : JV → Prop
 | .mk k n t ns ks => 0 ≤ k ∧ k ≤ 6 ∧ (k ≠ 3 → n = 0) ∧ (k ≠ 4 → t = []) ∧ (k ≠ 6 → ns = []) ∧ (k < 5 → ks = []) ∧ t.length ≤ L ∧ (∀ s ∈ ns, s.length ≤ L) ∧ ns.length ≤ 4096 ∧ ks.length ≤ 4096 ∧ JGoodL L ks
def JGoodL (L : Nat) : List JV → Prop
 | [] => True
 | v :: vs => JGood L v ∧ JGoodL L vs
end
mutual
theorem JGood.sm {L : Nat} : ∀ (v : JV), JGood L v → JSm v
 | .mk k n t ns ks, h => by rw [JGood] at h; rw [JSm]; exact ⟨by omega, by omega, JGoodL.sm ks h.2.2.2.2.2.2.2.2.2.2⟩
theorem JGoodL.sm {L : Nat} : ∀ (ks : List JV), JGoodL L ks → JSmL ks
 | [], _ => by rw [JSmL]; trivial
 | v :: vs, h => by rw [JGoodL] at h; rw [JSmL]; exact ⟨JGood.sm v h.1, JGoodL.sm vs h.2⟩
end
mutual
theorem JGood.tx {L : Nat} (hL : L ≤ 140737488355328) : ∀ (v : JV), JGood L v → JTx v
 | .mk k n t ns ks, h => by rw [JGood] at h; rw [JTx]; exact ⟨by omega, fun s hs => Nat.le_trans (h.2.2.2.2.2.2.2.1 s hs) hL, JGoodL.tx hL ks h.2.2.2.2.2.2.2.2.2.2⟩
theorem JGoodL.tx {L : Nat} (hL : L ≤ 140737488355328) : ∀ (ks : List JV), JGoodL L ks → JTxL ks
 | [], _ => by rw [JTxL]; trivial
 | v :: vs, h => by rw [JGoodL] at h; rw [JTxL]; exact ⟨JGood.tx hL v h.1, JGoodL.tx hL vs h.2⟩
end
end Go.Proofs.YtlhicfpmlncomaaGreatDoor

namespace Go.Proofs.YtlhicfpmlncomaaGreatDoor
open Go.Lib
theorem at_drop {b l : List UInt8} {p : Nat} (h : b.drop p = l) (i : Nat) : b[p + i]? = l[i]? := by rw [← h, List.getElem?_drop]
theorem jHex_digit (n : Nat) (h : n < 16) : jHex (jHexD n) = some n := by
 have : ∀ n : Fin 16, jHex (jHexD n.val) = some n.val := by decide
 exact this ⟨n, h⟩
theorem jSign_small {c : UInt8} (h : c.toNat < 128) : jSign c.toNat = [c] := by
 unfold jSign
 rw [if_pos h, UInt8.ofNat_toNat]
theorem jTextL_esc {b : List UInt8} {p f : Nat} {out e : List UInt8} {q : Nat} (h : b[p]? = some 92) (he : jEscape b p = .ok (e, q)) : jTextL b (f + 1) p out = jTextL b f q (out ++ e) := by
 rw [jTextL, h]
 simp only []
 rw [if_neg (by decide), if_pos trivial, he]
theorem jQc_read {b rest out : List UInt8} {p f : Nat} {c : UInt8} (hc : c.toNat < 128) (h : b.drop p = jQc c ++ rest) : jTextL b (f + 1) p out = jTextL b f (p + (jQc c).length) (out ++ [c]) := by
 have h0 := at_drop h 0
 have h1 := at_drop h 1
 unfold jQc at h h0 h1 ⊢
 by_cases c1 : c = 34 ∨ c = 92
 ·rw [if_pos c1] at h h0 h1 ⊢
  refine jTextL_esc (by simpa using h0) ?_
  unfold jEscape
  rw [show b[p + 1]? = some c by simpa using h1]
  simp only []
  rw [if_pos (by rcases c1 with h | h; exact .inl h; exact .inr (.inl h))]
  rfl
 rw [if_neg c1] at h h0 h1 ⊢
 by_cases c2 : c = 8
 ·subst c2
  refine jTextL_esc (by simpa using h0) ?_
  unfold jEscape
  rw [show b[p + 1]? = some 98 by simpa using h1]
  rfl
 rw [if_neg c2] at h h0 h1 ⊢
 by_cases c3 : c = 9
 ·subst c3
  refine jTextL_esc (by simpa using h0) ?_
  unfold jEscape
  rw [show b[p + 1]? = some 116 by simpa using h1]
  rfl
 rw [if_neg c3] at h h0 h1 ⊢
 by_cases c4 : c = 10
 ·subst c4
  refine jTextL_esc (by simpa using h0) ?_
  unfold jEscape
  rw [show b[p + 1]? = some 110 by simpa using h1]
  rfl
 rw [if_neg c4] at h h0 h1 ⊢
 by_cases c5 : c = 12
 ·subst c5
  refine jTextL_esc (by simpa using h0) ?_
  unfold jEscape
  rw [show b[p + 1]? = some 102 by simpa using h1]
  rfl
 rw [if_neg c5] at h h0 h1 ⊢
 by_cases c6 : c = 13
 ·subst c6
  refine jTextL_esc (by simpa using h0) ?_
  unfold jEscape
  rw [show b[p + 1]? = some 114 by simpa using h1]
  rfl
 rw [if_neg c6] at h h0 h1 ⊢
 by_cases c7 : c.toNat < 32
 ·rw [if_pos c7] at h h0 h1 ⊢
  refine jTextL_esc (by simpa using h0) ?_
  have h2 := at_drop h 2
  have h3 := at_drop h 3
  have h4 := at_drop h 4
  have h5 := at_drop h 5
  simp only [List.cons_append, List.getElem?_cons_zero, List.getElem?_cons_succ] at h1 h2 h3 h4 h5
  have hu : jUnit b p 4 0 (p + 2) = .ok c.toNat := by
   rw [jUnit, h2]
   simp only [show jHex 48 = some 0 from rfl]
   rw [jUnit, show p + 2 + 1 = p + 3 by omega, h3]
   simp only [show jHex 48 = some 0 from rfl]
   rw [jUnit, show p + 3 + 1 = p + 4 by omega, h4]
   simp only [jHex_digit (c.toNat / 16) (by omega)]
   rw [jUnit, show p + 4 + 1 = p + 5 by omega, h5]
   simp only [jHex_digit (c.toNat % 16) (by omega)]
   rw [jUnit]
   congr 1
   omega
  unfold jEscape
  rw [h1]
  simp only []
  rw [if_neg (by decide), if_neg (by decide), if_neg (by decide), if_neg (by decide), if_neg (by decide), if_neg (by decide), if_pos trivial, hu]
  simp only []
  rw [if_neg (by omega), if_neg (by omega), jSign_small hc]
  rfl
 ·rw [if_neg c7] at h h0 h1 ⊢
  have hs : jSize (b.drop p) = 1 := by rw [h]; simp [jSize, hc]
  rw [jTextL, show b[p]? = some c by simpa using h0]
  simp only []
  rw [if_neg (fun h => c1 (.inl h)), if_neg (fun h => c1 (.inr h)), if_neg c7, if_neg (by rw [hs]; decide), hs, h]
  rfl
theorem jQc_high {c : UInt8} (h : 128 ≤ c.toNat) : jQc c = [c] := by
 have n : ∀ k : Nat, k < 128 → c ≠ UInt8.ofNat k := fun k hk he => by rw [he, ofNat_toNat' (by omega)] at h; omega
 unfold jQc
 rw [if_neg (by rintro (h | h); exact n 34 (by decide) h; exact n 92 (by decide) h), if_neg (show c ≠ 8 from n 8 (by decide)), if_neg (show c ≠ 9 from n 9 (by decide)), if_neg (show c ≠ 10 from n 10 (by decide)), if_neg (show c ≠ 12 from n 12 (by decide)), if_neg (show c ≠ 13 from n 13 (by decide)), if_neg (by omega)]
theorem jQs_high : ∀ (l : List UInt8), (∀ c ∈ l, 128 ≤ c.toNat) → l.flatMap jQc = l
 | [], _ => rfl
 | c :: l, h => by rw [List.flatMap_cons, jQc_high (h c (by simp)), jQs_high l (fun x hx => h x (by simp [hx]))]; rfl
theorem jSize_high {c : UInt8} {t : List UInt8} (h : 128 ≤ c.toNat) (h0 : jSize (c :: t) ≠ 0) : ∀ x ∈ (c :: t).take (jSize (c :: t)), 128 ≤ x.toNat := by
 unfold jSize at h0 ⊢
 rcases t with _ | ⟨x, _ | ⟨y, _ | ⟨z, t⟩⟩⟩ <;> simp only [] at h0 ⊢ <;> (repeat' split at h0) <;> simp_all [jCont] <;> (try (repeat' split)) <;> (try omega) <;> simp_all <;> (try omega)
theorem drop_app {b x y : List UInt8} {p : Nat} (h : b.drop p = x ++ y) : b.drop (p + x.length) = y := by rw [← List.drop_drop, h, List.drop_left]
theorem jTextL_written {b rest : List UInt8} : ∀ (n : Nat) (s out : List UInt8) (p f : Nat), s.length ≤ n → validD s = true → b.drop p = s.flatMap jQc ++ (34 :: rest) → s.length < f → jTextL b f p out = .ok (out ++ s, p + (s.flatMap jQc).length + 1)
 | _, [], out, p, f, _, _, h, hf => by
  obtain ⟨f, rfl⟩ : ∃ g, f = g + 1 := ⟨f - 1, by simp at hf; omega⟩
  have h0 : b[p]? = some 34 := by simpa using at_drop h 0
  rw [jTextL, h0]
  simp only []
  rw [if_pos trivial, List.append_nil]
  rfl
 | 0, c :: t, _, _, _, hn, _, _, _ => by simp at hn
 | n + 1, c :: t, out, p, f, hn, hv, h, hf => by
  obtain ⟨f, rfl⟩ : ∃ g, f = g + 1 := ⟨f - 1, by simp at hf; omega⟩
  simp only [List.length_cons] at hn hf
  by_cases hc : c.toNat < 128
  ·rw [validD_cons c t hc] at hv
   rw [List.flatMap_cons, List.append_assoc] at h
   rw [jQc_read hc h, jTextL_written n t (out ++ [c]) (p + (jQc c).length) f (by omega) hv (drop_app h) (by omega), List.append_assoc, List.flatMap_cons, List.length_append, Nat.add_assoc p]
   rfl
  ·rw [validD_jSize] at hv
   by_cases h0 : jSize (c :: t) = 0
   ·rw [if_pos h0] at hv; cases hv
   rw [if_neg h0] at hv
   have hhi := jSize_high (by omega) h0
   obtain ⟨hk, hkt⟩ := jSize_take h0 (Nat.le_refl _)
   have hsp : c :: t = (c :: t).take (jSize (c :: t)) ++ (c :: t).drop (jSize (c :: t)) := (List.take_append_drop _ _).symm
   have hfm : (c :: t).flatMap jQc = (c :: t).take (jSize (c :: t)) ++ ((c :: t).drop (jSize (c :: t))).flatMap jQc := by
    have : ((c :: t).take (jSize (c :: t)) ++ (c :: t).drop (jSize (c :: t))).flatMap jQc = (c :: t).take (jSize (c :: t)) ++ ((c :: t).drop (jSize (c :: t))).flatMap jQc := by
     rw [List.flatMap_append, jQs_high _ hhi]
    rwa [← hsp] at this
   have hlen : ((c :: t).take (jSize (c :: t))).length = jSize (c :: t) := by rw [List.length_take]; omega
   have hdl : ((c :: t).drop (jSize (c :: t))).length ≤ t.length := by
    rw [List.length_drop]; simp only [List.length_cons] at hk ⊢; omega
   rw [hfm, List.append_assoc] at h
   have hb0 : b[p]? = some c := by
    have h1 := at_drop h 0
    rw [Nat.add_zero] at h1
    rw [h1]
    obtain ⟨k, hkk⟩ : ∃ k, jSize (c :: t) = k + 1 := ⟨jSize (c :: t) - 1, by omega⟩
    rw [hkk]
    rfl
   have hsz : jSize (b.drop p) = jSize (c :: t) := by
    rw [h, jSize_app (by rw [hkt]; exact h0), hkt]
   have hne : ∀ k : Nat, k < 128 → c ≠ UInt8.ofNat k := fun k hk he => by rw [he, ofNat_toNat' (by omega)] at hc; omega
   have htk : (b.drop p).take (jSize (c :: t)) = (c :: t).take (jSize (c :: t)) := by
    rw [h, List.take_append_of_le_length (by omega), List.take_of_length_le (by omega)]
   have hdr := drop_app h
   rw [hlen] at hdr
   rw [jTextL, hb0]
   simp only []
   rw [if_neg (show c ≠ 34 from hne 34 (by decide)), if_neg (show c ≠ 92 from hne 92 (by decide)), if_neg (by omega), hsz, if_neg h0, htk,
    jTextL_written n _ _ _ f (by omega) hv hdr (by omega), List.append_assoc, ← hsp, hfm, List.length_append, hlen, Nat.add_assoc p]
theorem jText_written {b rest s : List UInt8} {p : Nat} (hv : validD s = true) (h : b.drop p = jQuote s ++ rest) : jText b p = .ok (s, p + (jQuote s).length) := by
 have h' : b.drop p = [34] ++ (s.flatMap jQc ++ (34 :: rest)) := by rw [h, jQuote]; simp
 have h0 : b[p]? = some 34 := by simpa using at_drop h' 0
 have hd := drop_app h'
 have hge := jQs_ge s
 have hl := congrArg List.length hd
 simp only [List.length_drop, List.length_append, List.length_cons, List.length_nil] at hl
 unfold jText
 rw [jWord, h0]
 simp only []
 rw [if_pos trivial, jWord]
 simp only []
 rw [jTextL_written s.length s [] (p + 1) _ (Nat.le_refl _) hv hd (by omega), jQuote]
 simp only [List.nil_append, List.length_append, List.length_cons, List.length_nil]
 congr 2
 omega
end Go.Proofs.YtlhicfpmlncomaaGreatDoor

namespace Go.Proofs.YtlhicfpmlncomaaGreatDoor
open Go.Lib
theorem jWord_written {b rest : List UInt8} : ∀ (w : List UInt8) (p : Nat), b.drop p = w ++ rest → jWord b w p = .ok (p + w.length)
 | [], p, _ => by rw [jWord]; rfl
 | c :: w, p, h => by
  have h0 : b[p]? = some c := by simpa using at_drop h 0
  have hd : b.drop (p + 1) = w ++ rest := drop_app (x := [c]) h
  rw [jWord, h0]
  simp only []
  rw [if_pos trivial, jWord_written w (p + 1) hd, List.length_cons, Nat.add_right_comm, Nat.add_assoc p]
theorem itoa_numC (n : Int) : ∀ c ∈ itoa n, jNumC c = true := by
 have hd : ∀ u, ∀ c ∈ decDigits u, jNumC c = true := fun u c hc => by
  have := List.all_eq_true.1 (decDigits_dig u) c hc
  unfold jNumC
  rw [this]; rfl
 intro c hc
 unfold itoa at hc
 split at hc
 ·rcases List.mem_cons.1 hc with rfl | hc
  ·decide
  ·exact hd _ c hc
 ·exact hd _ c hc
theorem jNumber_written {b rest : List UInt8} {p : Nat} {n : Int} (h0 : -9007199254740991 ≤ n) (h1 : n ≤ 9007199254740991) (h : b.drop p = itoa n ++ rest) (hr : ∀ c, rest.head? = some c → jNumC c = false) : jNumber b p = .ok (n, p + (itoa n).length) := by
 have ht : (b.drop p).takeWhile jNumC = itoa n := by
  rw [h, List.takeWhile_append_of_pos (itoa_numC n)]
  cases rest with
  | nil => simp
  | cons c l => rw [List.takeWhile_cons, hr c rfl]; simp
 unfold jNumber
 simp only []
 rw [ht, jNum_itoa h0 h1]
theorem jBlanks_stay {b : List UInt8} {p : Nat} {c : UInt8} (h : b[p]? = some c) (hc : jBlank c = false) : jBlanks b p = p := by
 obtain ⟨hp, rfl⟩ := List.getElem?_eq_some_iff.1 h
 unfold jBlanks
 rw [List.drop_eq_getElem_cons hp, List.takeWhile_cons, hc]
 rfl
theorem itoa_head (n : Int) : ∃ c l, itoa n = c :: l ∧ (c = 45 ∨ jDig c = true) := by
 unfold itoa
 split
 ·exact ⟨_, _, rfl, .inl rfl⟩
 ·cases hd : decDigits n.toNat with
  | nil => exact absurd hd (decDigits_ne _)
  | cons c l => exact ⟨c, l, rfl, .inr (List.all_eq_true.1 (decDigits_dig n.toNat) c (by rw [hd]; simp))⟩
theorem dig_no {c : UInt8} (h : c = 45 ∨ jDig c = true) : jBlank c = false ∧ c ≠ 93 ∧ c ≠ 125 ∧ c ≠ 110 ∧ c ≠ 102 ∧ c ≠ 116 := by
 rcases h with rfl | h
 ·decide
 ·have : ∀ c : UInt8, jDig c = true → jBlank c = false ∧ c ≠ 93 ∧ c ≠ 125 ∧ c ≠ 110 ∧ c ≠ 102 ∧ c ≠ 116 := by
   intro c h
   unfold jDig at h
   simp only [Bool.and_eq_true, decide_eq_true_eq] at h
   have n : ∀ k : Nat, k < 256 → (k < 48 ∨ 57 < k) → c ≠ UInt8.ofNat k := fun k hk ho he => by rw [he, ofNat_toNat' hk] at h; omega
   refine ⟨?_, n 93 (by decide) (by decide), n 125 (by decide) (by decide), n 110 (by decide) (by decide), n 102 (by decide) (by decide), n 116 (by decide) (by decide)⟩
   unfold jBlank
   simp only [Bool.or_eq_false_iff, beq_eq_false_iff_ne]
   exact ⟨n 32 (by decide) (by decide), n 9 (by decide) (by decide), n 10 (by decide) (by decide), n 13 (by decide) (by decide)⟩
  exact this c h
theorem jFull_head (k n : Int) (t : List UInt8) (ns : List (List UInt8)) (ks : List JV) : ∃ c l, jFull (.mk k n t ns ks) = c :: l ∧ jBlank c = false ∧ c ≠ 93 ∧ c ≠ 125 := by
 rw [jFull]
 split
 ·exact ⟨_, _, rfl, by decide⟩
 split
 ·exact ⟨_, _, rfl, by decide⟩
 split
 ·exact ⟨_, _, rfl, by decide⟩
 split
 ·obtain ⟨c, l, h, hc⟩ := itoa_head n
  have := dig_no hc
  exact ⟨c, l, h, this.1, this.2.1, this.2.2.1⟩
 split
 ·exact ⟨_, _, rfl, by decide⟩
 split
 ·exact ⟨_, _, rfl, by decide⟩
 ·exact ⟨_, _, rfl, by decide⟩
theorem jLeaf_written {b rest : List UInt8} {val : Option (Nat → Nat → JR (JV × Nat × Nat))} {L p m : Nat} {k n : Int} {t : List UInt8} {ns : List (List UInt8)} {ks : List JV} (hg : JGood L (.mk k n t ns ks)) (hb : ¬ jBad k n t m) (hk : k < 5)
  (h : b.drop p = jFull (.mk k n t ns ks) ++ rest) (hr : ∀ c, rest.head? = some c → jNumC c = false) : jValueW b val p m = .ok (.mk k n t ns ks, p + (jFull (.mk k n t ns ks)).length, m + 1) := by
 rw [JGood] at hg
 obtain ⟨g1, g2, g3, g4, g5, g6, -⟩ := hg
 obtain rfl := g6 hk
 obtain rfl := g5 (by omega)
 unfold jBad at hb
 have hm : m ≠ 4096 := fun h => hb (.inl (by omega))
 have hk5 : k = 0 ∨ k = 1 ∨ k = 2 ∨ k = 3 ∨ k = 4 := by omega
 unfold jValueW
 rcases hk5 with rfl | rfl | rfl | rfl | rfl
 ·obtain rfl := g3 (by decide)
  obtain rfl := g4 (by decide)
  have hf : jFull (.mk 0 0 [] [] []) = [110, 117, 108, 108] := by rw [jFull]; rfl
  rw [hf] at h ⊢
  rw [show b[p]? = some 110 by simpa using at_drop h 0]
  simp only []
  rw [if_neg hm, if_pos trivial, jLit, jWord_written _ _ h]
  rfl
 ·obtain rfl := g3 (by decide)
  obtain rfl := g4 (by decide)
  have hf : jFull (.mk 1 0 [] [] []) = [102, 97, 108, 115, 101] := by rw [jFull]; rfl
  rw [hf] at h ⊢
  rw [show b[p]? = some 102 by simpa using at_drop h 0]
  simp only []
  rw [if_neg hm, if_neg (by decide), if_pos trivial, jLit, jWord_written _ _ h]
 ·obtain rfl := g3 (by decide)
  obtain rfl := g4 (by decide)
  have hf : jFull (.mk 2 0 [] [] []) = [116, 114, 117, 101] := by rw [jFull]; rfl
  rw [hf] at h ⊢
  rw [show b[p]? = some 116 by simpa using at_drop h 0]
  simp only []
  rw [if_neg hm, if_neg (by decide), if_neg (by decide), if_pos trivial, jLit, jWord_written _ _ h]
 ·obtain rfl := g4 (by decide)
  have hf : jFull (.mk 3 n [] [] []) = itoa n := by rw [jFull]; rfl
  rw [hf] at h ⊢
  obtain ⟨c, l, hc, hcd⟩ := itoa_head n
  obtain ⟨_, _, _, n1, n2, n3⟩ := dig_no hcd
  rw [show b[p]? = some c by have := at_drop h 0; rw [hc] at this; simpa using this]
  simp only []
  rw [if_neg hm, if_neg n1, if_neg n2, if_neg n3, if_pos hcd, jNumber_written (by omega) (by omega) h hr]
 ·obtain rfl := g3 (by decide)
  have hf : jFull (.mk 4 0 t [] []) = jQuote t := by rw [jFull]; rfl
  rw [hf] at h ⊢
  have hv : validD t = true := by cases hv : validD t; exact absurd (.inr (.inr (.inr (.inl hv)))) hb; rfl
  rw [show b[p]? = some 34 by have := at_drop h 0; rw [jQuote] at this; simpa using this]
  simp only []
  rw [if_neg hm, if_neg (by decide), if_neg (by decide), if_neg (by decide), if_neg (by decide), if_pos trivial, jText_written hv h]
end Go.Proofs.YtlhicfpmlncomaaGreatDoor

namespace Go.Proofs.YtlhicfpmlncomaaGreatDoor
open Go.Lib
def ReadOk (b : List UInt8) (d : Nat) (val : Nat → Nat → JR (JV × Nat × Nat)) : Prop := ∀ (v : JV) (p m m' L : Nat) (rest : List UInt8), JGood L v → jRight d v m = some m' → b.drop p = jFull v ++ rest → (∀ c, rest.head? = some c → jNumC c = false) → val p m = .ok (v, p + (jFull v).length, m')
theorem jFullL_comma {obj : Bool} {ns : List (List UInt8)} {v : JV} {vs : List JV} : jFullL obj true ns (v :: vs) = 44 :: jFullL obj false ns (v :: vs) := by rw [jFullL, jFullL]; rfl
theorem jFullL_head {obj : Bool} {ns : List (List UInt8)} {v : JV} {vs : List JV} : ∃ c l, jFullL obj false ns (v :: vs) = c :: l ∧ jBlank c = false ∧ c ≠ 93 ∧ c ≠ 125 := by
 rw [jFullL]
 cases obj with
 | true => exact ⟨34, _, rfl, by decide⟩
 | false =>
  obtain ⟨k, n, t, ns', ks⟩ := v
  obtain ⟨c, l, h, hc⟩ := jFull_head k n t ns' ks
  exact ⟨c, _, by rw [h]; rfl, hc⟩
theorem jName_written {b l : List UInt8} {names : List (List UInt8)} {s : List UInt8} {p : Nat} {c : UInt8} (hv : validD s = true) (hs : s ∉ names) (h : b.drop p = jQuote s ++ (58 :: c :: l)) (hc : jBlank c = false) : jName b names p = .ok (s, p + (jQuote s).length + 1) := by
 have hd : b.drop (p + (jQuote s).length) = 58 :: c :: l := drop_app h
 have h0 : b[p + (jQuote s).length]? = some 58 := by simpa using at_drop hd 0
 have h1 : b[p + (jQuote s).length + 1]? = some c := by simpa using at_drop hd 1
 unfold jName
 rw [jText_written hv h]
 simp only []
 rw [if_neg hs, jBlanks_stay h0 (by decide), jWord, h0]
 simp only []
 rw [if_pos trivial, jWord]
 simp only []
 rw [jBlanks_stay h1 hc]
theorem jManyL_written {b : List UInt8} {kind : Int} {fin : UInt8} {d : Nat} {val : Nat → Nat → JR (JV × Nat × Nat)} (hk : kind = 5 ∧ fin = 93 ∨ kind = 6 ∧ fin = 125) (hv : ReadOk b d val) : ∀ (ks : List JV) (ns names seen : List (List UInt8)) (kids : List JV) (p m m' f L : Nat) (rest : List UInt8), ks ≠ [] → JGoodL L ks → (kind = 6 → ns.length = ks.length) → (kind ≠ 6 → ns = []) → (kind = 6 → seen = names) →
  jRightL (jRight d) (kind == 6) seen ns ks m = some m' → b.drop p = jFullL (kind == 6) false ns ks ++ (fin :: rest) → ks.length < f →
  jManyL b kind fin val f p m names kids = .ok (.mk kind 0 [] (names ++ ns) (kids ++ ks), p + (jFullL (kind == 6) false ns ks).length + 1, m')
 | [], _, _, _, _, _, _, _, _, _, _, h, _, _, _, _, _, _, _ => absurd rfl h
 | v :: vs, ns, names, seen, kids, p, m, m', f, L, rest, _, hg, hn6, hn5, hse, hr, h, hf => by
  obtain ⟨f, rfl⟩ : ∃ g, f = g + 1 := ⟨f - 1, by simp at hf; omega⟩
  simp only [List.length_cons] at hf
  rw [JGoodL] at hg
  rw [jRightL] at hr
  split at hr
  ·cases hr
  rename_i hbad
  cases hm : jRight d v m with
  | none => rw [hm] at hr; cases hr
  | some m1 =>
   rw [hm] at hr
   simp only [] at hr
   have hfin : jBlank fin = false ∧ jNumC fin = false ∧ fin ≠ 44 := by rcases hk with ⟨_, rfl⟩ | ⟨_, rfl⟩ <;> decide
   -- the name
   have hname : ∃ s q, (if kind = 6 then jName b names p else .ok ([], p)) = .ok (s, q) ∧ b.drop q = jFull v ++ (jFullL (kind == 6) true ns.tail vs ++ (fin :: rest)) ∧ (jFullL (kind == 6) false ns (v :: vs)).length + p = q + (jFull v).length + (jFullL (kind == 6) true ns.tail vs).length ∧ (if kind = 6 then names ++ [s] else names) ++ ns.tail = names ++ ns ∧ (kind = 6 → s = ns.headD []) := by
    rw [jFullL] at h ⊢
    by_cases h6 : kind = 6
    ·subst h6
     obtain ⟨s, ns', rfl⟩ : ∃ s ns', ns = s :: ns' := by
      cases ns with
      | nil => exact absurd (hn6 rfl) (by simp)
      | cons s ns' => exact ⟨s, ns', rfl⟩
     simp only [beq_self_eq_true, if_true, if_false, List.headD_cons, List.tail_cons, List.nil_append, List.append_assoc, List.cons_append, true_and, Bool.false_eq_true] at h hbad ⊢
     have hvs : validD s = true := by cases hh : validD s; exact absurd (.inl hh) hbad; rfl
     have hns : s ∉ names := fun hh => hbad (.inr (by rw [hse rfl]; exact hh))
     obtain ⟨k0, n0, t0, ns0, ks0⟩ := v
     obtain ⟨c, l, hcl, hc, _⟩ := jFull_head k0 n0 t0 ns0 ks0
     refine ⟨s, _, jName_written (c := c) (l := l ++ (jFullL true true ns' vs ++ (fin :: rest))) hvs hns (by rw [h, hcl]; rfl) hc, ?_, ?_, rfl, fun _ => rfl⟩
     ·have := drop_app (x := jQuote s ++ [58]) (y := jFull (.mk k0 n0 t0 ns0 ks0) ++ (jFullL true true ns' vs ++ (fin :: rest))) (b := b) (p := p) (by rw [h]; simp)
      rw [List.length_append] at this
      exact this
     ·simp only [List.length_append, List.length_cons]
      omega
    ·have hkb : (kind == 6) = false := by simpa using h6
     obtain rfl := hn5 h6
     rw [hkb] at h ⊢
     simp only [if_neg h6, Bool.false_eq_true, if_false, List.nil_append, List.tail_nil, List.append_assoc] at h ⊢
     exact ⟨_, _, rfl, h, by simp only [List.length_append]; omega, trivial, fun h => absurd h h6⟩
   obtain ⟨s, q, e1, e2, e3, e4, e5⟩ := hname
   have hnum : ∀ c, (jFullL (kind == 6) true ns.tail vs ++ (fin :: rest)).head? = some c → jNumC c = false := by
    intro c hc
    cases vs with
    | nil => rw [jFullL] at hc; injection hc with hc; rw [← hc]; exact hfin.2.1
    | cons u us => rw [jFullL_comma] at hc; injection hc with hc; rw [← hc]; decide
   have e6 := hv v q m m1 L _ hg.1 hm e2 hnum
   have e7 := drop_app e2
   rw [jManyL_go e1, e6]
   simp only []
   cases vs with
   | nil =>
    rw [jFullL] at e3 e7
    have hx : b[q + (jFull v).length]? = some fin := by simpa using at_drop e7 0
    rw [jBlanks_stay hx hfin.1, jNext, hx]
    simp only []
    rw [jRightL] at hr
    injection hr with hr
    simp only [List.length_nil, Nat.add_zero] at e3
    have ht : ns.tail = [] := by
     by_cases h6 : kind = 6
     ·have := hn6 h6
      exact List.eq_nil_of_length_eq_zero (by rw [List.length_tail]; simp at this; omega)
     ·rw [hn5 h6]; rfl
    rw [ht, List.append_nil] at e4
    rw [if_pos trivial, hr, e4, Nat.add_comm p, e3]
   | cons u us =>
    have e8 := e7
    rw [jFullL_comma] at e7 e3
    have hx : b[q + (jFull v).length]? = some 44 := by simpa using at_drop e7 0
    have hd : b.drop (q + (jFull v).length + 1) = jFullL (kind == 6) false ns.tail (u :: us) ++ (fin :: rest) := drop_app (x := [44]) e7
    obtain ⟨c, l, hcl, hc, _⟩ := @jFullL_head (kind == 6) ns.tail u us
    have hx1 : b[q + (jFull v).length + 1]? = some c := by
     have := at_drop hd 0
     rw [hcl] at this
     simpa using this
    rw [jBlanks_stay hx (by decide), jNext, hx]
    simp only []
    rw [if_neg (fun h => hfin.2.2 h.symm), jWord, hx]
    simp only []
    rw [if_pos trivial, jWord]
    simp only []
    rw [jBlanks_stay hx1 hc, jManyL_written hk hv (u :: us) ns.tail _ (seen ++ [ns.headD []]) _ _ m1 m' f L rest (by simp) hg.2 ?_ ?_ ?_ hr hd (by omega), e4, List.append_assoc]
    ·congr 2
     simp only [List.length_cons, List.cons_append, List.nil_append] at e3 ⊢
     congr 1
     omega
    ·intro h6
     have := hn6 h6
     rw [List.length_tail]
     simp only [List.length_cons] at this ⊢
     omega
    ·intro h6; rw [hn5 h6]; rfl
    ·intro h6; rw [hse h6, if_pos h6, e5 h6]
end Go.Proofs.YtlhicfpmlncomaaGreatDoor

namespace Go.Proofs.YtlhicfpmlncomaaGreatDoor
open Go.Lib
theorem jFullL_ge : ∀ (ks : List JV) (obj more : Bool) (ns : List (List UInt8)), ks.length ≤ (jFullL obj more ns ks).length
 | [], _, _, _ => Nat.zero_le _
 | .mk k n t ns' ks' :: vs, obj, more, ns => by
  obtain ⟨c, l, h, _⟩ := jFull_head k n t ns' ks'
  have := jFullL_ge vs obj true ns.tail
  rw [jFullL, h]
  simp only [List.length_append, List.length_cons]
  omega
theorem jMany_written {b : List UInt8} {kind n : Int} {fin opn : UInt8} {d : Nat} {val : Nat → Nat → JR (JV × Nat × Nat)} {t : List UInt8} {ns : List (List UInt8)} {ks : List JV} {p m m' L : Nat} {rest : List UInt8} (hk : kind = 5 ∧ fin = 93 ∨ kind = 6 ∧ fin = 125) (hv : ReadOk b d val) (hg : JGood L (.mk kind n t ns ks)) (hr : jRight (d + 1) (.mk kind n t ns ks) m = some m')
  (h : b.drop p = [opn] ++ (jFullL (kind == 6) false ns ks ++ (fin :: rest))) : jMany b kind fin (some val) p (m + 1) = .ok (.mk kind n t ns ks, p + ((jFullL (kind == 6) false ns ks).length + 2), m') := by
 rw [JGood] at hg
 obtain ⟨g1, g2, g3, g4, g5, g6, -, -, -, -, g7⟩ := hg
 obtain rfl := g3 (by omega)
 obtain rfl := g4 (by omega)
 have hd : b.drop (p + 1) = jFullL (kind == 6) false ns ks ++ (fin :: rest) := drop_app (x := [opn]) h
 have hfin : jBlank fin = false := by rcases hk with ⟨_, rfl⟩ | ⟨_, rfl⟩ <;> decide
 rw [jRight] at hr
 split at hr
 ·cases hr
 rw [if_neg (by omega)] at hr
 split at hr
 ·cases hr
 rename_i hlen
 have hl6 : kind = 6 → ns.length = ks.length := fun h6 => Decidable.byContradiction fun hh => hlen ⟨h6, hh⟩
 unfold jMany
 simp only []
 cases ks with
 | nil =>
  have hns : ns = [] := by
   by_cases h6 : kind = 6
   ·exact List.eq_nil_of_length_eq_zero (hl6 h6)
   ·exact g5 h6
  subst hns
  rw [jFullL] at hd ⊢
  have hx : b[p + 1]? = some fin := by simpa using at_drop hd 0
  rw [jRightL] at hr
  injection hr with hr
  rw [jBlanks_stay hx hfin, jNext, hx]
  simp only []
  rw [if_pos trivial, hr]
  rfl
 | cons v vs =>
  obtain ⟨c, l, hcl, hc, hc1, hc2⟩ := @jFullL_head (kind == 6) ns v vs
  have hx : b[p + 1]? = some c := by
   have := at_drop hd 0
   rw [hcl] at this
   simpa using this
  have hge := jFullL_ge (v :: vs) (kind == 6) false ns
  have hbl := congrArg List.length hd
  simp only [List.length_drop, List.length_append, List.length_cons] at hbl hge
  rw [jBlanks_stay hx hc, jNext, hx]
  simp only []
  rw [if_neg (by rcases hk with ⟨_, rfl⟩ | ⟨_, rfl⟩; exact hc1; exact hc2), jManyL_written hk hv (v :: vs) ns [] [] [] (p + 1) (m + 1) m' _ L rest (by simp) g7 hl6 g5 (fun _ => rfl) hr hd (by simp only [List.length_cons]; omega)]
  simp only [List.nil_append]
  congr 2
  congr 1
  omega
theorem jValue_written {b : List UInt8} : ∀ (d : Nat), ReadOk b d (jValue b d)
 | d, .mk k n t ns ks, p, m, m', L, rest, hg, hr, h, hrest => by
  by_cases hb : jBad k n t m
  ·rw [jRight_bad hb] at hr; cases hr
  by_cases hk : k < 5
  ·rw [jRight_leaf hb hk] at hr
   injection hr with hr
   rw [← hr]
   cases d <;> (rw [jValue]; exact jLeaf_written hg hb hk h hrest)
  ·cases d with
   | zero => rw [jRight, if_neg hb, if_neg hk] at hr; cases hr
   | succ d =>
    have hm : m ≠ 4096 := fun h => hb (.inl (by omega))
    have hk6 : k ≤ 6 := Decidable.byContradiction fun hh => hb (.inr (.inr (.inl (by omega))))
    have ih := jValue_written (b := b) d
    rw [jValue, jValueW]
    rcases (by omega : k = 5 ∨ k = 6) with rfl | rfl
    ·have hf : jFull (.mk 5 n t ns ks) = [91] ++ (jFullL ((5 : Int) == 6) false ns ks ++ [93]) := by rw [jFull]; rfl
     rw [hf, List.append_assoc, List.append_assoc] at h
     rw [hf, show b[p]? = some 91 by simpa using at_drop h 0]
     simp only []
     rw [if_neg hm, if_neg (by decide), if_neg (by decide), if_neg (by decide), if_neg (by decide), if_neg (by decide), if_pos trivial, jMany_written (.inl ⟨rfl, rfl⟩) ih hg hr h]
     simp only [List.length_append, List.length_cons, List.length_nil]
     congr 2
     congr 1
     omega
    ·have hf : jFull (.mk 6 n t ns ks) = [123] ++ (jFullL ((6 : Int) == 6) false ns ks ++ [125]) := by rw [jFull]; rfl
     rw [hf, List.append_assoc, List.append_assoc] at h
     rw [hf, show b[p]? = some 123 by simpa using at_drop h 0]
     simp only []
     rw [if_neg hm, if_neg (by decide), if_neg (by decide), if_neg (by decide), if_neg (by decide), if_neg (by decide), if_neg (by decide), if_pos trivial, jMany_written (.inr ⟨rfl, rfl⟩) ih hg hr h]
     simp only [List.length_append, List.length_cons, List.length_nil]
     congr 2
     congr 1
     omega
theorem jParse_written {v : JV} {L x : Nat} (hg : JGood L v) (hr : jRight 16 v 0 = some x) (hl : (jFull v).length ≤ 65536) : jParse (jFull v) = .ok v := by
 have h := jValue_written (b := jFull v) 16 v 0 0 x L [] hg hr (by simp) (fun c hc => by cases hc)
 have hb : jBlanks (jFull v) 0 = 0 := by
  obtain ⟨k, n, t, ns, ks⟩ := v
  obtain ⟨c, l, hcl, hc, _⟩ := jFull_head k n t ns ks
  exact jBlanks_stay (by rw [hcl]; rfl) hc
 unfold jParse
 rw [if_neg (by omega), hb, h]
 simp only []
 have := jBlanks_ge (jFull v) (0 + (jFull v).length)
 rw [if_neg (by omega)]
end Go.Proofs.YtlhicfpmlncomaaGreatDoor

namespace Go.Proofs.YtlhicfpmlncomaaGreatDoor
end Go.Proofs.YtlhicfpmlncomaaGreatDoor

namespace Go.Proofs.YtlhicfpmlncomaaGreatDoor
open Go.Lib
mutual
def jBare : JV → JV
 | .mk k n t ns ks => .mk k (if k = 3 then n else 0) (if k = 4 then t else []) (if k = 6 then ns else []) (if 5 ≤ k then jBareL ks else [])
def jBareL : List JV → List JV
 | [] => []
 | v :: vs => jBare v :: jBareL vs
end
theorem jBareL_map : ∀ ks : List JV, jBareL ks = ks.map jBare
 | [] => rfl
 | v :: vs => by rw [jBareL, jBareL_map vs, List.map_cons]
theorem jBareL_len : ∀ ks : List JV, (jBareL ks).length = ks.length := fun ks => by rw [jBareL_map, List.length_map]
theorem jTotL_len : ∀ ks : List JV, ks.length ≤ jTotL ks
 | [] => Nat.le_refl _
 | v :: vs => by
  have h1 := jTotL_len vs
  have h2 := jTot_pos v
  rw [jTotL, List.length_cons]
  omega
theorem goodL_bare {f : JV → Nat → Option Nat} {L : Nat} (hf : ∀ v m x, jW v ≤ L → f v m = some x → JGood L (jBare v)) {obj : Bool} : ∀ (ks : List JV) (seen ns : List (List UInt8)) (m x : Nat), jWL ks ≤ L → jRightL f obj seen ns ks m = some x → JGoodL L (jBareL ks)
 | [], _, _, _, _, _, _ => by rw [jBareL, JGoodL]; trivial
 | v :: vs, seen, ns, m, x, hw, h => by
  rw [jWL] at hw
  rw [jRightL] at h
  rw [jBareL, JGoodL]
  split at h
  ·cases h
  ·cases hv : f v m with
   | none => rw [hv] at h; cases h
   | some m' =>
    rw [hv] at h
    exact ⟨hf v m m' (by omega) hv, goodL_bare hf vs _ _ m' x (by omega) h⟩
theorem good_bare (L : Nat) : ∀ (d : Nat) (v : JV) (m x : Nat), jW v ≤ L → jRight d v m = some x → JGood L (jBare v)
 | d, .mk k n t ns ks, m, x, hw, h => by
  have htot : m + jTot (.mk k n t ns ks) ≤ 4096 := by
   have h2 := h
   rw [jRight_doc] at h2
   split at h2
   ·rename_i h3; exact h3.2
   ·cases h2
  rw [jTot] at htot
  rw [jW] at hw
  have hkl := jTotL_len ks
  have hns := fun s hs => jWn_mem (ns := ns) (s := s) hs
  rw [jBare, JGood]
  cases d with
  | zero =>
   rw [jRight] at h
   split at h
   ·cases h
   ·rename_i hb
    have h0 : ¬ k < 0 := fun h => hb (.inr (.inl h))
    split at h
    ·rename_i hk
     rw [if_neg (show ¬ k = 6 by omega), if_neg (show ¬ 5 ≤ k by omega)]
     refine ⟨by omega, by omega, fun h => by rw [if_neg h], fun h => by rw [if_neg h], fun _ => rfl, fun _ => rfl, ?_, (fun s hs => by cases hs), by simp, by simp, by rw [JGoodL]; trivial⟩
     split
     ·omega
     ·simp
    ·cases h
  | succ d =>
   rw [jRight] at h
   split at h
   ·cases h
   ·rename_i hb
    have h0 : ¬ k < 0 := fun h => hb (.inr (.inl h))
    have h6 : ¬ 6 < k := fun h => hb (.inr (.inr (.inl h)))
    split at h
    ·rename_i hk
     rw [if_neg (show ¬ k = 6 by omega), if_neg (show ¬ 5 ≤ k by omega)]
     refine ⟨by omega, by omega, fun h => by rw [if_neg h], fun h => by rw [if_neg h], fun _ => rfl, fun _ => rfl, ?_, (fun s hs => by cases hs), by simp, by simp, by rw [JGoodL]; trivial⟩
     split
     ·omega
     ·simp
    ·rename_i hk
     split at h
     ·cases h
     ·rename_i hl
      rw [if_pos (show 5 ≤ k by omega)] at htot
      rw [if_pos (show 5 ≤ k by omega)]
      have hg := goodL_bare (fun v m x => good_bare L d v m x) ks _ _ _ _ (by omega) h
      refine ⟨by omega, by omega, fun h => by rw [if_neg h], fun h => by rw [if_neg h], fun h => by rw [if_neg h], fun h => absurd h hk, ?_, ?_, ?_, by rw [jBareL_len]; omega, hg⟩
      ·split
       ·omega
       ·simp
      ·intro s hs
       split at hs
       ·have := hns s hs; omega
       ·cases hs
      ·split
       ·rename_i h6'
        have : ns.length = ks.length := Decidable.byContradiction fun hh => hl ⟨h6', hh⟩
        omega
       ·simp
end Go.Proofs.YtlhicfpmlncomaaGreatDoor

namespace Go.Proofs.YtlhicfpmlncomaaGreatDoor
open Go.Lib
def mRightN (l : List MNote) : Prop := l.length ≤ 32 ∧ (∀ x ∈ l, validD x.key = true ∧ validD x.val = true) ∧ (l.map (·.key)).Nodup
def mRightD (d : MDesc) : Prop := mediaB d.media = true ∧ 0 ≤ d.size ∧ d.size ≤ 1099511627776 ∧ mRightN d.notes
def mRight (d : MDoc) : Prop := (d.media = sImage ∨ d.media = sIndex) ∧ (d.type = [] ∨ mediaB d.type = true) ∧ d.edges.length ≤ 64 ∧ mRightN d.notes ∧ (∀ x ∈ d.edges, mRightD x) ∧ (d.media = sImage → mRightD d.config) ∧ (d.has = true → mRightD d.subject)
instance (l : List MNote) : Decidable (mRightN l) := by unfold mRightN; exact inferInstance
instance (d : MDesc) : Decidable (mRightD d) := by unfold mRightD; exact inferInstance
instance (d : MDoc) : Decidable (mRight d) := by unfold mRight; exact inferInstance
def jT (s : List UInt8) : JV := .mk 4 0 s [] []
def jN (n : Int) : JV := .mk 3 n [] [] []
def jO (ms : List (List UInt8 × JV)) : JV := .mk 6 0 [] (ms.map (·.1)) (ms.map (·.2))
def jL (ks : List JV) : JV := .mk 5 0 [] [] ks
def tNotes (l : List MNote) : JV := jO (l.map fun x => (x.key, jT x.val))
def tWith (l : List MNote) : List (List UInt8 × JV) := if l = [] then [] else [(kNotes, tNotes l)]
def tDesc (d : MDesc) : JV := jO ([(kMedia, jT d.media), (kDigest, jT (dgT d.dig)), (kSize, jN d.size)] ++ tWith d.notes)
def tType (s : List UInt8) : List (List UInt8 × JV) := if s = [] then [] else [(kType, jT s)]
def tMain (d : MDoc) : List (List UInt8 × JV) := if d.media = sImage then [(kConfig, tDesc d.config), (kLayers, jL (d.edges.map tDesc))] else [(kManifests, jL (d.edges.map tDesc))]
def tSubj (d : MDoc) : List (List UInt8 × JV) := if d.has = true then [(kSubject, tDesc d.subject)] else []
def tMems (d : MDoc) : List (List UInt8 × JV) := [(kVersion, jN 2), (kMedia, jT d.media)] ++ (tType d.type ++ (tMain d ++ (tSubj d ++ tWith d.notes)))
def mTell (d : MDoc) : JV := jO (tMems d)
-- What is told is bare.
theorem jBare_T (s : List UInt8) : jBare (jT s) = jT s := by rw [jT, jBare]; rfl
theorem jBare_N (n : Int) : jBare (jN n) = jN n := by rw [jN, jBare]; rfl
theorem jBare_O {ms : List (List UInt8 × JV)} (h : ∀ x ∈ ms, jBare x.2 = x.2) : jBare (jO ms) = jO ms := by
 rw [jO, jBare, jBareL_map, List.map_map]
 have : ms.map (jBare ∘ fun x => x.2) = ms.map fun x => x.2 := List.map_congr_left fun x hx => h x hx
 rw [this]
 rfl
theorem jBare_L {ks : List JV} (h : ∀ x ∈ ks, jBare x = x) : jBare (jL ks) = jL ks := by
 rw [jL, jBare, jBareL_map]
 have : ks.map jBare = ks.map id := List.map_congr_left fun x hx => h x hx
 rw [this, List.map_id]
 rfl
theorem jBare_notes (l : List MNote) : jBare (tNotes l) = tNotes l := jBare_O fun x hx => by
 obtain ⟨y, _, rfl⟩ := List.mem_map.1 hx
 exact jBare_T _
theorem tWith_bare {l : List MNote} : ∀ x ∈ tWith l, jBare x.2 = x.2 := by
 intro x hx
 unfold tWith at hx
 split at hx
 ·cases hx
 ·rw [List.mem_singleton.1 hx]; exact jBare_notes l
theorem jBare_desc (d : MDesc) : jBare (tDesc d) = tDesc d := jBare_O fun x hx => by
 rcases List.mem_append.1 hx with hx | hx
 ·simp only [List.mem_cons, List.not_mem_nil, or_false] at hx
  rcases hx with rfl | rfl | rfl
  ·exact jBare_T _
  ·exact jBare_T _
  ·exact jBare_N _
 ·exact tWith_bare x hx
theorem mems_bare {d : MDoc} : ∀ x ∈ tMems d, jBare x.2 = x.2 := fun x hx => by
 have hl : jBare (jL (d.edges.map tDesc)) = jL (d.edges.map tDesc) := jBare_L fun x hx => by
  obtain ⟨y, _, rfl⟩ := List.mem_map.1 hx
  exact jBare_desc y
 unfold tMems at hx
 simp only [List.mem_append, List.mem_cons, List.not_mem_nil, or_false] at hx
 rcases hx with (rfl | rfl) | hx | hx | hx | hx
 ·exact jBare_N _
 ·exact jBare_T _
 ·unfold tType at hx
  split at hx
  ·cases hx
  ·rw [List.mem_singleton.1 hx]; exact jBare_T _
 ·unfold tMain at hx
  split at hx
  ·simp only [List.mem_cons, List.not_mem_nil, or_false] at hx
   rcases hx with rfl | rfl
   ·exact jBare_desc _
   ·exact hl
  ·rw [List.mem_singleton.1 hx]; exact hl
 ·unfold tSubj at hx
  split at hx
  ·rw [List.mem_singleton.1 hx]; exact jBare_desc _
  ·cases hx
 ·exact tWith_bare x hx
-- Reading members, one behind the other.
def mReadM (d : MDoc) (h : MGot) (ms : List (List UInt8 × JV)) : MR MDoc := mReadL d h (ms.map (·.1)) (ms.map (·.2))
theorem mNotesL_told : ∀ (l : List MNote), mNotesL ((l.map fun x => (x.key, jT x.val)).map (·.1)) ((l.map fun x => (x.key, jT x.val)).map (·.2)) = .ok l
 | [] => rfl
 | x :: l => by
  rw [List.map_cons, List.map_cons, List.map_cons, mNotesL, if_pos (show (x.key, jT x.val).snd.kind = 4 from rfl), mNotesL_told l]
  rfl
theorem mNotes_told {l : List MNote} (h : l.length ≤ 32) : mNotes (tNotes l) = .ok l := by
 have : mNotes (tNotes l) = if 32 < ((l.map fun x => (x.key, jT x.val)).map (·.2)).length then .error 8 else mNotesL ((l.map fun x => (x.key, jT x.val)).map (·.1)) ((l.map fun x => (x.key, jT x.val)).map (·.2)) := if_pos rfl
 rw [this, if_neg (by simp; omega), mNotesL_told]
theorem mMedia_told {s : List UInt8} (h : mediaB s = true) : mMedia (jT s) = .ok s := (if_pos rfl).trans (if_pos h)
theorem mDesc_told {d : MDesc} (hr : mRightD d) (hd : d.dig.length = 32) : mDesc (tDesc d) = .ok d := by
 obtain ⟨h1, h2, h3, h4⟩ := hr
 have e0 : mDesc (tDesc d) = mDescL .zero ⟨false, false, false⟩ (([(kMedia, jT d.media), (kDigest, jT (dgT d.dig)), (kSize, jN d.size)] ++ tWith d.notes).map (·.1)) (([(kMedia, jT d.media), (kDigest, jT (dgT d.dig)), (kSize, jN d.size)] ++ tWith d.notes).map (·.2)) := if_pos rfl
 rw [e0]
 simp only [List.cons_append, List.nil_append, List.map_cons]
 have s1 : ∀ (x : MDesc) (h : MHad), mdStep x h kMedia (jT d.media) = .ok ({ x with media := d.media }, { h with a := true }) := fun x h => by unfold mdStep; rw [if_pos rfl, mMedia_told h1]
 have s2 : ∀ (x : MDesc) (h : MHad), mdStep x h kDigest (jT (dgT d.dig)) = .ok ({ x with dig := d.dig }, { h with b := true }) := fun x h => by
  unfold mdStep
  rw [if_neg (by decide), if_pos rfl]
  exact (if_pos rfl).trans (by rw [show (jT (dgT d.dig)).text = dgT d.dig from rfl, dgP_T hd])
 have s3 : ∀ (x : MDesc) (h : MHad), mdStep x h kSize (jN d.size) = .ok ({ x with size := d.size }, { h with c := true }) := fun x h => by
  unfold mdStep
  rw [if_neg (by decide), if_neg (by decide), if_pos rfl]
  exact (if_pos rfl).trans (if_neg (by show ¬ (d.size < 0 ∨ 1099511627776 < d.size); omega))
 have s4 : ∀ (x : MDesc) (h : MHad), mdStep x h kNotes (tNotes d.notes) = .ok ({ x with notes := d.notes }, h) := fun x h => by
  unfold mdStep
  rw [if_neg (by decide), if_neg (by decide), if_neg (by decide), if_pos rfl, mNotes_told h4.1]
 rw [mDescL, s1]
 simp only []
 rw [mDescL, s2]
 simp only []
 rw [mDescL, s3]
 simp only []
 unfold tWith
 split
 ·rename_i hn
  rw [List.map_nil, List.map_nil, mDescL]
  ·rw [if_pos ⟨rfl, rfl, rfl⟩]
   obtain ⟨m, dg, z, nt⟩ := d
   simp only [MDesc.zero] at hn ⊢
   rw [hn]
  ·intros; rename_i h1 h2; cases h1
 ·rw [List.map_cons, List.map_cons, List.map_nil, List.map_nil, mDescL, s4]
  simp only []
  rw [mDescL]
  ·rw [if_pos ⟨rfl, rfl, rfl⟩]
  ·intros; rename_i h1 h2; cases h1
theorem mEdgesL_told : ∀ {l : List MDesc}, (∀ x ∈ l, mRightD x ∧ x.dig.length = 32) → mEdgesL (l.map tDesc) = .ok l
 | [], _ => rfl
 | x :: l, h => by
  rw [List.map_cons, mEdgesL, mDesc_told (h x List.mem_cons_self).1 (h x List.mem_cons_self).2]
  simp only []
  rw [mEdgesL_told fun y hy => h y (List.mem_cons_of_mem _ hy)]
theorem mEdges_told {l : List MDesc} (hl : l.length ≤ 64) (h : ∀ x ∈ l, mRightD x ∧ x.dig.length = 32) : mEdges (jL (l.map tDesc)) = .ok l := by
 have : mEdges (jL (l.map tDesc)) = if 64 < (l.map tDesc).length then .error 8 else mEdgesL (l.map tDesc) := if_pos rfl
 rw [this, if_neg (by simp; omega), mEdgesL_told h]
def MDig (d : MDoc) : Prop := d.config.dig.length = 32 ∧ d.subject.dig.length = 32 ∧ ∀ x ∈ d.edges, x.dig.length = 32
section
variable {d : MDoc}
theorem tell_step1 (x : MDoc) (h : MGot) : mStep x h kVersion (jN 2) = .ok (x, { h with v := true }) := by unfold mStep; rw [if_pos rfl]; exact if_pos ⟨rfl, rfl⟩
theorem tell_step2 {s : List UInt8} (hs : s = sImage ∨ s = sIndex) (x : MDoc) (h : MGot) : mStep x h kMedia (jT s) = .ok ({ x with media := s }, { h with m := true }) := by
 unfold mStep
 rw [if_neg (by decide), if_pos rfl]
 exact (if_pos rfl).trans (if_pos hs)
theorem tell_step3 {s : List UInt8} (hs : mediaB s = true) (x : MDoc) (h : MGot) : mStep x h kType (jT s) = .ok ({ x with type := s }, h) := by
 unfold mStep
 rw [if_neg (by decide), if_neg (by decide), if_pos rfl, mMedia_told hs]
theorem tell_step4 {y : MDesc} (hr : mRightD y) (hd : y.dig.length = 32) (x : MDoc) (h : MGot) : mStep x h kConfig (tDesc y) = .ok ({ x with config := y }, { h with c := true }) := by
 unfold mStep
 rw [if_neg (by decide), if_neg (by decide), if_neg (by decide), if_pos rfl, mDesc_told hr hd]
theorem tell_step5 {l : List MDesc} (hl : l.length ≤ 64) (hr : ∀ x ∈ l, mRightD x ∧ x.dig.length = 32) (x : MDoc) (h : MGot) : mStep x h kLayers (jL (l.map tDesc)) = .ok ({ x with edges := l }, { h with l := true }) := by
 unfold mStep
 rw [if_neg (by decide), if_neg (by decide), if_neg (by decide), if_neg (by decide), if_pos rfl, mEdges_told hl hr]
theorem tell_step6 {l : List MDesc} (hl : l.length ≤ 64) (hr : ∀ x ∈ l, mRightD x ∧ x.dig.length = 32) (x : MDoc) (h : MGot) : mStep x h kManifests (jL (l.map tDesc)) = .ok ({ x with edges := l }, { h with i := true }) := by
 unfold mStep
 rw [if_neg (by decide), if_neg (by decide), if_neg (by decide), if_neg (by decide), if_neg (by decide), if_pos rfl, mEdges_told hl hr]
theorem tell_step7 {y : MDesc} (hr : mRightD y) (hd : y.dig.length = 32) (x : MDoc) (h : MGot) : mStep x h kSubject (tDesc y) = .ok ({ x with subject := y, has := true }, h) := by
 unfold mStep
 rw [if_neg (by decide), if_neg (by decide), if_neg (by decide), if_neg (by decide), if_neg (by decide), if_neg (by decide), if_pos rfl, mDesc_told hr hd]
theorem tell_step8 {l : List MNote} (hr : l.length ≤ 32) (x : MDoc) (h : MGot) : mStep x h kNotes (tNotes l) = .ok ({ x with notes := l }, h) := by
 unfold mStep
 rw [if_neg (by decide), if_neg (by decide), if_neg (by decide), if_neg (by decide), if_neg (by decide), if_neg (by decide), if_neg (by decide), if_pos rfl, mNotes_told hr]
end
theorem jParse_bare {v : JV} (hb : jBare v = v) {l : List UInt8} (h : jWrite v = (l, 0)) : jParse l = .ok v := by
 obtain ⟨x, hx⟩ : ∃ x, jRight 16 v 0 = some x := by
  cases hx : jRight 16 v 0 with
  | some x => exact ⟨x, rfl⟩
  | none =>
   unfold jWrite at h
   rw [hx] at h
   injection h with _ h; cases h
 unfold jWrite at h
 rw [hx] at h
 simp only [] at h
 split at h
 ·injection h with _ h; cases h
 ·rename_i hl
  injection h with h _
  subst h
  have hgd := good_bare (jW v) 16 v 0 x (Nat.le_refl _) hx
  rw [hb] at hgd
  exact jParse_written hgd hx (by omega)
end Go.Proofs.YtlhicfpmlncomaaGreatDoor

namespace Go.Proofs.YtlhicfpmlncomaaGreatDoor
open Go.RowKit
theorem macc_step {l : List UInt8} {k h : Nat} {b : Bool} {c : UInt8} (hc : l[k]? = some c) : macc h b (l.drop k) = if c = 47 ∧ b = true then macc (h + 1) false (l.drop (k + 1)) else if (signB c || (b && moreB c)) = true then macc h true (l.drop (k + 1)) else false := by
 obtain ⟨hk, rfl⟩ := List.getElem?_eq_some_iff.1 hc
 rw [List.drop_eq_getElem_cons hk, macc]
theorem any_take {p : UInt8 → Bool} {l : List UInt8} {k : Nat} {c : UInt8} (h : l[k]? = some c) : (l.take (k + 1)).any p = ((l.take k).any p || p c) := by rw [take_snoc h]; simp
set_option maxRecDepth 20000 in
set_option maxHeartbeats 3200000 in
theorem mediaF_any (s : ByteArray) (w : World) (hs : s.size ≤ 4294967281) : Calls Tryz.prog 46 #[.string s] w fun e w' => e = .returned (.bool (mediaB s.data.toList)) ∧ w = w' := by
 have hlb := box (str_len s)
 have hRB : Box (mediaB s.data.toList = (macc 1 false s.data.toList && decide (s.size ≤ 127))) := box (media_macc _)
 generalize mediaB s.data.toList = R at *
 go_enter Tryz.func46, Tryz.ntmps46
 go_wp2
 go_loop [3, 4, 6] (fun x3 x4 x6 => ∃ (k h : Nat) (b : Bool), k ≤ s.size ∧ h ≤ k + 1 ∧ x3 = .int .i64 h ∧ x4 = .bool b ∧ x6 = .int .i64 k ∧ Box (macc 1 false s.data.toList = macc h b (s.data.toList.drop k))) (fun _ _ i => s.size - (intOf i).toNat)
 case atStart => exact ⟨0, 1, false, by omega, by omega, rfl, rfl, rfl, box rfl⟩
 case round =>
  obtain ⟨k, h, b, hk, hh, rfl, rfl, rfl, hA⟩ := hrel
  by_cases hlt : k < s.size
  ·obtain ⟨c, hc⟩ := str_at hlt
   have hix := fun W => run_strIx (P := Tryz.prog) uq9 hc (i := (k : Int)) rfl .i64 W
   have hA2 : Box (macc 1 false s.data.toList = if c = 47 ∧ b = true then macc (h + 1) false (s.data.toList.drop (k + 1)) else if (signB c || (b && moreB c)) = true then macc h true (s.data.toList.drop (k + 1)) else false) := box (hA.out.trans (macc_step hc))
   clear hA
   replace hc := box hc
   by_cases h47 : c = 47
   ·subst h47
    replace hix : ∀ W, (Instr.index 9 (.string s) (.int .i64 (k : Int))).run Tryz.prog W = .ok (.int .u8 47) W := hix
    cases b with
    | true =>
     have hA3 : Box (macc 1 false s.data.toList = macc (h + 1) false (s.data.toList.drop (k + 1))) := box (by rw [hA2.out]; simp)
     clear hA2
     go_wp2
     go_round
     case rel => exact ⟨k + 1, h + 1, false, by omega, by omega, by go_num, rfl, by go_num, hA3⟩
     case measure => simp [intOf]; omega
    | false =>
     have hfin : Box (R = false) := box (by rw [hRB.out, hA2.out]; simp [sign47])
     have hs47 := sign47
     clear hA2 hRB
     go_wp2_with (go_at_call 77; refine (signF_any 47 _ rfl _).mono ?_; rintro e w' ⟨rfl, rfl⟩)
     go_loop [8, 9] (fun o i => o = .bool false ∧ i = .int .i64 0) (fun _ _ => 0)
     case atStart => exact ⟨rfl, rfl⟩
     case round =>
      obtain ⟨rfl, rfl⟩ := hrel
      go_wp2
      go_ret
      exact ⟨by rw [hfin.out]; rfl, rfl⟩
   ·have e47 : ((c.toNat : Int) == 47) = false := u8_ne (d := 47) h47
    have hA3 : Box (macc 1 false s.data.toList = if (signB c || (b && moreB c)) = true then macc h true (s.data.toList.drop (k + 1)) else false) := box (by rw [hA2.out, if_neg (fun hh => h47 hh.1)])
    clear hA2 h47
    cases b with
    | false =>
     cases hsg : signB c with
     | true =>
      have hA4 : Box (macc 1 false s.data.toList = macc h true (s.data.toList.drop (k + 1))) := box (by rw [hA3.out, hsg]; rfl)
      clear hA3
      go_wp2_with (go_at_call 77; refine (signF_any c _ rfl _).mono ?_; rintro e w' ⟨rfl, rfl⟩)
      go_loop [8, 9] (fun o i => o = .bool true ∧ i = .int .i64 0) (fun _ _ => 0)
      case atStart => exact ⟨rfl, rfl⟩
      case round =>
       obtain ⟨rfl, rfl⟩ := hrel
       go_wp2
       go_round
       case rel => exact ⟨k + 1, h, true, by omega, by omega, rfl, rfl, by go_num, hA4⟩
       case measure => simp [intOf]; omega
     | false =>
      have hfin : Box (R = false) := box (by rw [hRB.out, hA3.out, hsg]; rfl)
      clear hA3 hRB
      go_wp2_with (go_at_call 77; refine (signF_any c _ rfl _).mono ?_; rintro e w' ⟨rfl, rfl⟩)
      go_loop [8, 9] (fun o i => o = .bool false ∧ i = .int .i64 0) (fun _ _ => 0)
      case atStart => exact ⟨rfl, rfl⟩
      case round =>
       obtain ⟨rfl, rfl⟩ := hrel
       go_wp2
       go_ret
       exact ⟨by rw [hfin.out]; rfl, rfl⟩
    | true =>
     have hm9 : Box (moreS.data.toList.length = 9) := box rfl
     have hmB : Box (moreB c = moreS.data.toList.any (· == c)) := box rfl
     go_wp2_with (go_at_call 77; refine (signF_any c _ rfl _).mono ?_; rintro e w' ⟨rfl, rfl⟩)
     clear hix
     go_loop [8, 9] (fun o i => ∃ (q : Nat) (y : Bool), q ≤ 9 ∧ o = .bool y ∧ i = .int .i64 q ∧ Box (y = (signB c || (moreS.data.toList.take q).any (· == c)))) (fun _ i => 9 - (intOf i).toNat)
     case atStart => exact ⟨0, signB c, by omega, rfl, rfl, box (by simp)⟩
     case round =>
      obtain ⟨q, y, hq, rfl, rfl, hy⟩ := hrel
      by_cases hq9 : q < 9
      ·obtain ⟨d, hd⟩ : ∃ d, moreS.data.toList[q]? = some d := ⟨moreS.data.toList[q]'(by have := hm9.out; omega), by simp⟩
       have hix : ∀ W, (Instr.index 9 (.string ⟨#[33, 35, 36, 38, 45, 94, 95, 46, 43]⟩) (.int .i64 (q : Int))).run Tryz.prog W = .ok (.int .u8 (d.toNat : Int)) W := fun W => run_strIx (P := Tryz.prog) uq9 hd (i := (q : Int)) rfl .i64 W
       have hnext := box (fun (z : Bool) (hz : z = (y || d == c)) => show z = (signB c || (moreS.data.toList.take (q + 1)).any (· == c)) by rw [hz, hy.out, any_take hd, Bool.or_assoc])
       clear hy
       replace hd := box hd
       cases y with
       | true =>
        go_wp2
        go_round
        case rel => exact ⟨q + 1, true, by omega, rfl, by go_num, box (hnext.out true (by simp))⟩
        case measure => simp [intOf]; omega
       | false =>
        by_cases hdc : d = c
        ·subst hdc
         go_wp2
         go_round
         case rel => exact ⟨q + 1, true, by omega, by simp, by go_num, box (hnext.out true (by simp))⟩
         case measure => simp [intOf]; omega
        ·have hne : ((c.toNat : Int) == (d.toNat : Int)) = false := u8_ne (fun h => hdc h.symm)
         have hdf : Box ((d == c) = false) := box (beq_eq_false_iff_ne.2 hdc)
         clear hdc
         go_wp2
         go_round
         case rel => exact ⟨q + 1, false, by omega, rfl, by go_num, box (hnext.out false (by rw [hdf.out]; rfl))⟩
         case measure => simp [intOf]; omega
      ·have hyo : Box (y = (signB c || moreB c)) := box (by rw [hy.out, hmB.out, List.take_of_length_le (by have := hm9.out; omega)])
       clear hy
       cases y with
       | true =>
        have hA4 : Box (macc 1 false s.data.toList = macc h true (s.data.toList.drop (k + 1))) := box (by rw [hA3.out, Bool.true_and, ← hyo.out]; rfl)
        clear hA3
        go_wp2
        go_round
        case rel => exact ⟨k + 1, h, true, by omega, by omega, rfl, rfl, by go_num, hA4⟩
        case measure => simp [intOf]; omega
       | false =>
        have hfin : Box (R = false) := box (by rw [hRB.out, hA3.out, Bool.true_and, ← hyo.out]; rfl)
        clear hA3 hRB
        go_wp2
        go_ret
        exact ⟨by rw [hfin.out]; rfl, rfl⟩
  ·have hfin : Box (R = ((b && h == 2) && decide (s.size ≤ 127))) := box (by rw [hRB.out, hA.out, List.drop_of_length_le (by have := hlb.out; omega)]; rfl)
   clear hA hRB
   cases b with
   | false =>
    have hR : Box (R = false) := box (by rw [hfin.out]; rfl)
    go_wp2
    go_ret
    exact ⟨by rw [hR.out]; rfl, rfl⟩
   | true =>
    cases h2 : (h == 2) with
    | true =>
     obtain rfl : h = 2 := by simpa using h2
     by_cases h127 : s.size ≤ 127
     ·have hR : Box (R = true) := box (by rw [hfin.out, decide_eq_true h127]; rfl)
      clear hfin
      go_wp2
      go_ret
      exact ⟨ret1 (by rw [hR.out]; first | rfl | (simp; omega)), rfl⟩
     ·have hR : Box (R = false) := box (by rw [hfin.out, decide_eq_false h127]; rfl)
      clear hfin
      go_wp2
      go_ret
      exact ⟨ret1 (by rw [hR.out]; first | rfl | (simp; omega)), rfl⟩
    | false =>
     have hR : Box (R = false) := box (by rw [hfin.out, h2]; rfl)
     have hne : ((h : Int) == 2) = false := by rw [beq_eq_false_iff_ne] at h2 ⊢; omega
     clear hfin
     go_wp2
     go_ret
     exact ⟨by rw [hR.out]; rfl, rfl⟩
end Go.Proofs.YtlhicfpmlncomaaGreatDoor

namespace Go.Proofs.YtlhicfpmlncomaaGreatDoor
open Go.RowKit
end Go.Proofs.YtlhicfpmlncomaaGreatDoor

namespace Go.Proofs.YtlhicfpmlncomaaGreatDoor
open Go.RowKit
inductive FieldEq (P : Program) (xs ys : List Value) : Field → Bool → Prop
 | int {f : Field} {k k' : IntKind} {a b : Int} (hn : f.name ≠ "_") (ht : P.underlying f.type = some (.int k')) (hx : xs[f.offset]? = some (.int k a)) (hy : ys[f.offset]? = some (.int k b)) : FieldEq P xs ys f (a == b)
 | bool {f : Field} {a b : Bool} (hn : f.name ≠ "_") (ht : P.underlying f.type = some .bool) (hx : xs[f.offset]? = some (.bool a)) (hy : ys[f.offset]? = some (.bool b)) : FieldEq P xs ys f (a == b)
 | str {f : Field} {a b : ByteArray} (hn : f.name ≠ "_") (ht : P.underlying f.type = some .string) (hx : xs[f.offset]? = some (.string a)) (hy : ys[f.offset]? = some (.string b)) : FieldEq P xs ys f (a.toList == b.toList)
 | arr {f : Field} {n : Nat} {u8 : TypeId} {l m : List UInt8} (hn : f.name ≠ "_") (ht : P.underlying f.type = some (.array n u8)) (hs : (P.info? f.type).map (·.size) = some n) (hb : P.underlying u8 = some (.int .u8)) (h1 : (P.info? u8).map (·.size) = some 1)
  (hl : l.length = n) (hm : m.length = n) (hx : (xs.drop f.offset).take n = l.map bv) (hy : (ys.drop f.offset).take n = m.map bv) : FieldEq P xs ys f (l == m)
section
variable {P : Program} {o : Oper} {a : Act} {K : Act → World → Prop} {Q : Exit → Act → World → Prop}
theorem run_part1 {f : Field} {d : TypeDesc} {xs : List Value} {v : Value} (hu : P.underlying f.type = some d) (hd : aggT d = false) (hv : xs[f.offset]? = some v) (w : World) : (part f.type xs.toArray f.offset).run P w = .ok v w := by
 have hagg : (isAgg f.type).run P w = .ok false w := by rw [run_isAgg hu w, hd]
 simp [part, hagg, hv]
theorem run_partA {f : Field} {n : Nat} {u8 : TypeId} {xs ls : List Value} (hu : P.underlying f.type = some (.array n u8)) (hs : (P.info? f.type).map (·.size) = some n) (hv : (xs.drop f.offset).take n = ls) (w : World) : (part f.type xs.toArray f.offset).run P w = .ok (.agg ls.toArray) w := by
 have hagg : (isAgg f.type).run P w = .ok true w := by rw [run_isAgg hu w]; rfl
 obtain ⟨j, hj, hsz⟩ := Option.map_eq_some_iff.1 hs
 have hso : (sizeOf f.type).run P w = .ok n w := by simp [sizeOf, typeInfo, hj, hsz]
 have hex : xs.toArray.extract f.offset (f.offset + n) = ls.toArray := by
  apply Array.ext'
  rw [Array.toList_extract]
  simp only [List.extract]
  rw [Nat.add_sub_cancel_left]
  exact hv
 unfold part
 rw [Sem.run_bind, hagg, Result.andThen_ok]
 simp only [if_true, Sem.run_bind, hso, Result.andThen_ok, Sem.run_pure, hex]
theorem FieldEq.run {xs ys : List Value} {f : Field} {b : Bool} (h : FieldEq P xs ys f b) (k : Nat) (w : World) :
  f.name ≠ "_" ∧ ∃ u v, (part f.type xs.toArray f.offset).run P w = .ok u w ∧ (part f.type ys.toArray f.offset).run P w = .ok v w ∧ (Op.equalIn (k + 2) f.type u v).run P w = .ok b w := by
 cases h with
 | int hn ht hx hy => exact ⟨hn, _, _, run_part1 ht rfl hx w, run_part1 ht rfl hy w, run_equalIn_int w (k + 1) _ _ _ _ _ ht⟩
 | bool hn ht hx hy => exact ⟨hn, _, _, run_part1 ht rfl hx w, run_part1 ht rfl hy w, run_equalIn_bool' w (k + 1) _ _ _ ht⟩
 | str hn ht hx hy => exact ⟨hn, _, _, run_part1 ht rfl hx w, run_part1 ht rfl hy w, run_equalIn_string w (k + 1) _ _ _ ht⟩
 | arr hn ht hs hb h1 hl hm hx hy => exact ⟨hn, _, _, run_partA ht hs hx w, run_partA ht hs hy w, run_eqBytes ht hb h1 _ _ hl hm k w⟩
inductive FieldsEq (P : Program) (xs ys : List Value) : List Field → Bool → Prop
 | nil : FieldsEq P xs ys [] true
 | cons {f : Field} {fs : List Field} {b c : Bool} (h : FieldEq P xs ys f b) (hs : FieldsEq P xs ys fs c) : FieldsEq P xs ys (f :: fs) (b && c)
theorem FieldsEq.run {xs ys : List Value} (k : Nat) (w : World) : ∀ {fs : List Field} {b : Bool}, FieldsEq P xs ys fs b → (Op.eqFields (k + 2) xs.toArray ys.toArray fs).run P w = .ok b w := by
 intro fs b h
 induction h with
 | nil => simp [Op.eqFields]
 | cons h _ ih =>
  obtain ⟨hn, u, v, p1, p2, p3⟩ := h.run k w
  rename_i b c _
  simp only [Op.eqFields, hn, ne_eq, not_false_eq_true, if_true, Sem.run_bind, p1, p2, p3, Result.andThen_ok]
  cases b <;> simp [ih]
structure StructEq (P : Program) (t : TypeId) (xs ys : List Value) (b : Bool) : Prop where
 und : P.underlying t = some (.struct (P.fieldsOf t))
 stood : P.stoodInHeld t = false
 grd : P.eqGuardType P.depth t = false
 flds : FieldsEq P xs ys (P.fieldsOf t).toList b
theorem StructEq.run {t : TypeId} {xs ys : List Value} {b : Bool} (h : StructEq P t xs ys b) (k : Nat) (w : World) : (Op.equalIn (k + 3) t (.agg xs.toArray) (.agg ys.toArray)).run P w = .ok b w := by
 rw [run_equalIn_struct w (k + 2) t _ _ h.und h.stood]
 exact FieldsEq.run k w h.flds
theorem yi_build {S : World → Prop} {ops : Array Oper} {t : TypeId} {cs : List Value} (hw : Region.wanted o (yielded ops a.tmps) = true) {fs : Array Field} (hu : P.underlying t = some (.struct fs)) {z : Value} (hz : (P.info? t).map (·.zero) = some (some z)) {pl : List (Nat × Nat)} (hp : fs.toList.map (fun f => (f.offset, (P.info? f.type).map (·.size))) = pl.map (fun p => (p.1, some p.2)))
  {parts : Array (Nat × Operand)} (ho : o.op = .build t parts) {vs : List (Nat × Value)} (hvs : (parts.map fun p => (p.1, a.eval p.2)).toList = vs)
  (hf : Instr.fill (fun i : Nat => pl[i]?) z.cells vs = some cs.toArray) : YieldsIf P ops S o (.agg cs.toArray) a := by
 obtain ⟨j, hj, hzz⟩ := Option.map_eq_some_iff.1 hz
 refine yi_run hw fun w _ => ?_
 have hm : ∀ (fl : List Field) (pl : List (Nat × Nat)), fl.map (fun f => (f.offset, (P.info? f.type).map (·.size))) = pl.map (fun p => (p.1, some p.2)) → (fl.mapM (m := Sem) fun f => do pure (f.offset, ← sizeOf f.type)).run P w = .ok pl w := by
  intro fl
  induction fl with
  | nil => intro pl h; cases pl with
   | nil => simp
   | cons p pl => simp at h
  | cons f fl ih => intro pl h; cases pl with
   | nil => simp at h
   | cons p pl =>
    simp only [List.map_cons, List.cons.injEq, Prod.mk.injEq] at h
    obtain ⟨q, hq, hsz⟩ := Option.map_eq_some_iff.1 h.1.2
    have h1 := ih pl h.2
    have h2 : (sizeOf f.type).run P w = .ok p.2 w := by simp [sizeOf, typeInfo, hq, hsz]
    simp only [List.mapM_cons, Sem.run_bind, h2, Result.andThen_ok, Sem.run_pure, h1, h.1.1]
 have hmm := hm fs.toList pl hp
 have hzc : (zeroValue t).run P w = .ok z w := by simp [zeroValue, typeInfo, hj, hzz]
 have hpm : ((fs.mapM (m := Sem) fun f => do pure (f.offset, ← sizeOf f.type)).run P w) = .ok pl.toArray w := by
  rw [← Array.toArray_toList (xs := fs)]
  rw [List.mapM_toArray, Sem.run_map, hmm, Result.andThen_ok]
 have hvs' : (parts.map fun p => (p.1, a.eval p.2)).toList = vs := hvs
 have hfl : Instr.fill (fun i : Nat => pl.toArray[i]?) z.cells vs = some cs.toArray := by
  have : (fun i : Nat => pl.toArray[i]?) = (fun i : Nat => pl[i]?) := by funext i; simp
  rw [this]; exact hf
 unfold execOp
 simp only [ho, Instr.build, Sem.run_bind, hzc, run_underlying hu, hpm, Result.andThen_ok]
 simp only [hvs', hfl, Sem.run_pure, Result.andThen_ok]
end
end Go.Proofs.YtlhicfpmlncomaaGreatDoor

namespace Go.Proofs.YtlhicfpmlncomaaGreatDoor
open Go.RowKit
theorem VRd.parts {w : World} {S : Nat → Prop} {u : JV} {ci xs : List Value} {i : Nat} (h : VRd w S u ci) (hc : (xs.drop (i * 5)).take 5 = ci) :
  xs[i * 5]? = some (.int .i64 u.kind) ∧ xs[i * 5 + 1]? = some (.int .i64 u.num) ∧ xs[i * 5 + 2]? = some (.string ⟨u.text.toArray⟩) := by
 obtain ⟨k, n, t, ns, ks⟩ := u
 rw [VRd] at h
 obtain ⟨An, nn, cn, Ak, nk, ck, ys, hcn, hck, rfl, hrn, hrk, hvk⟩ := h
 have hg : ∀ j, j < 5 → xs[i * 5 + j]? = (vlL k n ⟨t.toArray⟩ (.slice An nn cn) (.slice Ak nk ck))[j]? := by
  intro j hj
  rw [← hc, List.getElem?_take, if_pos hj, List.getElem?_drop]
 exact ⟨hg 0 (by decide), hg 1 (by decide), hg 2 (by decide)⟩
theorem atp_fld (A : Option Addr) (i j : Nat) (hj : j ≠ 0) : (⟨(atp A i).block, (atp A i).off + j, none⟩ : Addr) = atp A (i + j) := by
 unfold atp Addr.add
 rw [if_neg (show ¬ i + j = 0 by omega)]
 by_cases h : i = 0
 ·subst h; rw [if_pos rfl, Nat.zero_add]
 ·rw [if_neg h, Nat.add_assoc]
theorem T_rnote15 : SlT Tryz.prog 35 149 2 32 (.agg #[.string ⟨#[]⟩, .string ⟨#[]⟩]) := ⟨uq35, by kernel_rfl, rfl, by decide⟩
end Go.Proofs.YtlhicfpmlncomaaGreatDoor
