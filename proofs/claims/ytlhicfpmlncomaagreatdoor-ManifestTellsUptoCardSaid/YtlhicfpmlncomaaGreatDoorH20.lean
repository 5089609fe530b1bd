/-
 Layer 6, plain law: a value that is written is read as that value. No program is named here.
 Layer 6, plain law: lists and objects that are written are read as themselves. No program is named here.
 Layer 6, plain law: what is written of a bare value that is right is read as that value. No program is named here.
 Layer 6, plain law: a value that is right is no deeper than it may be. No program is named here.
 Layer 6, plain words: a value without what isn't written. No program is named here.
-/
import Derived.Test.YtlhicfpmlncomaaGreatDoorH19
import Derived.Test.YtlhicfpmlncomaaGreatDoorH18
namespace Go.Proofs.YtlhicfpmlncomaaGreatDoor
open Go.Lib
set_option linter.unusedSimpArgs false
set_option linter.unusedVariables false
theorem jWord_written {b rest : List UInt8} : ∀ (w : List UInt8) (p : Nat), b.drop p = w ++ rest → jWord b w p = .ok (p + w.length)
 | [], p, _ => by rw [jWord]; rfl
 | c :: w, p, h => by
  have h0 : b[p]? = some c := by simpa using at_drop h 0
  have hd : b.drop (p + 1) = w ++ rest := drop_app (x := [c]) h
  rw [jWord, h0]
  simp only []
  rw [if_pos trivial, jWord_written w (p + 1) hd, List.length_cons, Nat.add_right_comm, Nat.add_assoc p]
theorem itoa_numC (n : Int) : ∀ c ∈ itoa n, jNumC c = true := by
 have hd : ∀ u, ∀ c ∈ decDigits u, jNumC c = true := fun u c hc => by
  have := List.all_eq_true.1 (decDigits_dig u) c hc
  unfold jNumC
  rw [this]; rfl
 intro c hc
 unfold itoa at hc
 split at hc
 ·rcases List.mem_cons.1 hc with rfl | hc
  ·decide
  ·exact hd _ c hc
 ·exact hd _ c hc
theorem jNumber_written {b rest : List UInt8} {p : Nat} {n : Int} (h0 : -9007199254740991 ≤ n) (h1 : n ≤ 9007199254740991) (h : b.drop p = itoa n ++ rest) (hr : ∀ c, rest.head? = some c → jNumC c = false) : jNumber b p = .ok (n, p + (itoa n).length) := by
 have ht : (b.drop p).takeWhile jNumC = itoa n := by
  rw [h, List.takeWhile_append_of_pos (itoa_numC n)]
  cases rest with
  | nil => simp
  | cons c l => rw [List.takeWhile_cons, hr c rfl]; simp
 unfold jNumber
 simp only []
 rw [ht, jNum_itoa h0 h1]
theorem jBlanks_stay {b : List UInt8} {p : Nat} {c : UInt8} (h : b[p]? = some c) (hc : jBlank c = false) : jBlanks b p = p := by
 obtain ⟨hp, rfl⟩ := List.getElem?_eq_some_iff.1 h
 unfold jBlanks
 rw [List.drop_eq_getElem_cons hp, List.takeWhile_cons, hc]
 rfl
theorem itoa_head (n : Int) : ∃ c l, itoa n = c :: l ∧ (c = 45 ∨ jDig c = true) := by
 unfold itoa
 split
 ·exact ⟨_, _, rfl, .inl rfl⟩
 ·cases hd : decDigits n.toNat with
  | nil => exact absurd hd (decDigits_ne _)
  | cons c l => exact ⟨c, l, rfl, .inr (List.all_eq_true.1 (decDigits_dig n.toNat) c (by rw [hd]; simp))⟩
theorem dig_no {c : UInt8} (h : c = 45 ∨ jDig c = true) : jBlank c = false ∧ c ≠ 93 ∧ c ≠ 125 ∧ c ≠ 110 ∧ c ≠ 102 ∧ c ≠ 116 := by
 rcases h with rfl | h
 ·decide
 ·have : ∀ c : UInt8, jDig c = true → jBlank c = false ∧ c ≠ 93 ∧ c ≠ 125 ∧ c ≠ 110 ∧ c ≠ 102 ∧ c ≠ 116 := by
   intro c h
   unfold jDig at h
   simp only [Bool.and_eq_true, decide_eq_true_eq] at h
   have n : ∀ k : Nat, k < 256 → (k < 48 ∨ 57 < k) → c ≠ UInt8.ofNat k := fun k hk ho he => by rw [he, ofNat_toNat' hk] at h; omega
   refine ⟨?_, n 93 (by decide) (by decide), n 125 (by decide) (by decide), n 110 (by decide) (by decide), n 102 (by decide) (by decide), n 116 (by decide) (by decide)⟩
   unfold jBlank
   simp only [Bool.or_eq_false_iff, beq_eq_false_iff_ne]
   exact ⟨n 32 (by decide) (by decide), n 9 (by decide) (by decide), n 10 (by decide) (by decide), n 13 (by decide) (by decide)⟩
  exact this c h
/-- How a written value begins. -/
theorem jFull_head (k n : Int) (t : List UInt8) (ns : List (List UInt8)) (ks : List JV) : ∃ c l, jFull (.mk k n t ns ks) = c :: l ∧ jBlank c = false ∧ c ≠ 93 ∧ c ≠ 125 := by
 rw [jFull]
 split
 ·exact ⟨_, _, rfl, by decide⟩
 split
 ·exact ⟨_, _, rfl, by decide⟩
 split
 ·exact ⟨_, _, rfl, by decide⟩
 split
 ·obtain ⟨c, l, h, hc⟩ := itoa_head n
  have := dig_no hc
  exact ⟨c, l, h, this.1, this.2.1, this.2.2.1⟩
 split
 ·exact ⟨_, _, rfl, by decide⟩
 split
 ·exact ⟨_, _, rfl, by decide⟩
 ·exact ⟨_, _, rfl, by decide⟩
/-- A value that is neither a list nor an object. -/
theorem jLeaf_written {b rest : List UInt8} {val : Option (Nat → Nat → JR (JV × Nat × Nat))} {L p m : Nat} {k n : Int} {t : List UInt8} {ns : List (List UInt8)} {ks : List JV} (hg : JGood L (.mk k n t ns ks)) (hb : ¬ jBad k n t m) (hk : k < 5)
  (h : b.drop p = jFull (.mk k n t ns ks) ++ rest) (hr : ∀ c, rest.head? = some c → jNumC c = false) : jValueW b val p m = .ok (.mk k n t ns ks, p + (jFull (.mk k n t ns ks)).length, m + 1) := by
 rw [JGood] at hg
 obtain ⟨g1, g2, g3, g4, g5, g6, -⟩ := hg
 obtain rfl := g6 hk
 obtain rfl := g5 (by omega)
 unfold jBad at hb
 have hm : m ≠ 4096 := fun h => hb (.inl (by omega))
 have hk5 : k = 0 ∨ k = 1 ∨ k = 2 ∨ k = 3 ∨ k = 4 := by omega
 unfold jValueW
 rcases hk5 with rfl | rfl | rfl | rfl | rfl
 ·obtain rfl := g3 (by decide)
  obtain rfl := g4 (by decide)
  have hf : jFull (.mk 0 0 [] [] []) = [110, 117, 108, 108] := by rw [jFull]; rfl
  rw [hf] at h ⊢
  rw [show b[p]? = some 110 by simpa using at_drop h 0]
  simp only []
  rw [if_neg hm, if_pos trivial, jLit, jWord_written _ _ h]
  rfl
 ·obtain rfl := g3 (by decide)
  obtain rfl := g4 (by decide)
  have hf : jFull (.mk 1 0 [] [] []) = [102, 97, 108, 115, 101] := by rw [jFull]; rfl
  rw [hf] at h ⊢
  rw [show b[p]? = some 102 by simpa using at_drop h 0]
  simp only []
  rw [if_neg hm, if_neg (by decide), if_pos trivial, jLit, jWord_written _ _ h]
 ·obtain rfl := g3 (by decide)
  obtain rfl := g4 (by decide)
  have hf : jFull (.mk 2 0 [] [] []) = [116, 114, 117, 101] := by rw [jFull]; rfl
  rw [hf] at h ⊢
  rw [show b[p]? = some 116 by simpa using at_drop h 0]
  simp only []
  rw [if_neg hm, if_neg (by decide), if_neg (by decide), if_pos trivial, jLit, jWord_written _ _ h]
 ·obtain rfl := g4 (by decide)
  have hf : jFull (.mk 3 n [] [] []) = itoa n := by rw [jFull]; rfl
  rw [hf] at h ⊢
  obtain ⟨c, l, hc, hcd⟩ := itoa_head n
  obtain ⟨_, _, _, n1, n2, n3⟩ := dig_no hcd
  rw [show b[p]? = some c by have := at_drop h 0; rw [hc] at this; simpa using this]
  simp only []
  rw [if_neg hm, if_neg n1, if_neg n2, if_neg n3, if_pos hcd, jNumber_written (by omega) (by omega) h hr]
 ·obtain rfl := g3 (by decide)
  have hf : jFull (.mk 4 0 t [] []) = jQuote t := by rw [jFull]; rfl
  rw [hf] at h ⊢
  have hv : validD t = true := by cases hv : validD t; exact absurd (.inr (.inr (.inr (.inl hv)))) hb; rfl
  rw [show b[p]? = some 34 by have := at_drop h 0; rw [jQuote] at this; simpa using this]
  simp only []
  rw [if_neg hm, if_neg (by decide), if_neg (by decide), if_neg (by decide), if_neg (by decide), if_pos trivial, jText_written hv h]
end Go.Proofs.YtlhicfpmlncomaaGreatDoor

namespace Go.Proofs.YtlhicfpmlncomaaGreatDoor
open Go.Lib
set_option linter.unusedSimpArgs false
set_option linter.unusedVariables false
def ReadOk (b : List UInt8) (d : Nat) (val : Nat → Nat → JR (JV × Nat × Nat)) : Prop := ∀ (v : JV) (p m m' L : Nat) (rest : List UInt8), JGood L v → jRight d v m = some m' → b.drop p = jFull v ++ rest → (∀ c, rest.head? = some c → jNumC c = false) → val p m = .ok (v, p + (jFull v).length, m')
theorem jFullL_comma {obj : Bool} {ns : List (List UInt8)} {v : JV} {vs : List JV} : jFullL obj true ns (v :: vs) = 44 :: jFullL obj false ns (v :: vs) := by rw [jFullL, jFullL]; rfl
theorem jFullL_head {obj : Bool} {ns : List (List UInt8)} {v : JV} {vs : List JV} : ∃ c l, jFullL obj false ns (v :: vs) = c :: l ∧ jBlank c = false ∧ c ≠ 93 ∧ c ≠ 125 := by
 rw [jFullL]
 cases obj with
 | true => exact ⟨34, _, rfl, by decide⟩
 | false =>
  obtain ⟨k, n, t, ns', ks⟩ := v
  obtain ⟨c, l, h, hc⟩ := jFull_head k n t ns' ks
  exact ⟨c, _, by rw [h]; rfl, hc⟩
theorem jName_written {b l : List UInt8} {names : List (List UInt8)} {s : List UInt8} {p : Nat} {c : UInt8} (hv : validD s = true) (hs : s ∉ names) (h : b.drop p = jQuote s ++ (58 :: c :: l)) (hc : jBlank c = false) : jName b names p = .ok (s, p + (jQuote s).length + 1) := by
 have hd : b.drop (p + (jQuote s).length) = 58 :: c :: l := drop_app h
 have h0 : b[p + (jQuote s).length]? = some 58 := by simpa using at_drop hd 0
 have h1 : b[p + (jQuote s).length + 1]? = some c := by simpa using at_drop hd 1
 unfold jName
 rw [jText_written hv h]
 simp only []
 rw [if_neg hs, jBlanks_stay h0 (by decide), jWord, h0]
 simp only []
 rw [if_pos trivial, jWord]
 simp only []
 rw [jBlanks_stay h1 hc]
theorem jManyL_written {b : List UInt8} {kind : Int} {fin : UInt8} {d : Nat} {val : Nat → Nat → JR (JV × Nat × Nat)} (hk : kind = 5 ∧ fin = 93 ∨ kind = 6 ∧ fin = 125) (hv : ReadOk b d val) : ∀ (ks : List JV) (ns names seen : List (List UInt8)) (kids : List JV) (p m m' f L : Nat) (rest : List UInt8), ks ≠ [] → JGoodL L ks → (kind = 6 → ns.length = ks.length) → (kind ≠ 6 → ns = []) → (kind = 6 → seen = names) →
  jRightL (jRight d) (kind == 6) seen ns ks m = some m' → b.drop p = jFullL (kind == 6) false ns ks ++ (fin :: rest) → ks.length < f →
  jManyL b kind fin val f p m names kids = .ok (.mk kind 0 [] (names ++ ns) (kids ++ ks), p + (jFullL (kind == 6) false ns ks).length + 1, m')
 | [], _, _, _, _, _, _, _, _, _, _, h, _, _, _, _, _, _, _ => absurd rfl h
 | v :: vs, ns, names, seen, kids, p, m, m', f, L, rest, _, hg, hn6, hn5, hse, hr, h, hf => by
  obtain ⟨f, rfl⟩ : ∃ g, f = g + 1 := ⟨f - 1, by simp at hf; omega⟩
  simp only [List.length_cons] at hf
  rw [JGoodL] at hg
  rw [jRightL] at hr
  split at hr
  ·cases hr
  rename_i hbad
  cases hm : jRight d v m with
  | none => rw [hm] at hr; cases hr
  | some m1 =>
   rw [hm] at hr
   simp only [] at hr
   have hfin : jBlank fin = false ∧ jNumC fin = false ∧ fin ≠ 44 := by rcases hk with ⟨_, rfl⟩ | ⟨_, rfl⟩ <;> decide
   -- the name
   have hname : ∃ s q, (if kind = 6 then jName b names p else .ok ([], p)) = .ok (s, q) ∧ b.drop q = jFull v ++ (jFullL (kind == 6) true ns.tail vs ++ (fin :: rest)) ∧ (jFullL (kind == 6) false ns (v :: vs)).length + p = q + (jFull v).length + (jFullL (kind == 6) true ns.tail vs).length ∧ (if kind = 6 then names ++ [s] else names) ++ ns.tail = names ++ ns ∧ (kind = 6 → s = ns.headD []) := by
    rw [jFullL] at h ⊢
    by_cases h6 : kind = 6
    ·subst h6
     obtain ⟨s, ns', rfl⟩ : ∃ s ns', ns = s :: ns' := by
      cases ns with
      | nil => exact absurd (hn6 rfl) (by simp)
      | cons s ns' => exact ⟨s, ns', rfl⟩
     simp only [beq_self_eq_true, if_true, if_false, List.headD_cons, List.tail_cons, List.nil_append, List.append_assoc, List.cons_append, true_and, Bool.false_eq_true] at h hbad ⊢
     have hvs : validD s = true := by cases hh : validD s; exact absurd (.inl hh) hbad; rfl
     have hns : s ∉ names := fun hh => hbad (.inr (by rw [hse rfl]; exact hh))
     obtain ⟨k0, n0, t0, ns0, ks0⟩ := v
     obtain ⟨c, l, hcl, hc, _⟩ := jFull_head k0 n0 t0 ns0 ks0
     refine ⟨s, _, jName_written (c := c) (l := l ++ (jFullL true true ns' vs ++ (fin :: rest))) hvs hns (by rw [h, hcl]; rfl) hc, ?_, ?_, rfl, fun _ => rfl⟩
     ·have := drop_app (x := jQuote s ++ [58]) (y := jFull (.mk k0 n0 t0 ns0 ks0) ++ (jFullL true true ns' vs ++ (fin :: rest))) (b := b) (p := p) (by rw [h]; simp)
      rw [List.length_append] at this
      exact this
     ·simp only [List.length_append, List.length_cons]
      omega
    ·have hkb : (kind == 6) = false := by simpa using h6
     obtain rfl := hn5 h6
     rw [hkb] at h ⊢
     simp only [if_neg h6, Bool.false_eq_true, if_false, List.nil_append, List.tail_nil, List.append_assoc] at h ⊢
     exact ⟨_, _, rfl, h, by simp only [List.length_append]; omega, trivial, fun h => absurd h h6⟩
   obtain ⟨s, q, e1, e2, e3, e4, e5⟩ := hname
   have hnum : ∀ c, (jFullL (kind == 6) true ns.tail vs ++ (fin :: rest)).head? = some c → jNumC c = false := by
    intro c hc
    cases vs with
    | nil => rw [jFullL] at hc; injection hc with hc; rw [← hc]; exact hfin.2.1
    | cons u us => rw [jFullL_comma] at hc; injection hc with hc; rw [← hc]; decide
   have e6 := hv v q m m1 L _ hg.1 hm e2 hnum
   have e7 := drop_app e2
   rw [jManyL_go e1, e6]
   simp only []
   cases vs with
   | nil =>
    rw [jFullL] at e3 e7
    have hx : b[q + (jFull v).length]? = some fin := by simpa using at_drop e7 0
    rw [jBlanks_stay hx hfin.1, jNext, hx]
    simp only []
    rw [jRightL] at hr
    injection hr with hr
    simp only [List.length_nil, Nat.add_zero] at e3
    have ht : ns.tail = [] := by
     by_cases h6 : kind = 6
     ·have := hn6 h6
      exact List.eq_nil_of_length_eq_zero (by rw [List.length_tail]; simp at this; omega)
     ·rw [hn5 h6]; rfl
    rw [ht, List.append_nil] at e4
    rw [if_pos trivial, hr, e4, Nat.add_comm p, e3]
   | cons u us =>
    have e8 := e7
    rw [jFullL_comma] at e7 e3
    have hx : b[q + (jFull v).length]? = some 44 := by simpa using at_drop e7 0
    have hd : b.drop (q + (jFull v).length + 1) = jFullL (kind == 6) false ns.tail (u :: us) ++ (fin :: rest) := drop_app (x := [44]) e7
    obtain ⟨c, l, hcl, hc, _⟩ := @jFullL_head (kind == 6) ns.tail u us
    have hx1 : b[q + (jFull v).length + 1]? = some c := by
     have := at_drop hd 0
     rw [hcl] at this
     simpa using this
    rw [jBlanks_stay hx (by decide), jNext, hx]
    simp only []
    rw [if_neg (fun h => hfin.2.2 h.symm), jWord, hx]
    simp only []
    rw [if_pos trivial, jWord]
    simp only []
    rw [jBlanks_stay hx1 hc, jManyL_written hk hv (u :: us) ns.tail _ (seen ++ [ns.headD []]) _ _ m1 m' f L rest (by simp) hg.2 ?_ ?_ ?_ hr hd (by omega), e4, List.append_assoc]
    ·congr 2
     simp only [List.length_cons, List.cons_append, List.nil_append] at e3 ⊢
     congr 1
     omega
    ·intro h6
     have := hn6 h6
     rw [List.length_tail]
     simp only [List.length_cons] at this ⊢
     omega
    ·intro h6; rw [hn5 h6]; rfl
    ·intro h6; rw [hse h6, if_pos h6, e5 h6]
end Go.Proofs.YtlhicfpmlncomaaGreatDoor

namespace Go.Proofs.YtlhicfpmlncomaaGreatDoor
open Go.Lib
set_option linter.unusedSimpArgs false
set_option linter.unusedVariables false
theorem jFullL_ge : ∀ (ks : List JV) (obj more : Bool) (ns : List (List UInt8)), ks.length ≤ (jFullL obj more ns ks).length
 | [], _, _, _ => Nat.zero_le _
 | .mk k n t ns' ks' :: vs, obj, more, ns => by
  obtain ⟨c, l, h, _⟩ := jFull_head k n t ns' ks'
  have := jFullL_ge vs obj true ns.tail
  rw [jFullL, h]
  simp only [List.length_append, List.length_cons]
  omega
theorem jMany_written {b : List UInt8} {kind n : Int} {fin opn : UInt8} {d : Nat} {val : Nat → Nat → JR (JV × Nat × Nat)} {t : List UInt8} {ns : List (List UInt8)} {ks : List JV} {p m m' L : Nat} {rest : List UInt8} (hk : kind = 5 ∧ fin = 93 ∨ kind = 6 ∧ fin = 125) (hv : ReadOk b d val) (hg : JGood L (.mk kind n t ns ks)) (hr : jRight (d + 1) (.mk kind n t ns ks) m = some m')
  (h : b.drop p = [opn] ++ (jFullL (kind == 6) false ns ks ++ (fin :: rest))) : jMany b kind fin (some val) p (m + 1) = .ok (.mk kind n t ns ks, p + ((jFullL (kind == 6) false ns ks).length + 2), m') := by
 rw [JGood] at hg
 obtain ⟨g1, g2, g3, g4, g5, g6, -, -, -, -, g7⟩ := hg
 obtain rfl := g3 (by omega)
 obtain rfl := g4 (by omega)
 have hd : b.drop (p + 1) = jFullL (kind == 6) false ns ks ++ (fin :: rest) := drop_app (x := [opn]) h
 have hfin : jBlank fin = false := by rcases hk with ⟨_, rfl⟩ | ⟨_, rfl⟩ <;> decide
 rw [jRight] at hr
 split at hr
 ·cases hr
 rw [if_neg (by omega)] at hr
 split at hr
 ·cases hr
 rename_i hlen
 have hl6 : kind = 6 → ns.length = ks.length := fun h6 => Decidable.byContradiction fun hh => hlen ⟨h6, hh⟩
 unfold jMany
 simp only []
 cases ks with
 | nil =>
  have hns : ns = [] := by
   by_cases h6 : kind = 6
   ·exact List.eq_nil_of_length_eq_zero (hl6 h6)
   ·exact g5 h6
  subst hns
  rw [jFullL] at hd ⊢
  have hx : b[p + 1]? = some fin := by simpa using at_drop hd 0
  rw [jRightL] at hr
  injection hr with hr
  rw [jBlanks_stay hx hfin, jNext, hx]
  simp only []
  rw [if_pos trivial, hr]
  rfl
 | cons v vs =>
  obtain ⟨c, l, hcl, hc, hc1, hc2⟩ := @jFullL_head (kind == 6) ns v vs
  have hx : b[p + 1]? = some c := by
   have := at_drop hd 0
   rw [hcl] at this
   simpa using this
  have hge := jFullL_ge (v :: vs) (kind == 6) false ns
  have hbl := congrArg List.length hd
  simp only [List.length_drop, List.length_append, List.length_cons] at hbl hge
  rw [jBlanks_stay hx hc, jNext, hx]
  simp only []
  rw [if_neg (by rcases hk with ⟨_, rfl⟩ | ⟨_, rfl⟩; exact hc1; exact hc2), jManyL_written hk hv (v :: vs) ns [] [] [] (p + 1) (m + 1) m' _ L rest (by simp) g7 hl6 g5 (fun _ => rfl) hr hd (by simp only [List.length_cons]; omega)]
  simp only [List.nil_append]
  congr 2
  congr 1
  omega
theorem jValue_written {b : List UInt8} : ∀ (d : Nat), ReadOk b d (jValue b d)
 | d, .mk k n t ns ks, p, m, m', L, rest, hg, hr, h, hrest => by
  by_cases hb : jBad k n t m
  ·rw [jRight_bad hb] at hr; cases hr
  by_cases hk : k < 5
  ·rw [jRight_leaf hb hk] at hr
   injection hr with hr
   rw [← hr]
   cases d <;> (rw [jValue]; exact jLeaf_written hg hb hk h hrest)
  ·cases d with
   | zero => rw [jRight, if_neg hb, if_neg hk] at hr; cases hr
   | succ d =>
    have hm : m ≠ 4096 := fun h => hb (.inl (by omega))
    have hk6 : k ≤ 6 := Decidable.byContradiction fun hh => hb (.inr (.inr (.inl (by omega))))
    have ih := jValue_written (b := b) d
    rw [jValue, jValueW]
    rcases (by omega : k = 5 ∨ k = 6) with rfl | rfl
    ·have hf : jFull (.mk 5 n t ns ks) = [91] ++ (jFullL ((5 : Int) == 6) false ns ks ++ [93]) := by rw [jFull]; rfl
     rw [hf, List.append_assoc, List.append_assoc] at h
     rw [hf, show b[p]? = some 91 by simpa using at_drop h 0]
     simp only []
     rw [if_neg hm, if_neg (by decide), if_neg (by decide), if_neg (by decide), if_neg (by decide), if_neg (by decide), if_pos trivial, jMany_written (.inl ⟨rfl, rfl⟩) ih hg hr h]
     simp only [List.length_append, List.length_cons, List.length_nil]
     congr 2
     congr 1
     omega
    ·have hf : jFull (.mk 6 n t ns ks) = [123] ++ (jFullL ((6 : Int) == 6) false ns ks ++ [125]) := by rw [jFull]; rfl
     rw [hf, List.append_assoc, List.append_assoc] at h
     rw [hf, show b[p]? = some 123 by simpa using at_drop h 0]
     simp only []
     rw [if_neg hm, if_neg (by decide), if_neg (by decide), if_neg (by decide), if_neg (by decide), if_neg (by decide), if_neg (by decide), if_pos trivial, jMany_written (.inr ⟨rfl, rfl⟩) ih hg hr h]
     simp only [List.length_append, List.length_cons, List.length_nil]
     congr 2
     congr 1
     omega
/-- What is written of a bare value that is right is read as that value. -/
theorem jParse_written {v : JV} {L x : Nat} (hg : JGood L v) (hr : jRight 16 v 0 = some x) (hl : (jFull v).length ≤ 65536) : jParse (jFull v) = .ok v := by
 have h := jValue_written (b := jFull v) 16 v 0 0 x L [] hg hr (by simp) (fun c hc => by cases hc)
 have hb : jBlanks (jFull v) 0 = 0 := by
  obtain ⟨k, n, t, ns, ks⟩ := v
  obtain ⟨c, l, hcl, hc, _⟩ := jFull_head k n t ns ks
  exact jBlanks_stay (by rw [hcl]; rfl) hc
 unfold jParse
 rw [if_neg (by omega), hb, h]
 simp only []
 have := jBlanks_ge (jFull v) (0 + (jFull v).length)
 rw [if_neg (by omega)]
end Go.Proofs.YtlhicfpmlncomaaGreatDoor

namespace Go.Proofs.YtlhicfpmlncomaaGreatDoor
set_option linter.unusedSimpArgs false
set_option linter.unusedVariables false
theorem jCutL_right {f : JV → Nat → Option Nat} {D L : Nat} (hf : ∀ v m x, JGood L v → f v m = some x → jCut D v = v) {obj : Bool} : ∀ (ks : List JV) (seen ns : List (List UInt8)) (m x : Nat), JGoodL L ks → jRightL f obj seen ns ks m = some x → ks.map (jCut D) = ks
 | [], _, _, _, _, _, _ => rfl
 | v :: vs, seen, ns, m, x, hg, h => by
  rw [JGoodL] at hg
  rw [jRightL] at h
  split at h
  ·cases h
  ·cases hv : f v m with
   | none => rw [hv] at h; cases h
   | some m' =>
    rw [hv] at h
    rw [List.map_cons, hf v m m' hg.1 hv, jCutL_right hf vs _ _ m' x hg.2 h]
/-- A value that is right is no deeper than it may be. -/
theorem jCut_right : ∀ (d D L : Nat) (v : JV) (m x : Nat), d ≤ D → JGood L v → jRight d v m = some x → jCut D v = v
 | d, D, L, .mk k n t ns ks, m, x, hD, hg, hr => by
  have hg' := hg
  rw [JGood] at hg
  obtain ⟨-, -, -, -, -, g6, -, -, -, -, g7⟩ := hg
  by_cases hk : k < 5
  ·obtain rfl := g6 hk
   cases D <;> rw [jCut] <;> rfl
  ·cases d with
   | zero =>
    rw [jRight, if_neg hk] at hr
    split at hr <;> cases hr
   | succ d =>
    obtain ⟨D, rfl⟩ : ∃ E, D = E + 1 := ⟨D - 1, by omega⟩
    rw [jRight, if_neg hk] at hr
    split at hr
    ·cases hr
    split at hr
    ·cases hr
    rw [jCut, jCutL_right (fun v m x hg hv => jCut_right d D L v m x (by omega) hg hv) ks _ _ _ _ g7 hr]
end Go.Proofs.YtlhicfpmlncomaaGreatDoor

namespace Go.Proofs.YtlhicfpmlncomaaGreatDoor
open Go.Lib
set_option linter.unusedSimpArgs false
set_option linter.unusedVariables false
mutual
/-- A value without what isn't written. -/
def jBare : JV → JV
 | .mk k n t ns ks => .mk k (if k = 3 then n else 0) (if k = 4 then t else []) (if k = 6 then ns else []) (if 5 ≤ k then jBareL ks else [])
def jBareL : List JV → List JV
 | [] => []
 | v :: vs => jBare v :: jBareL vs
end
theorem jBareL_map : ∀ ks : List JV, jBareL ks = ks.map jBare
 | [] => rfl
 | v :: vs => by rw [jBareL, jBareL_map vs, List.map_cons]
theorem jRightL_bare {f : JV → Nat → Option Nat} (hf : ∀ v m x, f v m = some x → f (jBare v) m = some x) {obj : Bool} : ∀ (ks : List JV) (seen ns ns' : List (List UInt8)) (m x : Nat), (obj = true → ns' = ns) → jRightL f obj seen ns ks m = some x → ∀ seen', (obj = true → seen' = seen) → jRightL f obj seen' ns' (jBareL ks) m = some x
 | [], _, _, _, _, _, _, h, _, _ => h
 | v :: vs, seen, ns, ns', m, x, hn, h, seen', hs => by
  rw [jRightL] at h
  rw [jBareL, jRightL]
  split at h
  ·cases h
  ·rename_i hc
   cases hv : f v m with
   | none => rw [hv] at h; cases h
   | some m' =>
    rw [hv] at h
    rw [hf v m m' hv, if_neg (by rintro ⟨ho, h2⟩; rw [hn ho, hs ho] at h2; exact hc ⟨ho, h2⟩)]
    exact jRightL_bare hf vs _ _ _ m' x (fun ho => by rw [hn ho]) h _ (fun ho => by rw [hn ho, hs ho])
theorem jBad_bare {k n : Int} {t : List UInt8} {m : Nat} (h : ¬ jBad k n t m) : ¬ jBad k (if k = 3 then n else 0) (if k = 4 then t else []) m := by
 unfold jBad at *
 rintro (h1 | h1 | h1 | h1 | h1 | h1)
 ·exact h (.inl h1)
 ·exact h (.inr (.inl h1))
 ·exact h (.inr (.inr (.inl h1)))
 ·split at h1
  ·exact h (.inr (.inr (.inr (.inl h1))))
  ·cases h1
 ·split at h1
  ·exact h (.inr (.inr (.inr (.inr (.inl h1)))))
  ·omega
 ·split at h1
  ·exact h (.inr (.inr (.inr (.inr (.inr h1)))))
  ·omega
theorem jBareL_len : ∀ ks : List JV, (jBareL ks).length = ks.length := fun ks => by rw [jBareL_map, List.length_map]
theorem jRight_bare : ∀ (d : Nat) (v : JV) (m x : Nat), jRight d v m = some x → jRight d (jBare v) m = some x
 | 0, .mk k n t ns ks, m, x, h => by
  rw [jRight] at h
  rw [jBare, jRight]
  split at h
  ·cases h
  ·rename_i hb
   rw [if_neg (jBad_bare hb)]
   exact h
 | d + 1, .mk k n t ns ks, m, x, h => by
  rw [jRight] at h
  rw [jBare, jRight]
  split at h
  ·cases h
  ·rename_i hb
   rw [if_neg (jBad_bare hb)]
   split at h
   ·rename_i hk; rw [if_pos hk]; exact h
   ·rename_i hk
    rw [if_neg hk]
    split at h
    ·cases h
    ·rename_i hl
     rw [if_pos (show 5 ≤ k by omega), if_neg]
     ·exact jRightL_bare (jRight_bare d) ks [] ns _ _ _ (fun ho => by rw [if_pos (beq_iff_eq.1 ho)]) h [] (fun _ => rfl)
     ·rintro ⟨h6, h7⟩
      rw [if_pos h6, jBareL_len] at h7
      exact hl ⟨h6, h7⟩
theorem jFullL_bare {f : JV → Nat → Option Nat} (hf : ∀ v m x, f v m = some x → jFull (jBare v) = jFull v) {obj : Bool} : ∀ (ks : List JV) (seen ns ns' : List (List UInt8)) (m x : Nat) (more : Bool), (obj = true → ns' = ns) → jRightL f obj seen ns ks m = some x → jFullL obj more ns' (jBareL ks) = jFullL obj more ns ks
 | [], _, _, _, _, _, _, _, _ => by rw [jBareL, jFullL, jFullL]
 | v :: vs, seen, ns, ns', m, x, more, hn, h => by
  rw [jRightL] at h
  rw [jBareL, jFullL, jFullL]
  split at h
  ·cases h
  ·cases hv : f v m with
   | none => rw [hv] at h; cases h
   | some m' =>
    rw [hv] at h
    rw [hf v m m' hv, jFullL_bare hf vs _ _ _ m' x true (fun ho => by rw [hn ho]) h]
    cases obj with
    | false => rfl
    | true => rw [hn rfl]
theorem jFull_bare : ∀ (d : Nat) (v : JV) (m x : Nat), jRight d v m = some x → jFull (jBare v) = jFull v
 | 0, .mk k n t ns ks, m, x, h => by
  rw [jRight] at h
  rw [jBare, jFull, jFull]
  split at h
  ·cases h
  ·rename_i hb
   have h0 : ¬ k < 0 := fun h => hb (.inr (.inl h))
   split at h
   ·rename_i hk
    rcases (by omega : k = 0 ∨ k = 1 ∨ k = 2 ∨ k = 3 ∨ k = 4) with rfl | rfl | rfl | rfl | rfl <;> rfl
   ·cases h
 | d + 1, .mk k n t ns ks, m, x, h => by
  rw [jRight] at h
  rw [jBare, jFull, jFull]
  split at h
  ·cases h
  ·rename_i hb
   have h0 : ¬ k < 0 := fun h => hb (.inr (.inl h))
   have h6 : ¬ 6 < k := fun h => hb (.inr (.inr (.inl h)))
   split at h
   ·rename_i hk
    rcases (by omega : k = 0 ∨ k = 1 ∨ k = 2 ∨ k = 3 ∨ k = 4) with rfl | rfl | rfl | rfl | rfl <;> rfl
   ·rename_i hk
    split at h
    ·cases h
    ·rcases (by omega : k = 5 ∨ k = 6) with rfl | rfl
     ·have := jFullL_bare (jFull_bare d) ks [] ns [] _ _ false (fun ho => by cases ho) h
      simp only [show ((5 : Int) = 3) = False by simp, show ((5 : Int) = 6) = False by simp, if_false]
      rw [if_pos (show (5 : Int) ≤ 5 by omega)]
      simp only [show ((5 : Int) = 0) = False by simp, show ((5 : Int) = 1) = False by simp, show ((5 : Int) = 2) = False by simp, show ((5 : Int) = 4) = False by simp, if_false]
      rw [show ((5 : Int) == 6) = false by decide] at this
      rw [this]
     ·have := jFullL_bare (jFull_bare d) ks [] ns ns _ _ false (fun _ => rfl) h
      simp only [show ((6 : Int) = 3) = False by simp, if_false, if_true]
      rw [if_pos (show (5 : Int) ≤ 6 by omega)]
      simp only [show ((6 : Int) = 0) = False by simp, show ((6 : Int) = 1) = False by simp, show ((6 : Int) = 2) = False by simp, show ((6 : Int) = 4) = False by simp, if_false]
      rw [show ((6 : Int) == 6) = true by decide] at this
      rw [this]
theorem jTotL_len : ∀ ks : List JV, ks.length ≤ jTotL ks
 | [] => Nat.le_refl _
 | v :: vs => by
  have h1 := jTotL_len vs
  have h2 := jTot_pos v
  rw [jTotL, List.length_cons]
  omega
theorem goodL_bare {f : JV → Nat → Option Nat} {L : Nat} (hf : ∀ v m x, jW v ≤ L → f v m = some x → JGood L (jBare v)) {obj : Bool} : ∀ (ks : List JV) (seen ns : List (List UInt8)) (m x : Nat), jWL ks ≤ L → jRightL f obj seen ns ks m = some x → JGoodL L (jBareL ks)
 | [], _, _, _, _, _, _ => by rw [jBareL, JGoodL]; trivial
 | v :: vs, seen, ns, m, x, hw, h => by
  rw [jWL] at hw
  rw [jRightL] at h
  rw [jBareL, JGoodL]
  split at h
  ·cases h
  ·cases hv : f v m with
   | none => rw [hv] at h; cases h
   | some m' =>
    rw [hv] at h
    exact ⟨hf v m m' (by omega) hv, goodL_bare hf vs _ _ m' x (by omega) h⟩
/-- A value that is right is good, once it is bare. -/
theorem good_bare (L : Nat) : ∀ (d : Nat) (v : JV) (m x : Nat), jW v ≤ L → jRight d v m = some x → JGood L (jBare v)
 | d, .mk k n t ns ks, m, x, hw, h => by
  have htot : m + jTot (.mk k n t ns ks) ≤ 4096 := by
   have h2 := h
   rw [jRight_doc] at h2
   split at h2
   ·rename_i h3; exact h3.2
   ·cases h2
  rw [jTot] at htot
  rw [jW] at hw
  have hkl := jTotL_len ks
  have hns := fun s hs => jWn_mem (ns := ns) (s := s) hs
  rw [jBare, JGood]
  cases d with
  | zero =>
   rw [jRight] at h
   split at h
   ·cases h
   ·rename_i hb
    have h0 : ¬ k < 0 := fun h => hb (.inr (.inl h))
    split at h
    ·rename_i hk
     rw [if_neg (show ¬ k = 6 by omega), if_neg (show ¬ 5 ≤ k by omega)]
     refine ⟨by omega, by omega, fun h => by rw [if_neg h], fun h => by rw [if_neg h], fun _ => rfl, fun _ => rfl, ?_, (fun s hs => by cases hs), by simp, by simp, by rw [JGoodL]; trivial⟩
     split
     ·omega
     ·simp
    ·cases h
  | succ d =>
   rw [jRight] at h
   split at h
   ·cases h
   ·rename_i hb
    have h0 : ¬ k < 0 := fun h => hb (.inr (.inl h))
    have h6 : ¬ 6 < k := fun h => hb (.inr (.inr (.inl h)))
    split at h
    ·rename_i hk
     rw [if_neg (show ¬ k = 6 by omega), if_neg (show ¬ 5 ≤ k by omega)]
     refine ⟨by omega, by omega, fun h => by rw [if_neg h], fun h => by rw [if_neg h], fun _ => rfl, fun _ => rfl, ?_, (fun s hs => by cases hs), by simp, by simp, by rw [JGoodL]; trivial⟩
     split
     ·omega
     ·simp
    ·rename_i hk
     split at h
     ·cases h
     ·rename_i hl
      rw [if_pos (show 5 ≤ k by omega)] at htot
      rw [if_pos (show 5 ≤ k by omega)]
      have hg := goodL_bare (fun v m x => good_bare L d v m x) ks _ _ _ _ (by omega) h
      refine ⟨by omega, by omega, fun h => by rw [if_neg h], fun h => by rw [if_neg h], fun h => by rw [if_neg h], fun h => absurd h hk, ?_, ?_, ?_, by rw [jBareL_len]; omega, hg⟩
      ·split
       ·omega
       ·simp
      ·intro s hs
       split at hs
       ·have := hns s hs; omega
       ·cases hs
      ·split
       ·rename_i h6'
        have : ns.length = ks.length := Decidable.byContradiction fun hh => hl ⟨h6', hh⟩
        omega
       ·simp
/-- What is written of a value is read as that value without what isn't written. -/
theorem jBack {v : JV} (hw : jW v ≤ 1048576) {l : List UInt8} (h : jWrite v = (l, 0)) : jParse l = .ok (jBare v) ∧ JGood 1048576 (jBare v) ∧ jCut 20 (jBare v) = jBare v := by
 unfold jWrite at h
 split at h
 ·injection h with h1 h2; cases h2
 ·rename_i x hx
  split at h
  ·injection h with h1 h2; cases h2
  ·rename_i hl
   injection h with h1 h2
   have hr := jRight_bare 16 v 0 x hx
   have hf := jFull_bare 16 v 0 x hx
   have hg := good_bare 1048576 16 v 0 x hw hx
   refine ⟨?_, hg, jCut_right 16 20 _ _ 0 x (by decide) hg hr⟩
   rw [← h1, ← hf]
   exact jParse_written hg hr (by rw [hf]; omega)
end Go.Proofs.YtlhicfpmlncomaaGreatDoor
