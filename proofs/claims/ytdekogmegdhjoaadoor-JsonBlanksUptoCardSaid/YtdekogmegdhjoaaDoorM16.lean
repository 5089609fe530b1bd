/-
  Layer 6, plain law: a value that is written is read as that value. No program is named here.
  Layer 6, plain law: lists and objects that are written are read as themselves. No program is named here.
  Layer 6, plain law: what is written of a bare value that is right is read as that value. No program is named here.
  Layer 6, plain law: a value that is right is no deeper than it may be. No program is named here.
  Layer 6, plain words: a value without what isn't written. No program is named here.
  Layer 6, plain law: blanks about each sign outside of texts turn nothing. No program is named here.
  Layer 6, plain law: what is written with blanks about each sign is read as the same. No program is named here.
  Layer 6: values of which no more than so many kids are kept: in plain words, and as they stand on the heap.
-/
import Derived.Test.YtdekogmegdhjoaaDoorM15
import Derived.Test.YtdekogmegdhjoaaDoorM10
import Derived.Test.YtdekogmegdhjoaaDoorM14
namespace Go.Proofs.YtdekogmegdhjoaaDoor
open Go.Lib
set_option linter.unusedSimpArgs false
set_option linter.unusedVariables false

theorem jWord_written {b rest : List UInt8} : ∀ (w : List UInt8) (p : Nat), b.drop p = w ++ rest → jWord b w p = .ok (p + w.length)
  | [], p, _ => by rw [jWord]; rfl
  | c :: w, p, h => by
    have h0 : b[p]? = some c := by simpa using at_drop h 0
    have hd : b.drop (p + 1) = w ++ rest := drop_app (x := [c]) h
    rw [jWord, h0]
    simp only []
    rw [if_pos trivial, jWord_written w (p + 1) hd, List.length_cons, Nat.add_right_comm, Nat.add_assoc p]
theorem itoa_numC (n : Int) : ∀ c ∈ itoa n, jNumC c = true := by
  have hd : ∀ u, ∀ c ∈ decDigits u, jNumC c = true := fun u c hc => by
    have := List.all_eq_true.1 (decDigits_dig u) c hc
    unfold jNumC
    rw [this]; rfl
  intro c hc
  unfold itoa at hc
  split at hc
  · rcases List.mem_cons.1 hc with rfl | hc
    · decide
    · exact hd _ c hc
  · exact hd _ c hc
theorem jNumber_written {b rest : List UInt8} {p : Nat} {n : Int} (h0 : -9007199254740991 ≤ n) (h1 : n ≤ 9007199254740991) (h : b.drop p = itoa n ++ rest) (hr : ∀ c, rest.head? = some c → jNumC c = false) : jNumber b p = .ok (n, p + (itoa n).length) := by
  have ht : (b.drop p).takeWhile jNumC = itoa n := by
    rw [h, List.takeWhile_append_of_pos (itoa_numC n)]
    cases rest with
    | nil => simp
    | cons c l => rw [List.takeWhile_cons, hr c rfl]; simp
  unfold jNumber
  simp only []
  rw [ht, jNum_itoa h0 h1]
theorem jBlanks_stay {b : List UInt8} {p : Nat} {c : UInt8} (h : b[p]? = some c) (hc : jBlank c = false) : jBlanks b p = p := by
  obtain ⟨hp, rfl⟩ := List.getElem?_eq_some_iff.1 h
  unfold jBlanks
  rw [List.drop_eq_getElem_cons hp, List.takeWhile_cons, hc]
  rfl
theorem itoa_head (n : Int) : ∃ c l, itoa n = c :: l ∧ (c = 45 ∨ jDig c = true) := by
  unfold itoa
  split
  · exact ⟨_, _, rfl, .inl rfl⟩
  · cases hd : decDigits n.toNat with
    | nil => exact absurd hd (decDigits_ne _)
    | cons c l => exact ⟨c, l, rfl, .inr (List.all_eq_true.1 (decDigits_dig n.toNat) c (by rw [hd]; simp))⟩
theorem dig_no {c : UInt8} (h : c = 45 ∨ jDig c = true) : jBlank c = false ∧ c ≠ 93 ∧ c ≠ 125 ∧ c ≠ 110 ∧ c ≠ 102 ∧ c ≠ 116 := by
  rcases h with rfl | h
  · decide
  · have : ∀ c : UInt8, jDig c = true → jBlank c = false ∧ c ≠ 93 ∧ c ≠ 125 ∧ c ≠ 110 ∧ c ≠ 102 ∧ c ≠ 116 := by
      intro c h
      unfold jDig at h
      simp only [Bool.and_eq_true, decide_eq_true_eq] at h
      have n : ∀ k : Nat, k < 256 → (k < 48 ∨ 57 < k) → c ≠ UInt8.ofNat k := fun k hk ho he => by rw [he, ofNat_toNat' hk] at h; omega
      refine ⟨?_, n 93 (by decide) (by decide), n 125 (by decide) (by decide), n 110 (by decide) (by decide), n 102 (by decide) (by decide), n 116 (by decide) (by decide)⟩
      unfold jBlank
      simp only [Bool.or_eq_false_iff, beq_eq_false_iff_ne]
      exact ⟨n 32 (by decide) (by decide), n 9 (by decide) (by decide), n 10 (by decide) (by decide), n 13 (by decide) (by decide)⟩
    exact this c h
/-- How a written value begins. -/
theorem jFull_head (k n : Int) (t : List UInt8) (ns : List (List UInt8)) (ks : List JV) : ∃ c l, jFull (.mk k n t ns ks) = c :: l ∧ jBlank c = false ∧ c ≠ 93 ∧ c ≠ 125 := by
  rw [jFull]
  split
  · exact ⟨_, _, rfl, by decide⟩
  split
  · exact ⟨_, _, rfl, by decide⟩
  split
  · exact ⟨_, _, rfl, by decide⟩
  split
  · obtain ⟨c, l, h, hc⟩ := itoa_head n
    have := dig_no hc
    exact ⟨c, l, h, this.1, this.2.1, this.2.2.1⟩
  split
  · exact ⟨_, _, rfl, by decide⟩
  split
  · exact ⟨_, _, rfl, by decide⟩
  · exact ⟨_, _, rfl, by decide⟩
/-- A value that is neither a list nor an object. -/
theorem jLeaf_written {b rest : List UInt8} {val : Option (Nat → Nat → JR (JV × Nat × Nat))} {L p m : Nat} {k n : Int} {t : List UInt8} {ns : List (List UInt8)} {ks : List JV} (hg : JGood L (.mk k n t ns ks)) (hb : ¬ jBad k n t m) (hk : k < 5)
    (h : b.drop p = jFull (.mk k n t ns ks) ++ rest) (hr : ∀ c, rest.head? = some c → jNumC c = false) : jValueW b val p m = .ok (.mk k n t ns ks, p + (jFull (.mk k n t ns ks)).length, m + 1) := by
  rw [JGood] at hg
  obtain ⟨g1, g2, g3, g4, g5, g6, -⟩ := hg
  obtain rfl := g6 hk
  obtain rfl := g5 (by omega)
  unfold jBad at hb
  have hm : m ≠ 4096 := fun h => hb (.inl (by omega))
  have hk5 : k = 0 ∨ k = 1 ∨ k = 2 ∨ k = 3 ∨ k = 4 := by omega
  unfold jValueW
  rcases hk5 with rfl | rfl | rfl | rfl | rfl
  · obtain rfl := g3 (by decide)
    obtain rfl := g4 (by decide)
    have hf : jFull (.mk 0 0 [] [] []) = [110, 117, 108, 108] := by rw [jFull]; rfl
    rw [hf] at h ⊢
    rw [show b[p]? = some 110 by simpa using at_drop h 0]
    simp only []
    rw [if_neg hm, if_pos trivial, jLit, jWord_written _ _ h]
    rfl
  · obtain rfl := g3 (by decide)
    obtain rfl := g4 (by decide)
    have hf : jFull (.mk 1 0 [] [] []) = [102, 97, 108, 115, 101] := by rw [jFull]; rfl
    rw [hf] at h ⊢
    rw [show b[p]? = some 102 by simpa using at_drop h 0]
    simp only []
    rw [if_neg hm, if_neg (by decide), if_pos trivial, jLit, jWord_written _ _ h]
  · obtain rfl := g3 (by decide)
    obtain rfl := g4 (by decide)
    have hf : jFull (.mk 2 0 [] [] []) = [116, 114, 117, 101] := by rw [jFull]; rfl
    rw [hf] at h ⊢
    rw [show b[p]? = some 116 by simpa using at_drop h 0]
    simp only []
    rw [if_neg hm, if_neg (by decide), if_neg (by decide), if_pos trivial, jLit, jWord_written _ _ h]
  · obtain rfl := g4 (by decide)
    have hf : jFull (.mk 3 n [] [] []) = itoa n := by rw [jFull]; rfl
    rw [hf] at h ⊢
    obtain ⟨c, l, hc, hcd⟩ := itoa_head n
    obtain ⟨_, _, _, n1, n2, n3⟩ := dig_no hcd
    rw [show b[p]? = some c by have := at_drop h 0; rw [hc] at this; simpa using this]
    simp only []
    rw [if_neg hm, if_neg n1, if_neg n2, if_neg n3, if_pos hcd, jNumber_written (by omega) (by omega) h hr]
  · obtain rfl := g3 (by decide)
    have hf : jFull (.mk 4 0 t [] []) = jQuote t := by rw [jFull]; rfl
    rw [hf] at h ⊢
    have hv : validD t = true := by cases hv : validD t; exact absurd (.inr (.inr (.inr (.inl hv)))) hb; rfl
    rw [show b[p]? = some 34 by have := at_drop h 0; rw [jQuote] at this; simpa using this]
    simp only []
    rw [if_neg hm, if_neg (by decide), if_neg (by decide), if_neg (by decide), if_neg (by decide), if_pos trivial, jText_written hv h]
end Go.Proofs.YtdekogmegdhjoaaDoor

namespace Go.Proofs.YtdekogmegdhjoaaDoor
open Go.Lib
set_option linter.unusedSimpArgs false
set_option linter.unusedVariables false

def ReadOk (b : List UInt8) (d : Nat) (val : Nat → Nat → JR (JV × Nat × Nat)) : Prop := ∀ (v : JV) (p m m' L : Nat) (rest : List UInt8), JGood L v → jRight d v m = some m' → b.drop p = jFull v ++ rest → (∀ c, rest.head? = some c → jNumC c = false) → val p m = .ok (v, p + (jFull v).length, m')
theorem jFullL_comma {obj : Bool} {ns : List (List UInt8)} {v : JV} {vs : List JV} : jFullL obj true ns (v :: vs) = 44 :: jFullL obj false ns (v :: vs) := by rw [jFullL, jFullL]; rfl
theorem jFullL_head {obj : Bool} {ns : List (List UInt8)} {v : JV} {vs : List JV} : ∃ c l, jFullL obj false ns (v :: vs) = c :: l ∧ jBlank c = false ∧ c ≠ 93 ∧ c ≠ 125 := by
  rw [jFullL]
  cases obj with
  | true => exact ⟨34, _, rfl, by decide⟩
  | false =>
    obtain ⟨k, n, t, ns', ks⟩ := v
    obtain ⟨c, l, h, hc⟩ := jFull_head k n t ns' ks
    exact ⟨c, _, by rw [h]; rfl, hc⟩
theorem jName_written {b l : List UInt8} {names : List (List UInt8)} {s : List UInt8} {p : Nat} {c : UInt8} (hv : validD s = true) (hs : s ∉ names) (h : b.drop p = jQuote s ++ (58 :: c :: l)) (hc : jBlank c = false) : jName b names p = .ok (s, p + (jQuote s).length + 1) := by
  have hd : b.drop (p + (jQuote s).length) = 58 :: c :: l := drop_app h
  have h0 : b[p + (jQuote s).length]? = some 58 := by simpa using at_drop hd 0
  have h1 : b[p + (jQuote s).length + 1]? = some c := by simpa using at_drop hd 1
  unfold jName
  rw [jText_written hv h]
  simp only []
  rw [if_neg hs, jBlanks_stay h0 (by decide), jWord, h0]
  simp only []
  rw [if_pos trivial, jWord]
  simp only []
  rw [jBlanks_stay h1 hc]
theorem jManyL_written {b : List UInt8} {kind : Int} {fin : UInt8} {d : Nat} {val : Nat → Nat → JR (JV × Nat × Nat)} (hk : kind = 5 ∧ fin = 93 ∨ kind = 6 ∧ fin = 125) (hv : ReadOk b d val) : ∀ (ks : List JV) (ns names seen : List (List UInt8)) (kids : List JV) (p m m' f L : Nat) (rest : List UInt8), ks ≠ [] → JGoodL L ks → (kind = 6 → ns.length = ks.length) → (kind ≠ 6 → ns = []) → (kind = 6 → seen = names) →
    jRightL (jRight d) (kind == 6) seen ns ks m = some m' → b.drop p = jFullL (kind == 6) false ns ks ++ (fin :: rest) → ks.length < f →
    jManyL b kind fin val f p m names kids = .ok (.mk kind 0 [] (names ++ ns) (kids ++ ks), p + (jFullL (kind == 6) false ns ks).length + 1, m')
  | [], _, _, _, _, _, _, _, _, _, _, h, _, _, _, _, _, _, _ => absurd rfl h
  | v :: vs, ns, names, seen, kids, p, m, m', f, L, rest, _, hg, hn6, hn5, hse, hr, h, hf => by
    obtain ⟨f, rfl⟩ : ∃ g, f = g + 1 := ⟨f - 1, by simp at hf; omega⟩
    simp only [List.length_cons] at hf
    rw [JGoodL] at hg
    rw [jRightL] at hr
    split at hr
    · cases hr
    rename_i hbad
    cases hm : jRight d v m with
    | none => rw [hm] at hr; cases hr
    | some m1 =>
      rw [hm] at hr
      simp only [] at hr
      have hfin : jBlank fin = false ∧ jNumC fin = false ∧ fin ≠ 44 := by rcases hk with ⟨_, rfl⟩ | ⟨_, rfl⟩ <;> decide
      -- the name
      have hname : ∃ s q, (if kind = 6 then jName b names p else .ok ([], p)) = .ok (s, q) ∧ b.drop q = jFull v ++ (jFullL (kind == 6) true ns.tail vs ++ (fin :: rest)) ∧ (jFullL (kind == 6) false ns (v :: vs)).length + p = q + (jFull v).length + (jFullL (kind == 6) true ns.tail vs).length ∧ (if kind = 6 then names ++ [s] else names) ++ ns.tail = names ++ ns ∧ (kind = 6 → s = ns.headD []) := by
        rw [jFullL] at h ⊢
        by_cases h6 : kind = 6
        · subst h6
          obtain ⟨s, ns', rfl⟩ : ∃ s ns', ns = s :: ns' := by
            cases ns with
            | nil => exact absurd (hn6 rfl) (by simp)
            | cons s ns' => exact ⟨s, ns', rfl⟩
          simp only [beq_self_eq_true, if_true, if_false, List.headD_cons, List.tail_cons, List.nil_append, List.append_assoc, List.cons_append, true_and, Bool.false_eq_true] at h hbad ⊢
          have hvs : validD s = true := by cases hh : validD s; exact absurd (.inl hh) hbad; rfl
          have hns : s ∉ names := fun hh => hbad (.inr (by rw [hse rfl]; exact hh))
          obtain ⟨k0, n0, t0, ns0, ks0⟩ := v
          obtain ⟨c, l, hcl, hc, _⟩ := jFull_head k0 n0 t0 ns0 ks0
          refine ⟨s, _, jName_written (c := c) (l := l ++ (jFullL true true ns' vs ++ (fin :: rest))) hvs hns (by rw [h, hcl]; rfl) hc, ?_, ?_, rfl, fun _ => rfl⟩
          · have := drop_app (x := jQuote s ++ [58]) (y := jFull (.mk k0 n0 t0 ns0 ks0) ++ (jFullL true true ns' vs ++ (fin :: rest))) (b := b) (p := p) (by rw [h]; simp)
            rw [List.length_append] at this
            exact this
          · simp only [List.length_append, List.length_cons]
            omega
        · have hkb : (kind == 6) = false := by simpa using h6
          obtain rfl := hn5 h6
          rw [hkb] at h ⊢
          simp only [if_neg h6, Bool.false_eq_true, if_false, List.nil_append, List.tail_nil, List.append_assoc] at h ⊢
          exact ⟨_, _, rfl, h, by simp only [List.length_append]; omega, trivial, fun h => absurd h h6⟩
      obtain ⟨s, q, e1, e2, e3, e4, e5⟩ := hname
      have hnum : ∀ c, (jFullL (kind == 6) true ns.tail vs ++ (fin :: rest)).head? = some c → jNumC c = false := by
        intro c hc
        cases vs with
        | nil => rw [jFullL] at hc; injection hc with hc; rw [← hc]; exact hfin.2.1
        | cons u us => rw [jFullL_comma] at hc; injection hc with hc; rw [← hc]; decide
      have e6 := hv v q m m1 L _ hg.1 hm e2 hnum
      have e7 := drop_app e2
      rw [jManyL_go e1, e6]
      simp only []
      cases vs with
      | nil =>
        rw [jFullL] at e3 e7
        have hx : b[q + (jFull v).length]? = some fin := by simpa using at_drop e7 0
        rw [jBlanks_stay hx hfin.1, jNext, hx]
        simp only []
        rw [jRightL] at hr
        injection hr with hr
        simp only [List.length_nil, Nat.add_zero] at e3
        have ht : ns.tail = [] := by
          by_cases h6 : kind = 6
          · have := hn6 h6
            exact List.eq_nil_of_length_eq_zero (by rw [List.length_tail]; simp at this; omega)
          · rw [hn5 h6]; rfl
        rw [ht, List.append_nil] at e4
        rw [if_pos trivial, hr, e4, Nat.add_comm p, e3]
      | cons u us =>
        have e8 := e7
        rw [jFullL_comma] at e7 e3
        have hx : b[q + (jFull v).length]? = some 44 := by simpa using at_drop e7 0
        have hd : b.drop (q + (jFull v).length + 1) = jFullL (kind == 6) false ns.tail (u :: us) ++ (fin :: rest) := drop_app (x := [44]) e7
        obtain ⟨c, l, hcl, hc, _⟩ := @jFullL_head (kind == 6) ns.tail u us
        have hx1 : b[q + (jFull v).length + 1]? = some c := by
          have := at_drop hd 0
          rw [hcl] at this
          simpa using this
        rw [jBlanks_stay hx (by decide), jNext, hx]
        simp only []
        rw [if_neg (fun h => hfin.2.2 h.symm), jWord, hx]
        simp only []
        rw [if_pos trivial, jWord]
        simp only []
        rw [jBlanks_stay hx1 hc, jManyL_written hk hv (u :: us) ns.tail _ (seen ++ [ns.headD []]) _ _ m1 m' f L rest (by simp) hg.2 ?_ ?_ ?_ hr hd (by omega), e4, List.append_assoc]
        · congr 2
          simp only [List.length_cons, List.cons_append, List.nil_append] at e3 ⊢
          congr 1
          omega
        · intro h6
          have := hn6 h6
          rw [List.length_tail]
          simp only [List.length_cons] at this ⊢
          omega
        · intro h6; rw [hn5 h6]; rfl
        · intro h6; rw [hse h6, if_pos h6, e5 h6]
end Go.Proofs.YtdekogmegdhjoaaDoor

namespace Go.Proofs.YtdekogmegdhjoaaDoor
open Go.Lib
set_option linter.unusedSimpArgs false
set_option linter.unusedVariables false

theorem jFullL_ge : ∀ (ks : List JV) (obj more : Bool) (ns : List (List UInt8)), ks.length ≤ (jFullL obj more ns ks).length
  | [], _, _, _ => Nat.zero_le _
  | .mk k n t ns' ks' :: vs, obj, more, ns => by
    obtain ⟨c, l, h, _⟩ := jFull_head k n t ns' ks'
    have := jFullL_ge vs obj true ns.tail
    rw [jFullL, h]
    simp only [List.length_append, List.length_cons]
    omega
theorem jMany_written {b : List UInt8} {kind n : Int} {fin opn : UInt8} {d : Nat} {val : Nat → Nat → JR (JV × Nat × Nat)} {t : List UInt8} {ns : List (List UInt8)} {ks : List JV} {p m m' L : Nat} {rest : List UInt8} (hk : kind = 5 ∧ fin = 93 ∨ kind = 6 ∧ fin = 125) (hv : ReadOk b d val) (hg : JGood L (.mk kind n t ns ks)) (hr : jRight (d + 1) (.mk kind n t ns ks) m = some m')
    (h : b.drop p = [opn] ++ (jFullL (kind == 6) false ns ks ++ (fin :: rest))) : jMany b kind fin (some val) p (m + 1) = .ok (.mk kind n t ns ks, p + ((jFullL (kind == 6) false ns ks).length + 2), m') := by
  rw [JGood] at hg
  obtain ⟨g1, g2, g3, g4, g5, g6, -, -, -, -, g7⟩ := hg
  obtain rfl := g3 (by omega)
  obtain rfl := g4 (by omega)
  have hd : b.drop (p + 1) = jFullL (kind == 6) false ns ks ++ (fin :: rest) := drop_app (x := [opn]) h
  have hfin : jBlank fin = false := by rcases hk with ⟨_, rfl⟩ | ⟨_, rfl⟩ <;> decide
  rw [jRight] at hr
  split at hr
  · cases hr
  rw [if_neg (by omega)] at hr
  split at hr
  · cases hr
  rename_i hlen
  have hl6 : kind = 6 → ns.length = ks.length := fun h6 => Decidable.byContradiction fun hh => hlen ⟨h6, hh⟩
  unfold jMany
  simp only []
  cases ks with
  | nil =>
    have hns : ns = [] := by
      by_cases h6 : kind = 6
      · exact List.eq_nil_of_length_eq_zero (hl6 h6)
      · exact g5 h6
    subst hns
    rw [jFullL] at hd ⊢
    have hx : b[p + 1]? = some fin := by simpa using at_drop hd 0
    rw [jRightL] at hr
    injection hr with hr
    rw [jBlanks_stay hx hfin, jNext, hx]
    simp only []
    rw [if_pos trivial, hr]
    rfl
  | cons v vs =>
    obtain ⟨c, l, hcl, hc, hc1, hc2⟩ := @jFullL_head (kind == 6) ns v vs
    have hx : b[p + 1]? = some c := by
      have := at_drop hd 0
      rw [hcl] at this
      simpa using this
    have hge := jFullL_ge (v :: vs) (kind == 6) false ns
    have hbl := congrArg List.length hd
    simp only [List.length_drop, List.length_append, List.length_cons] at hbl hge
    rw [jBlanks_stay hx hc, jNext, hx]
    simp only []
    rw [if_neg (by rcases hk with ⟨_, rfl⟩ | ⟨_, rfl⟩; exact hc1; exact hc2), jManyL_written hk hv (v :: vs) ns [] [] [] (p + 1) (m + 1) m' _ L rest (by simp) g7 hl6 g5 (fun _ => rfl) hr hd (by simp only [List.length_cons]; omega)]
    simp only [List.nil_append]
    congr 2
    congr 1
    omega
theorem jValue_written {b : List UInt8} : ∀ (d : Nat), ReadOk b d (jValue b d)
  | d, .mk k n t ns ks, p, m, m', L, rest, hg, hr, h, hrest => by
    by_cases hb : jBad k n t m
    · rw [jRight_bad hb] at hr; cases hr
    by_cases hk : k < 5
    · rw [jRight_leaf hb hk] at hr
      injection hr with hr
      rw [← hr]
      cases d <;> (rw [jValue]; exact jLeaf_written hg hb hk h hrest)
    · cases d with
      | zero => rw [jRight, if_neg hb, if_neg hk] at hr; cases hr
      | succ d =>
        have hm : m ≠ 4096 := fun h => hb (.inl (by omega))
        have hk6 : k ≤ 6 := Decidable.byContradiction fun hh => hb (.inr (.inr (.inl (by omega))))
        have ih := jValue_written (b := b) d
        rw [jValue, jValueW]
        rcases (by omega : k = 5 ∨ k = 6) with rfl | rfl
        · have hf : jFull (.mk 5 n t ns ks) = [91] ++ (jFullL ((5 : Int) == 6) false ns ks ++ [93]) := by rw [jFull]; rfl
          rw [hf, List.append_assoc, List.append_assoc] at h
          rw [hf, show b[p]? = some 91 by simpa using at_drop h 0]
          simp only []
          rw [if_neg hm, if_neg (by decide), if_neg (by decide), if_neg (by decide), if_neg (by decide), if_neg (by decide), if_pos trivial, jMany_written (.inl ⟨rfl, rfl⟩) ih hg hr h]
          simp only [List.length_append, List.length_cons, List.length_nil]
          congr 2
          congr 1
          omega
        · have hf : jFull (.mk 6 n t ns ks) = [123] ++ (jFullL ((6 : Int) == 6) false ns ks ++ [125]) := by rw [jFull]; rfl
          rw [hf, List.append_assoc, List.append_assoc] at h
          rw [hf, show b[p]? = some 123 by simpa using at_drop h 0]
          simp only []
          rw [if_neg hm, if_neg (by decide), if_neg (by decide), if_neg (by decide), if_neg (by decide), if_neg (by decide), if_neg (by decide), if_pos trivial, jMany_written (.inr ⟨rfl, rfl⟩) ih hg hr h]
          simp only [List.length_append, List.length_cons, List.length_nil]
          congr 2
          congr 1
          omega
/-- What is written of a bare value that is right is read as that value. -/
theorem jParse_written {v : JV} {L x : Nat} (hg : JGood L v) (hr : jRight 16 v 0 = some x) (hl : (jFull v).length ≤ 65536) : jParse (jFull v) = .ok v := by
  have h := jValue_written (b := jFull v) 16 v 0 0 x L [] hg hr (by simp) (fun c hc => by cases hc)
  have hb : jBlanks (jFull v) 0 = 0 := by
    obtain ⟨k, n, t, ns, ks⟩ := v
    obtain ⟨c, l, hcl, hc, _⟩ := jFull_head k n t ns ks
    exact jBlanks_stay (by rw [hcl]; rfl) hc
  unfold jParse
  rw [if_neg (by omega), hb, h]
  simp only []
  have := jBlanks_ge (jFull v) (0 + (jFull v).length)
  rw [if_neg (by omega)]
end Go.Proofs.YtdekogmegdhjoaaDoor

namespace Go.Proofs.YtdekogmegdhjoaaDoor
set_option linter.unusedSimpArgs false
set_option linter.unusedVariables false

theorem jCutL_right {f : JV → Nat → Option Nat} {D L : Nat} (hf : ∀ v m x, JGood L v → f v m = some x → jCut D v = v) {obj : Bool} : ∀ (ks : List JV) (seen ns : List (List UInt8)) (m x : Nat), JGoodL L ks → jRightL f obj seen ns ks m = some x → ks.map (jCut D) = ks
  | [], _, _, _, _, _, _ => rfl
  | v :: vs, seen, ns, m, x, hg, h => by
    rw [JGoodL] at hg
    rw [jRightL] at h
    split at h
    · cases h
    · cases hv : f v m with
      | none => rw [hv] at h; cases h
      | some m' =>
        rw [hv] at h
        rw [List.map_cons, hf v m m' hg.1 hv, jCutL_right hf vs _ _ m' x hg.2 h]
/-- A value that is right is no deeper than it may be. -/
theorem jCut_right : ∀ (d D L : Nat) (v : JV) (m x : Nat), d ≤ D → JGood L v → jRight d v m = some x → jCut D v = v
  | d, D, L, .mk k n t ns ks, m, x, hD, hg, hr => by
    have hg' := hg
    rw [JGood] at hg
    obtain ⟨-, -, -, -, -, g6, -, -, -, -, g7⟩ := hg
    by_cases hk : k < 5
    · obtain rfl := g6 hk
      cases D <;> rw [jCut] <;> rfl
    · cases d with
      | zero =>
        rw [jRight, if_neg hk] at hr
        split at hr <;> cases hr
      | succ d =>
        obtain ⟨D, rfl⟩ : ∃ E, D = E + 1 := ⟨D - 1, by omega⟩
        rw [jRight, if_neg hk] at hr
        split at hr
        · cases hr
        split at hr
        · cases hr
        rw [jCut, jCutL_right (fun v m x hg hv => jCut_right d D L v m x (by omega) hg hv) ks _ _ _ _ g7 hr]
end Go.Proofs.YtdekogmegdhjoaaDoor

namespace Go.Proofs.YtdekogmegdhjoaaDoor
open Go.Lib
set_option linter.unusedSimpArgs false
set_option linter.unusedVariables false

mutual
/-- A value without what isn't written. -/
def jBare : JV → JV
  | .mk k n t ns ks => .mk k (if k = 3 then n else 0) (if k = 4 then t else []) (if k = 6 then ns else []) (if 5 ≤ k then jBareL ks else [])
def jBareL : List JV → List JV
  | [] => []
  | v :: vs => jBare v :: jBareL vs
end
theorem jBareL_map : ∀ ks : List JV, jBareL ks = ks.map jBare
  | [] => rfl
  | v :: vs => by rw [jBareL, jBareL_map vs, List.map_cons]
theorem jRightL_bare {f : JV → Nat → Option Nat} (hf : ∀ v m x, f v m = some x → f (jBare v) m = some x) {obj : Bool} : ∀ (ks : List JV) (seen ns ns' : List (List UInt8)) (m x : Nat), (obj = true → ns' = ns) → jRightL f obj seen ns ks m = some x → ∀ seen', (obj = true → seen' = seen) → jRightL f obj seen' ns' (jBareL ks) m = some x
  | [], _, _, _, _, _, _, h, _, _ => h
  | v :: vs, seen, ns, ns', m, x, hn, h, seen', hs => by
    rw [jRightL] at h
    rw [jBareL, jRightL]
    split at h
    · cases h
    · rename_i hc
      cases hv : f v m with
      | none => rw [hv] at h; cases h
      | some m' =>
        rw [hv] at h
        rw [hf v m m' hv, if_neg (by rintro ⟨ho, h2⟩; rw [hn ho, hs ho] at h2; exact hc ⟨ho, h2⟩)]
        exact jRightL_bare hf vs _ _ _ m' x (fun ho => by rw [hn ho]) h _ (fun ho => by rw [hn ho, hs ho])
theorem jBad_bare {k n : Int} {t : List UInt8} {m : Nat} (h : ¬ jBad k n t m) : ¬ jBad k (if k = 3 then n else 0) (if k = 4 then t else []) m := by
  unfold jBad at *
  rintro (h1 | h1 | h1 | h1 | h1 | h1)
  · exact h (.inl h1)
  · exact h (.inr (.inl h1))
  · exact h (.inr (.inr (.inl h1)))
  · split at h1
    · exact h (.inr (.inr (.inr (.inl h1))))
    · cases h1
  · split at h1
    · exact h (.inr (.inr (.inr (.inr (.inl h1)))))
    · omega
  · split at h1
    · exact h (.inr (.inr (.inr (.inr (.inr h1)))))
    · omega
theorem jBareL_len : ∀ ks : List JV, (jBareL ks).length = ks.length := fun ks => by rw [jBareL_map, List.length_map]
theorem jRight_bare : ∀ (d : Nat) (v : JV) (m x : Nat), jRight d v m = some x → jRight d (jBare v) m = some x
  | 0, .mk k n t ns ks, m, x, h => by
    rw [jRight] at h
    rw [jBare, jRight]
    split at h
    · cases h
    · rename_i hb
      rw [if_neg (jBad_bare hb)]
      exact h
  | d + 1, .mk k n t ns ks, m, x, h => by
    rw [jRight] at h
    rw [jBare, jRight]
    split at h
    · cases h
    · rename_i hb
      rw [if_neg (jBad_bare hb)]
      split at h
      · rename_i hk; rw [if_pos hk]; exact h
      · rename_i hk
        rw [if_neg hk]
        split at h
        · cases h
        · rename_i hl
          rw [if_pos (show 5 ≤ k by omega), if_neg]
          · exact jRightL_bare (jRight_bare d) ks [] ns _ _ _ (fun ho => by rw [if_pos (beq_iff_eq.1 ho)]) h [] (fun _ => rfl)
          · rintro ⟨h6, h7⟩
            rw [if_pos h6, jBareL_len] at h7
            exact hl ⟨h6, h7⟩
theorem jFullL_bare {f : JV → Nat → Option Nat} (hf : ∀ v m x, f v m = some x → jFull (jBare v) = jFull v) {obj : Bool} : ∀ (ks : List JV) (seen ns ns' : List (List UInt8)) (m x : Nat) (more : Bool), (obj = true → ns' = ns) → jRightL f obj seen ns ks m = some x → jFullL obj more ns' (jBareL ks) = jFullL obj more ns ks
  | [], _, _, _, _, _, _, _, _ => by rw [jBareL, jFullL, jFullL]
  | v :: vs, seen, ns, ns', m, x, more, hn, h => by
    rw [jRightL] at h
    rw [jBareL, jFullL, jFullL]
    split at h
    · cases h
    · cases hv : f v m with
      | none => rw [hv] at h; cases h
      | some m' =>
        rw [hv] at h
        rw [hf v m m' hv, jFullL_bare hf vs _ _ _ m' x true (fun ho => by rw [hn ho]) h]
        cases obj with
        | false => rfl
        | true => rw [hn rfl]
theorem jFull_bare : ∀ (d : Nat) (v : JV) (m x : Nat), jRight d v m = some x → jFull (jBare v) = jFull v
  | 0, .mk k n t ns ks, m, x, h => by
    rw [jRight] at h
    rw [jBare, jFull, jFull]
    split at h
    · cases h
    · rename_i hb
      have h0 : ¬ k < 0 := fun h => hb (.inr (.inl h))
      split at h
      · rename_i hk
        rcases (by omega : k = 0 ∨ k = 1 ∨ k = 2 ∨ k = 3 ∨ k = 4) with rfl | rfl | rfl | rfl | rfl <;> rfl
      · cases h
  | d + 1, .mk k n t ns ks, m, x, h => by
    rw [jRight] at h
    rw [jBare, jFull, jFull]
    split at h
    · cases h
    · rename_i hb
      have h0 : ¬ k < 0 := fun h => hb (.inr (.inl h))
      have h6 : ¬ 6 < k := fun h => hb (.inr (.inr (.inl h)))
      split at h
      · rename_i hk
        rcases (by omega : k = 0 ∨ k = 1 ∨ k = 2 ∨ k = 3 ∨ k = 4) with rfl | rfl | rfl | rfl | rfl <;> rfl
      · rename_i hk
        split at h
        · cases h
        · rcases (by omega : k = 5 ∨ k = 6) with rfl | rfl
          · have := jFullL_bare (jFull_bare d) ks [] ns [] _ _ false (fun ho => by cases ho) h
            simp only [show ((5 : Int) = 3) = False by simp, show ((5 : Int) = 6) = False by simp, if_false]
            rw [if_pos (show (5 : Int) ≤ 5 by omega)]
            simp only [show ((5 : Int) = 0) = False by simp, show ((5 : Int) = 1) = False by simp, show ((5 : Int) = 2) = False by simp, show ((5 : Int) = 4) = False by simp, if_false]
            rw [show ((5 : Int) == 6) = false by decide] at this
            rw [this]
          · have := jFullL_bare (jFull_bare d) ks [] ns ns _ _ false (fun _ => rfl) h
            simp only [show ((6 : Int) = 3) = False by simp, if_false, if_true]
            rw [if_pos (show (5 : Int) ≤ 6 by omega)]
            simp only [show ((6 : Int) = 0) = False by simp, show ((6 : Int) = 1) = False by simp, show ((6 : Int) = 2) = False by simp, show ((6 : Int) = 4) = False by simp, if_false]
            rw [show ((6 : Int) == 6) = true by decide] at this
            rw [this]
theorem jTotL_len : ∀ ks : List JV, ks.length ≤ jTotL ks
  | [] => Nat.le_refl _
  | v :: vs => by
    have h1 := jTotL_len vs
    have h2 := jTot_pos v
    rw [jTotL, List.length_cons]
    omega
theorem goodL_bare {f : JV → Nat → Option Nat} {L : Nat} (hf : ∀ v m x, jW v ≤ L → f v m = some x → JGood L (jBare v)) {obj : Bool} : ∀ (ks : List JV) (seen ns : List (List UInt8)) (m x : Nat), jWL ks ≤ L → jRightL f obj seen ns ks m = some x → JGoodL L (jBareL ks)
  | [], _, _, _, _, _, _ => by rw [jBareL, JGoodL]; trivial
  | v :: vs, seen, ns, m, x, hw, h => by
    rw [jWL] at hw
    rw [jRightL] at h
    rw [jBareL, JGoodL]
    split at h
    · cases h
    · cases hv : f v m with
      | none => rw [hv] at h; cases h
      | some m' =>
        rw [hv] at h
        exact ⟨hf v m m' (by omega) hv, goodL_bare hf vs _ _ m' x (by omega) h⟩
/-- A value that is right is good, once it is bare. -/
theorem good_bare (L : Nat) : ∀ (d : Nat) (v : JV) (m x : Nat), jW v ≤ L → jRight d v m = some x → JGood L (jBare v)
  | d, .mk k n t ns ks, m, x, hw, h => by
    have htot : m + jTot (.mk k n t ns ks) ≤ 4096 := by
      have h2 := h
      rw [jRight_doc] at h2
      split at h2
      · rename_i h3; exact h3.2
      · cases h2
    rw [jTot] at htot
    rw [jW] at hw
    have hkl := jTotL_len ks
    have hns := fun s hs => jWn_mem (ns := ns) (s := s) hs
    rw [jBare, JGood]
    cases d with
    | zero =>
      rw [jRight] at h
      split at h
      · cases h
      · rename_i hb
        have h0 : ¬ k < 0 := fun h => hb (.inr (.inl h))
        split at h
        · rename_i hk
          rw [if_neg (show ¬ k = 6 by omega), if_neg (show ¬ 5 ≤ k by omega)]
          refine ⟨by omega, by omega, fun h => by rw [if_neg h], fun h => by rw [if_neg h], fun _ => rfl, fun _ => rfl, ?_, (fun s hs => by cases hs), by simp, by simp, by rw [JGoodL]; trivial⟩
          split
          · omega
          · simp
        · cases h
    | succ d =>
      rw [jRight] at h
      split at h
      · cases h
      · rename_i hb
        have h0 : ¬ k < 0 := fun h => hb (.inr (.inl h))
        have h6 : ¬ 6 < k := fun h => hb (.inr (.inr (.inl h)))
        split at h
        · rename_i hk
          rw [if_neg (show ¬ k = 6 by omega), if_neg (show ¬ 5 ≤ k by omega)]
          refine ⟨by omega, by omega, fun h => by rw [if_neg h], fun h => by rw [if_neg h], fun _ => rfl, fun _ => rfl, ?_, (fun s hs => by cases hs), by simp, by simp, by rw [JGoodL]; trivial⟩
          split
          · omega
          · simp
        · rename_i hk
          split at h
          · cases h
          · rename_i hl
            rw [if_pos (show 5 ≤ k by omega)] at htot
            rw [if_pos (show 5 ≤ k by omega)]
            have hg := goodL_bare (fun v m x => good_bare L d v m x) ks _ _ _ _ (by omega) h
            refine ⟨by omega, by omega, fun h => by rw [if_neg h], fun h => by rw [if_neg h], fun h => by rw [if_neg h], fun h => absurd h hk, ?_, ?_, ?_, by rw [jBareL_len]; omega, hg⟩
            · split
              · omega
              · simp
            · intro s hs
              split at hs
              · have := hns s hs; omega
              · cases hs
            · split
              · rename_i h6'
                have : ns.length = ks.length := Decidable.byContradiction fun hh => hl ⟨h6', hh⟩
                omega
              · simp
/-- What is written of a value is read as that value without what isn't written. -/
theorem jBack {v : JV} (hw : jW v ≤ 1048576) {l : List UInt8} (h : jWrite v = (l, 0)) : jParse l = .ok (jBare v) ∧ JGood 1048576 (jBare v) ∧ jCut 20 (jBare v) = jBare v := by
  unfold jWrite at h
  split at h
  · injection h with h1 h2; cases h2
  · rename_i x hx
    split at h
    · injection h with h1 h2; cases h2
    · rename_i hl
      injection h with h1 h2
      have hr := jRight_bare 16 v 0 x hx
      have hf := jFull_bare 16 v 0 x hx
      have hg := good_bare 1048576 16 v 0 x hw hx
      refine ⟨?_, hg, jCut_right 16 20 _ _ 0 x (by decide) hg hr⟩
      rw [← h1, ← hf]
      exact jParse_written hg hr (by rw [hf]; omega)
end Go.Proofs.YtdekogmegdhjoaaDoor

namespace Go.Proofs.YtdekogmegdhjoaaDoor
open Go.Lib
set_option linter.unusedSimpArgs false
set_option linter.unusedVariables false

def jSgn (c : UInt8) : Bool := c == 91 || (c == 93 || (c == 123 || (c == 125 || (c == 44 || c == 58))))
/-- A step of the law's loop: what was laid, within a text, behind a backslash. -/
def wStep (bl : UInt8) (st : List UInt8 × Bool × Bool) (c : UInt8) : List UInt8 × Bool × Bool :=
  if (!st.2.1 && jSgn c) = true then (st.1 ++ [bl, c, bl], st.2)
  else (st.1 ++ [c], (if (c == 34 && !st.2.2) = true then !st.2.1 else st.2.1), ((if (c == 34 && !st.2.2) = true then !st.2.1 else st.2.1) && (c == 92 && !st.2.2)))
mutual
/-- A value as it is written, blanks about each sign. -/
def jWide (bl : UInt8) : JV → List UInt8
  | .mk k n t ns ks =>
    if 0 ≤ k ∧ k < 5 then jFull (.mk k n t [] [])
    else if k = 6 then [bl, 123, bl] ++ jWideL bl true false ns ks ++ [bl, 125, bl] else [bl, 91, bl] ++ jWideL bl false false ns ks ++ [bl, 93, bl]
def jWideL (bl : UInt8) (obj : Bool) : Bool → List (List UInt8) → List JV → List UInt8
  | _, _, [] => []
  | more, ns, v :: vs => (if more then [bl, 44, bl] else []) ++ ((if obj then jQuote (ns.headD []) ++ [bl, 58, bl] else []) ++ (jWide bl v ++ jWideL bl obj true ns.tail vs))
end
/-- The state of the loop outside of texts. -/
abbrev w0 (o : List UInt8) : List UInt8 × Bool × Bool := (o, false, false)
theorem wStep_sign {bl c : UInt8} {o : List UInt8} (h : jSgn c = true) : wStep bl (o, false, false) c = (o ++ [bl, c, bl], false, false) := by
  unfold wStep; rw [if_pos (by rw [h]; rfl)]
theorem wFold_one {bl : UInt8} {o : List UInt8} (c : UInt8) (h : jSgn c = true) : ([c] : List UInt8).foldl (wStep bl) (o, false, false) = (o ++ [bl, c, bl], false, false) := wStep_sign h
theorem wStep_plain {bl c : UInt8} {o : List UInt8} (h : jSgn c = false) (h34 : c ≠ 34) : wStep bl (o, false, false) c = (o ++ [c], false, false) := by
  unfold wStep
  rw [if_neg (by rw [h]; simp)]
  simp [h34]
theorem wFold_plain {bl : UInt8} : ∀ (l o : List UInt8), (∀ c ∈ l, jSgn c = false ∧ c ≠ 34) → l.foldl (wStep bl) (o, false, false) = (o ++ l, false, false)
  | [], o, _ => by simp
  | c :: l, o, h => by
    obtain ⟨h1, h2⟩ := h c (by simp)
    rw [List.foldl_cons, wStep_plain h1 h2, wFold_plain l _ (fun c hc => h c (by simp [hc]))]
    simp
theorem wStep_in {bl c : UInt8} {o : List UInt8} (h1 : c ≠ 34) (h2 : c ≠ 92) : wStep bl (o, true, false) c = (o ++ [c], true, false) := by
  unfold wStep
  simp [h1, h2]
theorem wStep_bs {bl : UInt8} {o : List UInt8} : wStep bl (o, true, false) 92 = (o ++ [92], true, true) := by
  unfold wStep
  simp
theorem wStep_esc {bl c : UInt8} {o : List UInt8} : wStep bl (o, true, true) c = (o ++ [c], true, false) := by
  unfold wStep
  simp
theorem hexD_ne : ∀ n, n < 16 → jHexD n ≠ 34 ∧ jHexD n ≠ 92 := by decide +kernel
theorem wFold_qc {bl y : UInt8} {o : List UInt8} : (jQc y).foldl (wStep bl) (o, true, false) = (o ++ jQc y, true, false) := by
  have two : ∀ x : UInt8, ([92, x] : List UInt8).foldl (wStep bl) (o, true, false) = (o ++ [92, x], true, false) := fun x => by
    rw [List.foldl_cons, wStep_bs, List.foldl_cons, wStep_esc, List.foldl_nil]
    simp
  unfold jQc
  split
  · exact two _
  rename_i h1
  split
  · exact two _
  split
  · exact two _
  split
  · exact two _
  split
  · exact two _
  split
  · exact two _
  split
  · rename_i h
    have h3 := hexD_ne (y.toNat / 16) (by omega)
    have h4 := hexD_ne (y.toNat % 16) (by omega)
    simp only [List.foldl_cons, List.foldl_nil]
    rw [wStep_bs, wStep_esc, wStep_in (by decide) (by decide), wStep_in (by decide) (by decide), wStep_in h3.1 h3.2, wStep_in h4.1 h4.2]
    simp
  · simp only [List.foldl_cons, List.foldl_nil]
    exact wStep_in (fun h => h1 (.inl h)) (fun h => h1 (.inr h))
theorem wFold_qs {bl : UInt8} : ∀ (s o : List UInt8), (s.flatMap jQc).foldl (wStep bl) (o, true, false) = (o ++ s.flatMap jQc, true, false)
  | [], o => by simp
  | y :: s, o => by
    rw [List.flatMap_cons, List.foldl_append, wFold_qc, wFold_qs s, List.append_assoc]
theorem wFold_quote {bl : UInt8} (s o : List UInt8) : (jQuote s).foldl (wStep bl) (o, false, false) = (o ++ jQuote s, false, false) := by
  unfold jQuote
  rw [List.foldl_append, List.foldl_append]
  have e1 : ([34] : List UInt8).foldl (wStep bl) (o, false, false) = (o ++ [34], true, false) := by
    simp [wStep, jSgn]
  rw [e1, wFold_qs]
  have e2 : ∀ o, ([34] : List UInt8).foldl (wStep bl) (o, true, false) = (o ++ [34], false, false) := fun o => by
    simp [wStep]
  rw [e2]
  simp
theorem itoa_plain (n : Int) : ∀ c ∈ itoa n, jSgn c = false ∧ c ≠ 34 := fun c hc => by
  have h := itoa_numC n c hc
  have key : ∀ c : UInt8, jNumC c = true → jSgn c = false ∧ c ≠ 34 := by
    intro c
    unfold jNumC jSgn jDig
    intro h
    simp only [Bool.or_eq_true, Bool.and_eq_true, decide_eq_true_eq, beq_iff_eq] at h
    rcases h with h | h | h | h | h | h
    · refine ⟨?_, fun h' => by subst h'; revert h; decide⟩
      simp only [Bool.or_eq_false_iff, beq_eq_false_iff_ne, ne_eq]
      refine ⟨?_, ?_, ?_, ?_, ?_, ?_⟩ <;> (intro h'; subst h'; revert h; decide)
    all_goals (subst h; decide)
  exact key c h
theorem wFold_leaf {bl : UInt8} {k n : Int} {t : List UInt8} {ns : List (List UInt8)} {ks : List JV} (h0 : 0 ≤ k) (h5 : k < 5) (o : List UInt8) : (jFull (.mk k n t ns ks)).foldl (wStep bl) (o, false, false) = (o ++ jFull (.mk k n t ns ks), false, false) := by
  rw [jFull]
  rcases (by omega : k = 0 ∨ k = 1 ∨ k = 2 ∨ k = 3 ∨ k = 4) with rfl | rfl | rfl | rfl | rfl
  · exact wFold_plain [110, 117, 108, 108] o (by decide)
  · exact wFold_plain [102, 97, 108, 115, 101] o (by decide)
  · exact wFold_plain [116, 114, 117, 101] o (by decide)
  · exact wFold_plain (itoa n) o (itoa_plain n)
  · exact wFold_quote t o
theorem leaf_bare {k n : Int} {t : List UInt8} {ns ns' : List (List UInt8)} {ks ks' : List JV} (h0 : 0 ≤ k) (h5 : k < 5) : jFull (.mk k n t ns ks) = jFull (.mk k n t ns' ks') := by
  rw [jFull, jFull]
  rcases (by omega : k = 0 ∨ k = 1 ∨ k = 2 ∨ k = 3 ∨ k = 4) with rfl | rfl | rfl | rfl | rfl <;> rfl
mutual
/-- No kind is below 0. -/
def JK0 : JV → Prop
  | .mk k _ _ _ ks => 0 ≤ k ∧ JK0L ks
def JK0L : List JV → Prop
  | [] => True
  | v :: vs => JK0 v ∧ JK0L vs
end
mutual
theorem wFold_full {bl : UInt8} : ∀ (v : JV) (o : List UInt8), JK0 v → (jFull v).foldl (wStep bl) (o, false, false) = (o ++ jWide bl v, false, false)
  | .mk k n t ns ks, o, h => by
    rw [JK0] at h
    rw [jWide]
    by_cases h5 : k < 5
    · rw [if_pos ⟨h.1, h5⟩, wFold_leaf h.1 h5, leaf_bare (ns' := []) (ks' := []) h.1 h5]
    · rw [if_neg (by omega), jFull, if_neg (by omega), if_neg (by omega), if_neg (by omega), if_neg (by omega), if_neg (by omega)]
      by_cases h6 : k = 6
      · rw [if_pos h6, if_pos h6, List.foldl_append, List.foldl_append, wFold_one 123 (by decide), wFold_fullL ks true false ns _ h.2, wFold_one 125 (by decide)]
        simp
      · rw [if_neg h6, if_neg h6, List.foldl_append, List.foldl_append, wFold_one 91 (by decide), wFold_fullL ks false false ns _ h.2, wFold_one 93 (by decide)]
        simp
theorem wFold_fullL {bl : UInt8} : ∀ (ks : List JV) (obj more : Bool) (ns : List (List UInt8)) (o : List UInt8), JK0L ks → (jFullL obj more ns ks).foldl (wStep bl) (o, false, false) = (o ++ jWideL bl obj more ns ks, false, false)
  | [], obj, more, ns, o, _ => by rw [jFullL, jWideL]; simp
  | v :: vs, obj, more, ns, o, h => by
    rw [JK0L] at h
    rw [jFullL, jWideL, List.foldl_append, List.foldl_append, List.foldl_append]
    have e1 : (if more = true then [44] else []).foldl (wStep bl) (o, false, false) = (o ++ (if more = true then [bl, 44, bl] else []), false, false) := by
      cases more with
      | false => simp
      | true => simp only [if_true, List.foldl_cons, List.foldl_nil]; rw [wStep_sign (by decide)]
    rw [e1]
    have e2 : ∀ o, (if obj = true then jQuote (ns.headD []) ++ [58] else []).foldl (wStep bl) (o, false, false) = (o ++ (if obj = true then jQuote (ns.headD []) ++ [bl, 58, bl] else []), false, false) := fun o => by
      cases obj with
      | false => simp
      | true => simp only [if_true, List.foldl_append, List.foldl_cons, List.foldl_nil]; rw [wFold_quote, wStep_sign (by decide), List.append_assoc]
    rw [e2, wFold_full v _ h.1, wFold_fullL vs obj true ns.tail _ h.2]
    simp only [List.append_assoc]
end
end Go.Proofs.YtdekogmegdhjoaaDoor

namespace Go.Proofs.YtdekogmegdhjoaaDoor
open Go.Lib
set_option linter.unusedSimpArgs false
set_option linter.unusedVariables false

section
variable {b : List UInt8} {bl : UInt8}
theorem jB_go {p : Nat} {c : UInt8} {rest : List UInt8} (h : b.drop p = c :: rest) (hc : jBlank c = true) : jBlanks b p = jBlanks b (p + 1) :=
  jBlanks_go (by simpa using at_drop h 0) hc
theorem jB_stay {p : Nat} {c : UInt8} {rest : List UInt8} (h : b.drop p = c :: rest) (hc : jBlank c = false) : jBlanks b p = p :=
  jBlanks_stay (by simpa using at_drop h 0) hc
theorem drop_cons {p : Nat} {c : UInt8} {rest : List UInt8} (h : b.drop p = c :: rest) : b.drop (p + 1) = rest := drop_app (x := [c]) h
theorem blank_num {c : UInt8} (h : jBlank c = true) : jNumC c = false := by
  unfold jBlank at h
  simp only [Bool.or_eq_true, beq_iff_eq] at h
  rcases h with rfl | rfl | rfl | rfl <;> decide
/-- A sign between blanks: where it stands, and what is behind it. -/
theorem sign_at (hb : jBlank bl = true) {p : Nat} {c : UInt8} {rest : List UInt8} (h : b.drop p = [bl, c, bl] ++ rest) (hc : jBlank c = false) : jBlanks b p = p + 1 ∧ b[p + 1]? = some c ∧ jBlanks b (p + 2) = jBlanks b (p + 3) ∧ b.drop (p + 3) = rest := by
  have h1 : b.drop (p + 1) = c :: bl :: rest := drop_cons h
  have h2 : b.drop (p + 2) = bl :: rest := drop_cons h1
  refine ⟨?_, by simpa using at_drop h1 0, jB_go h2 hb, drop_cons h2⟩
  rw [jB_go (rest := [c, bl] ++ rest) h hb, jB_stay h1 hc]
/-- What a value's text begins with, behind blanks. -/
theorem jWide_next (hb : jBlank bl = true) {v : JV} {p : Nat} {rest : List UInt8} (h : b.drop p = jWide bl v ++ rest) : ∃ c, b[jBlanks b p]? = some c ∧ c ≠ 93 ∧ c ≠ 125 := by
  obtain ⟨k, n, t, ns, ks⟩ := v
  rw [jWide] at h
  split at h
  · obtain ⟨c, l, hcl, hc, h1, h2⟩ := jFull_head k n t [] []
    rw [hcl] at h
    have h' : b.drop p = c :: (l ++ rest) := h
    exact ⟨c, by rw [jB_stay h' hc]; simpa using at_drop h' 0, h1, h2⟩
  split at h
  · rw [List.append_assoc, List.append_assoc] at h
    obtain ⟨h1, h2, _⟩ := sign_at hb h (by decide)
    exact ⟨123, by rw [h1]; exact h2, by decide, by decide⟩
  · rw [List.append_assoc, List.append_assoc] at h
    obtain ⟨h1, h2, _⟩ := sign_at hb h (by decide)
    exact ⟨91, by rw [h1]; exact h2, by decide, by decide⟩
def ReadW (b : List UInt8) (bl : UInt8) (d : Nat) (val : Nat → Nat → JR (JV × Nat × Nat)) : Prop := ∀ (v : JV) (p m m' L : Nat) (rest : List UInt8), JGood L v → jRight d v m = some m' → b.drop p = jWide bl v ++ rest → (∀ c, rest.head? = some c → jNumC c = false) →
  ∃ q, val (jBlanks b p) m = .ok (v, q, m') ∧ jBlanks b q = jBlanks b (p + (jWide bl v).length)
theorem jWideL_next (hb : jBlank bl = true) {obj : Bool} {ns : List (List UInt8)} {v : JV} {vs : List JV} {p : Nat} {rest : List UInt8} (h : b.drop p = jWideL bl obj false ns (v :: vs) ++ rest) : ∃ c, b[jBlanks b p]? = some c ∧ c ≠ 93 ∧ c ≠ 125 := by
  rw [jWideL] at h
  cases obj with
  | true =>
    have h' : b.drop p = 34 :: (((ns.headD []).flatMap jQc ++ [34]) ++ [bl, 58, bl] ++ (jWide bl v ++ jWideL bl true true ns.tail vs) ++ rest) := by rw [h]; simp [jQuote]
    exact ⟨34, by rw [jB_stay h' (by decide)]; simpa using at_drop h' 0, by decide, by decide⟩
  | false =>
    have h' : b.drop p = jWide bl v ++ (jWideL bl false true ns.tail vs ++ rest) := by rw [h]; simp
    exact jWide_next hb h'
theorem jManyL_wide (hb : jBlank bl = true) {kind : Int} {fin : UInt8} {d : Nat} {val : Nat → Nat → JR (JV × Nat × Nat)} (hk : kind = 5 ∧ fin = 93 ∨ kind = 6 ∧ fin = 125) (hv : ReadW b bl d val) : ∀ (ks : List JV) (ns names seen : List (List UInt8)) (kids : List JV) (p m m' f L : Nat) (rest : List UInt8), ks ≠ [] → JGoodL L ks → (kind = 6 → ns.length = ks.length) → (kind ≠ 6 → ns = []) → (kind = 6 → seen = names) →
    jRightL (jRight d) (kind == 6) seen ns ks m = some m' → b.drop p = jWideL bl (kind == 6) false ns ks ++ ([bl, fin, bl] ++ rest) → ks.length < f →
    jManyL b kind fin val f (jBlanks b p) m names kids = .ok (.mk kind 0 [] (names ++ ns) (kids ++ ks), p + (jWideL bl (kind == 6) false ns ks).length + 2, m')
  | [], _, _, _, _, _, _, _, _, _, _, h, _, _, _, _, _, _, _ => absurd rfl h
  | v :: vs, ns, names, seen, kids, p, m, m', f, L, rest, _, hg, hn6, hn5, hse, hr, h, hf => by
    obtain ⟨f, rfl⟩ : ∃ g, f = g + 1 := ⟨f - 1, by simp at hf; omega⟩
    simp only [List.length_cons] at hf
    rw [JGoodL] at hg
    rw [jRightL] at hr
    split at hr
    · cases hr
    rename_i hbad
    cases hm : jRight d v m with
    | none => rw [hm] at hr; cases hr
    | some m1 =>
      rw [hm] at hr
      simp only [] at hr
      have hfin : jBlank fin = false ∧ jNumC fin = false ∧ fin ≠ 44 := by rcases hk with ⟨_, rfl⟩ | ⟨_, rfl⟩ <;> decide
      -- the name
      have hname : ∃ s q, (if kind = 6 then jName b names (jBlanks b p) else .ok ([], jBlanks b p)) = .ok (s, jBlanks b q) ∧ b.drop q = jWide bl v ++ (jWideL bl (kind == 6) true ns.tail vs ++ ([bl, fin, bl] ++ rest)) ∧ (jWideL bl (kind == 6) false ns (v :: vs)).length + p = q + (jWide bl v).length + (jWideL bl (kind == 6) true ns.tail vs).length ∧ (if kind = 6 then names ++ [s] else names) ++ ns.tail = names ++ ns ∧ (kind = 6 → s = ns.headD []) := by
        rw [jWideL] at h ⊢
        by_cases h6 : kind = 6
        · subst h6
          obtain ⟨s, ns', rfl⟩ : ∃ s ns', ns = s :: ns' := by
            cases ns with
            | nil => exact absurd (hn6 rfl) (by simp)
            | cons s ns' => exact ⟨s, ns', rfl⟩
          simp only [beq_self_eq_true, if_true, if_false, List.headD_cons, List.tail_cons, List.nil_append, List.append_assoc, true_and, Bool.false_eq_true] at h hbad ⊢
          have hvs : validD s = true := by cases hh : validD s; exact absurd (.inl hh) hbad; rfl
          have hns : s ∉ names := fun hh => hbad (.inr (by rw [hse rfl]; exact hh))
          have h34 : b.drop p = 34 :: (s.flatMap jQc ++ [34] ++ ([bl, 58, bl] ++ (jWide bl v ++ (jWideL bl true true ns' vs ++ ([bl, fin, bl] ++ rest))))) := by rw [h]; simp [jQuote]
          have hd := drop_app h
          obtain ⟨g1, g2, g3, g4⟩ := sign_at hb hd (by decide)
          refine ⟨s, p + (jQuote s).length + 3, ?_, g4, ?_, rfl, fun _ => rfl⟩
          · unfold jName
            rw [jB_stay h34 (by decide), jText_written hvs h]
            simp only []
            rw [if_neg hns, g1, jWord, g2]
            simp only []
            rw [if_pos trivial, jWord]
            simp only []
            rw [← g3]
          · simp only [List.length_append, List.length_cons, List.length_nil]
            omega
        · have hkb : (kind == 6) = false := by simpa using h6
          obtain rfl := hn5 h6
          rw [hkb] at h ⊢
          simp only [if_neg h6, Bool.false_eq_true, if_false, List.nil_append, List.tail_nil, List.append_assoc] at h ⊢
          exact ⟨_, _, rfl, h, by simp only [List.length_append]; omega, trivial, fun h => absurd h h6⟩
      obtain ⟨s, q, e1, e2, e3, e4, e5⟩ := hname
      have hnum : ∀ c, (jWideL bl (kind == 6) true ns.tail vs ++ ([bl, fin, bl] ++ rest)).head? = some c → jNumC c = false := by
        intro c hc
        cases vs with
        | nil => rw [jWideL] at hc; injection hc with hc; rw [← hc]; exact blank_num hb
        | cons u us => rw [jWideL] at hc; injection hc with hc; rw [← hc]; exact blank_num hb
      obtain ⟨q1, e6, e7'⟩ := hv v q m m1 L _ hg.1 hm e2 hnum
      have e7 := drop_app e2
      rw [jManyL_go e1, e6]
      simp only []
      rw [e7']
      cases vs with
      | nil =>
        rw [jWideL] at e3 e7
        obtain ⟨g1, g2, _, _⟩ := sign_at hb (rest := rest) e7 hfin.1
        rw [g1, jNext, g2]
        simp only []
        rw [jRightL] at hr
        injection hr with hr
        simp only [List.length_nil, Nat.add_zero] at e3
        have ht : ns.tail = [] := by
          by_cases h6 : kind = 6
          · have := hn6 h6
            exact List.eq_nil_of_length_eq_zero (by rw [List.length_tail]; simp at this; omega)
          · rw [hn5 h6]; rfl
        rw [ht, List.append_nil] at e4
        rw [if_pos trivial, hr, e4, Nat.add_comm p, e3]
      | cons u us =>
        have e8 : b.drop (q + (jWide bl v).length) = [bl, 44, bl] ++ (jWideL bl (kind == 6) false ns.tail (u :: us) ++ ([bl, fin, bl] ++ rest)) := by
          rw [e7, jWideL, jWideL]; simp
        have e9 : (jWideL bl (kind == 6) true ns.tail (u :: us)).length = 3 + (jWideL bl (kind == 6) false ns.tail (u :: us)).length := by
          rw [jWideL, jWideL]; simp only [List.length_append, if_true, List.length_cons, List.length_nil, Bool.false_eq_true, if_false]; omega
        obtain ⟨g1, g2, g3, g4⟩ := sign_at hb e8 (by decide)
        rw [g1, jNext, g2]
        simp only []
        rw [if_neg (fun h => hfin.2.2 h.symm), jWord, g2]
        simp only []
        rw [if_pos trivial, jWord]
        simp only []
        rw [show q + (jWide bl v).length + 1 + 1 = q + (jWide bl v).length + 2 from rfl, g3, jManyL_wide hb hk hv (u :: us) ns.tail _ (seen ++ [ns.headD []]) _ _ m1 m' f L rest (by simp) hg.2 ?_ ?_ ?_ hr g4 (by omega), e4, List.append_assoc]
        · congr 2
          rw [e9] at e3
          congr 1
          omega
        · intro h6
          have := hn6 h6
          rw [List.length_tail]
          simp only [List.length_cons] at this ⊢
          omega
        · intro h6; rw [hn5 h6]; rfl
        · intro h6; rw [hse h6, if_pos h6, e5 h6]
theorem jWideL_ge : ∀ (ks : List JV) (obj more : Bool) (ns : List (List UInt8)), ks.length ≤ (jWideL bl obj more ns ks).length
  | [], _, _, _ => Nat.zero_le _
  | .mk k n t ns' ks' :: vs, obj, more, ns => by
    have h1 : 1 ≤ (jWide bl (.mk k n t ns' ks')).length := by
      rw [jWide]
      split
      · obtain ⟨c, l, h, _⟩ := jFull_head k n t [] []
        rw [h]; simp
      split <;> simp
    have := jWideL_ge vs obj true ns.tail
    rw [jWideL]
    simp only [List.length_append, List.length_cons]
    omega
theorem jMany_wide (hb : jBlank bl = true) {kind n : Int} {fin opn : UInt8} {d : Nat} {val : Nat → Nat → JR (JV × Nat × Nat)} {t : List UInt8} {ns : List (List UInt8)} {ks : List JV} {p m m' L : Nat} {rest : List UInt8} (hk : kind = 5 ∧ fin = 93 ∨ kind = 6 ∧ fin = 125) (hv : ReadW b bl d val) (hg : JGood L (.mk kind n t ns ks)) (hr : jRight (d + 1) (.mk kind n t ns ks) m = some m')
    (h : b.drop p = [bl, opn, bl] ++ (jWideL bl (kind == 6) false ns ks ++ ([bl, fin, bl] ++ rest))) (ho : jBlank opn = false) : ∃ q, jMany b kind fin (some val) (p + 1) (m + 1) = .ok (.mk kind n t ns ks, q, m') ∧ jBlanks b q = jBlanks b (p + ((jWideL bl (kind == 6) false ns ks).length + 6)) := by
  rw [JGood] at hg
  obtain ⟨g1, g2, g3, g4, g5, g6, -, -, -, -, g7⟩ := hg
  obtain rfl := g3 (by omega)
  obtain rfl := g4 (by omega)
  obtain ⟨e1, e2, e3, e4⟩ := sign_at hb h ho
  have hfin : jBlank fin = false := by rcases hk with ⟨_, rfl⟩ | ⟨_, rfl⟩ <;> decide
  rw [jRight] at hr
  split at hr
  · cases hr
  rw [if_neg (by omega)] at hr
  split at hr
  · cases hr
  rename_i hlen
  have hl6 : kind = 6 → ns.length = ks.length := fun h6 => Decidable.byContradiction fun hh => hlen ⟨h6, hh⟩
  unfold jMany
  simp only []
  rw [show p + 1 + 1 = p + 2 from rfl, e3]
  cases ks with
  | nil =>
    have hns : ns = [] := by
      by_cases h6 : kind = 6
      · exact List.eq_nil_of_length_eq_zero (hl6 h6)
      · exact g5 h6
    subst hns
    rw [jWideL, List.nil_append] at e4
    rw [jWideL]
    obtain ⟨f1, f2, f3, _⟩ := sign_at hb e4 hfin
    rw [jRightL] at hr
    injection hr with hr
    rw [f1, jNext, f2]
    simp only []
    rw [if_pos trivial, hr]
    exact ⟨_, rfl, f3⟩
  | cons v vs =>
    obtain ⟨c, hc, hc1, hc2⟩ := jWideL_next hb e4
    have hge := jWideL_ge (bl := bl) (v :: vs) (kind == 6) false ns
    have hbl := congrArg List.length e4
    simp only [List.length_drop, List.length_append, List.length_cons] at hbl hge
    rw [jNext, hc]
    simp only []
    rw [if_neg (by rcases hk with ⟨_, rfl⟩ | ⟨_, rfl⟩; exact hc1; exact hc2), jManyL_wide hb hk hv (v :: vs) ns [] [] [] (p + 3) (m + 1) m' _ L rest (by simp) g7 hl6 g5 (fun _ => rfl) hr e4 (by simp only [List.length_cons]; omega)]
    simp only [List.nil_append]
    refine ⟨_, rfl, ?_⟩
    have e5 := drop_app e4
    have e6 : b.drop (p + 3 + (jWideL bl (kind == 6) false ns (v :: vs)).length + 2) = bl :: rest := drop_cons (drop_cons e5)
    rw [jB_go e6 hb]
    congr 1
    omega
theorem jValue_wide (hb : jBlank bl = true) : ∀ (d : Nat), ReadW b bl d (jValue b d)
  | d, .mk k n t ns ks, p, m, m', L, rest, hg, hr, h, hrest => by
    by_cases hbd : jBad k n t m
    · rw [jRight_bad hbd] at hr; cases hr
    have h0 : ¬ k < 0 := fun hh => hbd (.inr (.inl hh))
    by_cases hk : k < 5
    · rw [jRight_leaf hbd hk] at hr
      injection hr with hr
      rw [jWide, if_pos ⟨by omega, hk⟩] at h ⊢
      have hgs := hg
      rw [JGood] at hgs
      obtain rfl := hgs.2.2.2.2.1 (by omega)
      obtain rfl := hgs.2.2.2.2.2.1 hk
      obtain ⟨c, l, hcl, hc, _⟩ := jFull_head k n t [] []
      have h' : b.drop p = c :: (l ++ rest) := by rw [h, hcl]; rfl
      rw [← hr, jB_stay h' hc]
      refine ⟨_, ?_, rfl⟩
      cases d <;> (rw [jValue]; exact jLeaf_written hg hbd hk h hrest)
    · cases d with
      | zero => rw [jRight, if_neg hbd, if_neg hk] at hr; cases hr
      | succ d =>
        have hm : m ≠ 4096 := fun h => hbd (.inl (by omega))
        have hk6 : k ≤ 6 := Decidable.byContradiction fun hh => hbd (.inr (.inr (.inl (by omega))))
        have ih := jValue_wide hb d
        rw [jValue, jValueW]
        rcases (by omega : k = 5 ∨ k = 6) with rfl | rfl
        · have hf : jWide bl (.mk 5 n t ns ks) = [bl, 91, bl] ++ (jWideL bl ((5 : Int) == 6) false ns ks ++ [bl, 93, bl]) := by rw [jWide, if_neg (by omega), if_neg (by omega)]; simp
          rw [hf, List.append_assoc, List.append_assoc] at h
          obtain ⟨e1, e2, _⟩ := sign_at hb h (by decide)
          rw [hf, e1, e2]
          simp only []
          rw [if_neg hm, if_neg (by decide), if_neg (by decide), if_neg (by decide), if_neg (by decide), if_neg (by decide), if_pos trivial]
          obtain ⟨q, f1, f2⟩ := jMany_wide hb (.inl ⟨rfl, rfl⟩) ih hg hr h (by decide)
          refine ⟨q, f1, f2.trans ?_⟩
          congr 1
          simp only [List.length_append, List.length_cons, List.length_nil]
          omega
        · have hf : jWide bl (.mk 6 n t ns ks) = [bl, 123, bl] ++ (jWideL bl ((6 : Int) == 6) false ns ks ++ [bl, 125, bl]) := by rw [jWide, if_neg (by omega), if_pos rfl]; simp
          rw [hf, List.append_assoc, List.append_assoc] at h
          obtain ⟨e1, e2, _⟩ := sign_at hb h (by decide)
          rw [hf, e1, e2]
          simp only []
          rw [if_neg hm, if_neg (by decide), if_neg (by decide), if_neg (by decide), if_neg (by decide), if_neg (by decide), if_neg (by decide), if_pos trivial]
          obtain ⟨q, f1, f2⟩ := jMany_wide hb (.inr ⟨rfl, rfl⟩) ih hg hr h (by decide)
          refine ⟨q, f1, f2.trans ?_⟩
          congr 1
          simp only [List.length_append, List.length_cons, List.length_nil]
          omega
end
/-- What is written with blanks about each sign is read as that value. -/
theorem jParse_wide {bl : UInt8} (hb : jBlank bl = true) {v : JV} {L x : Nat} (hg : JGood L v) (hr : jRight 16 v 0 = some x) (hl : (jWide bl v).length ≤ 65500) : jParse ([bl] ++ jWide bl v ++ [bl, 32]) = .ok v := by
  obtain ⟨B, hB⟩ : ∃ B, B = [bl] ++ jWide bl v ++ [bl, 32] := ⟨_, rfl⟩
  rw [← hB]
  have hlen : B.length = (jWide bl v).length + 3 := by rw [hB]; simp only [List.length_append, List.length_cons, List.length_nil]; omega
  have h0 : B.drop 0 = bl :: (jWide bl v ++ [bl, 32]) := by rw [hB]; simp
  have h1 : B.drop 1 = jWide bl v ++ [bl, 32] := drop_cons h0
  obtain ⟨q, e1, e2⟩ := jValue_wide hb 16 v 1 0 x L [bl, 32] hg hr h1 (fun c hc => by injection hc with hc; rw [← hc]; exact blank_num hb)
  have h2 := drop_app h1
  have h3 : B.drop (1 + (jWide bl v).length + 1) = [32] := drop_cons h2
  unfold jParse
  rw [if_neg (by omega), jB_go h0 hb, Nat.zero_add, e1]
  simp only []
  rw [e2, jB_go h2 hb, jB_go h3 (by decide), jBlanks_end (by omega), if_neg (by omega)]
end Go.Proofs.YtdekogmegdhjoaaDoor

namespace Go.Proofs.YtdekogmegdhjoaaDoor
open Go.RowKit

def jCutL (f : JV → Nat → JV × Nat) : List JV → Nat → List JV × Nat
  | [], m => ([], m)
  | _ :: _, 0 => ([], 0)
  | v :: vs, m + 1 => ((f v m).1 :: (jCutL f vs (f v m).2).1, (jCutL f vs (f v m).2).2)
/-- A value, so deep, of so many kids at most; how many may still come. -/
def jCutN : Nat → JV → Nat → JV × Nat
  | 0, .mk k n t ns _, m => (.mk k n t ns [], m)
  | d + 1, .mk k n t ns ks, m => (.mk k n t ns (jCutL (jCutN d) ks m).1, (jCutL (jCutN d) ks m).2)
theorem jCutL_le {f : JV → Nat → JV × Nat} (hf : ∀ v m, (f v m).2 ≤ m) : ∀ (ks : List JV) (m : Nat), (jCutL f ks m).2 ≤ m
  | [], m => Nat.le_refl _
  | _ :: _, 0 => Nat.le_refl _
  | v :: vs, m + 1 => by
    rw [jCutL]
    have h1 := jCutL_le hf vs (f v m).2
    have h2 := hf v m
    simp only []
    omega
theorem jCutN_le : ∀ (d : Nat) (v : JV) (m : Nat), (jCutN d v m).2 ≤ m
  | 0, .mk k n t ns ks, m => by rw [jCutN]; exact Nat.le_refl _
  | d + 1, .mk k n t ns ks, m => by rw [jCutN]; exact jCutL_le (jCutN_le d) ks m
theorem jCutL_step {f : JV → Nat → JV × Nat} {ks ys : List JV} {i m m' : Nat} {v : JV} (hv : ks[i]? = some v) (h : jCutL f ks m = (ys ++ (jCutL f (ks.drop i) (m' + 1)).1, (jCutL f (ks.drop i) (m' + 1)).2)) :
    jCutL f ks m = (ys ++ [(f v m').1] ++ (jCutL f (ks.drop (i + 1)) (f v m').2).1, (jCutL f (ks.drop (i + 1)) (f v m').2).2) := by
  rw [h, List.drop_eq_getElem_cons (List.getElem?_eq_some_iff.1 hv).1, (List.getElem?_eq_some_iff.1 hv).2, jCutL]
  simp
theorem jCutL_zero {f : JV → Nat → JV × Nat} (ks : List JV) : jCutL f ks 0 = ([], 0) := by cases ks <;> rfl
mutual
/-- A value that was laid anew of one that came in: its names read as they came in, in blocks below B; of its kids the entries tell. -/
def VC (w : World) (B : Nat) : JV → List Value → List Ent → Prop
  | .mk k n t ns ks, cs, es => ∃ (An : Option Addr) (nn cn : Nat) (Ak : Option Addr) (nk ck : Nat) (xs : List Value) (TE : List Ent), nn ≤ cn ∧ nk ≤ ck ∧
      cs = vlL k n ⟨t.toArray⟩ (.slice An nn cn) (.slice Ak nk ck) ∧ Rd w (· < B) An 1 nn (ns.map strv) ∧ es = .rd Ak 5 nk xs :: TE ∧ VCL w B ks xs TE
def VCL (w : World) (B : Nat) : List JV → List Value → List Ent → Prop
  | [], xs, TE => xs = [] ∧ TE = []
  | v :: vs, xs, TE => ∃ (cs ys : List Value) (E1 E2 : List Ent), xs = cs ++ ys ∧ TE = E1 ++ E2 ∧ VC w B v cs E1 ∧ VCL w B vs ys E2
end
section
variable {w w' : World} {B : Nat}
theorem VC.mk_ {k n : Int} {t : List UInt8} {ns : List (List UInt8)} {ks : List JV} {An Ak : Option Addr} {nn cn nk ck : Nat} {xs : List Value} {TE : List Ent} (h1 : nn ≤ cn) (h2 : nk ≤ ck) (hr : Rd w (· < B) An 1 nn (ns.map strv)) (h : VCL w B ks xs TE) :
    VC w B (.mk k n t ns ks) (vlL k n ⟨t.toArray⟩ (.slice An nn cn) (.slice Ak nk ck)) (.rd Ak 5 nk xs :: TE) := by
  unfold VC
  exact ⟨_, _, _, _, _, _, _, _, h1, h2, rfl, hr, rfl, h⟩
theorem VC.len {v : JV} {cs : List Value} {es : List Ent} (h : VC w B v cs es) : cs.length = 5 := by
  cases v
  unfold VC at h
  obtain ⟨_, _, _, _, _, _, _, _, _, _, rfl, _⟩ := h
  rfl
theorem VC.one {v : JV} {cs : List Value} {es : List Ent} (h : VC w B v cs es) : ∀ u ∈ cs, u.oneCell' = true := by
  cases v
  unfold VC at h
  obtain ⟨_, _, _, _, _, _, _, _, _, _, rfl, _⟩ := h
  exact vlL_one
theorem VCL.nil : VCL w B [] [] [] := by unfold VCL; exact ⟨rfl, rfl⟩
theorem VCL.snoc : ∀ {ks : List JV} {v : JV} {xs cs : List Value} {TE es : List Ent}, VCL w B ks xs TE → VC w B v cs es → VCL w B (ks ++ [v]) (xs ++ cs) (TE ++ es)
  | [], v, xs, cs, TE, es, h, hv => by
    unfold VCL at h
    obtain ⟨rfl, rfl⟩ := h
    rw [List.nil_append, List.nil_append, List.nil_append, VCL]
    exact ⟨cs, [], es, [], by simp, by simp, hv, VCL.nil⟩
  | k :: ks, v, xs, cs, TE, es, h, hv => by
    rw [VCL] at h
    obtain ⟨c1, ys, E1, E2, rfl, rfl, h1, h2⟩ := h
    rw [List.cons_append, VCL]
    exact ⟨c1, ys ++ cs, E1, E2 ++ es, by simp, by simp, h1, VCL.snoc h2 hv⟩
theorem VCL.len : ∀ {ks : List JV} {xs : List Value} {TE : List Ent}, VCL w B ks xs TE → xs.length = ks.length * 5
  | [], xs, TE, h => by unfold VCL at h; rw [h.1]; rfl
  | k :: ks, xs, TE, h => by
    rw [VCL] at h
    obtain ⟨c1, ys, E1, E2, rfl, rfl, h1, h2⟩ := h
    rw [List.length_append, h1.len, VCL.len h2, List.length_cons]
    omega
mutual
theorem VC.keep (hk : ∀ k, k < B → w'.heap[k]? = w.heap[k]?) : ∀ (v : JV) {cs : List Value} {es : List Ent}, VC w B v cs es → VC w' B v cs es
  | .mk k n t ns ks, cs, es, h => by
    rw [VC] at h ⊢
    obtain ⟨An, nn, cn, Ak, nk, ck, xs, TE, h1, h2, rfl, hr, rfl, h3⟩ := h
    exact ⟨An, nn, cn, Ak, nk, ck, xs, TE, h1, h2, rfl, hr.same hk, rfl, VCL.keep hk ks h3⟩
theorem VCL.keep (hk : ∀ k, k < B → w'.heap[k]? = w.heap[k]?) : ∀ (vs : List JV) {xs : List Value} {TE : List Ent}, VCL w B vs xs TE → VCL w' B vs xs TE
  | [], xs, TE, h => by rw [VCL] at h ⊢; exact h
  | v :: vs, xs, TE, h => by
    rw [VCL] at h ⊢
    obtain ⟨cs, ys, E1, E2, rfl, rfl, h1, h2⟩ := h
    exact ⟨cs, ys, E1, E2, rfl, rfl, VC.keep hk v h1, VCL.keep hk vs h2⟩
end
mutual
theorem VC.rd {S : Nat → Prop} (hS : ∀ k, k < B → S k) (hk : ∀ k, k < B → w'.heap[k]? = w.heap[k]?) : ∀ (v : JV) {cs : List Value} {es : List Ent}, VC w B v cs es → (∀ e ∈ es, e.holds w' ∧ ∀ b, e.block = some b → S b) → VRd w' S v cs
  | .mk k n t ns ks, cs, es, h, hh => by
    rw [VC] at h
    obtain ⟨An, nn, cn, Ak, nk, ck, xs, TE, h1, h2, rfl, hr, rfl, h3⟩ := h
    rw [VRd]
    exact ⟨An, nn, cn, Ak, nk, ck, xs, h1, h2, rfl, (hr.same hk).mono hS, rd_of_ent (hh _ (by simp)).1 (hh _ (by simp)).2, VCL.rd hS hk ks h3 fun e he => hh e (by simp [he])⟩
theorem VCL.rd {S : Nat → Prop} (hS : ∀ k, k < B → S k) (hk : ∀ k, k < B → w'.heap[k]? = w.heap[k]?) : ∀ (vs : List JV) {xs : List Value} {TE : List Ent}, VCL w B vs xs TE → (∀ e ∈ TE, e.holds w' ∧ ∀ b, e.block = some b → S b) → VRdL w' S vs xs
  | [], xs, TE, h, _ => by rw [VCL] at h; rw [VRdL]; exact h.1
  | v :: vs, xs, TE, h, hh => by
    rw [VCL] at h
    obtain ⟨cs, ys, E1, E2, rfl, rfl, h1, h2⟩ := h
    rw [VRdL]
    exact ⟨cs, ys, rfl, VC.rd hS hk v h1 fun e he => hh e (by simp [he]), VCL.rd hS hk vs h2 fun e he => hh e (by simp [he])⟩
end
/-- A value of a frame, read in its world. -/
theorem VC.rdF {X : List Nat} {w0 : World} {v : JV} {cs : List Value} {es' es : List Ent} (h : VC w B v cs es') (hF : Fr X w0 w' es) (hB : B ≤ w'.heap.size) (hb : Below B w w') (hs : ∀ e ∈ es', e ∈ es) : VRd w' (· < w'.heap.size) v cs :=
  VC.rd (fun _ h => Nat.lt_of_lt_of_le h hB) (fun k hk => hb.block k hk) v h fun e he => by
    obtain ⟨i, hi⟩ := List.mem_iff_getElem?.1 (hs e he)
    exact ⟨hF.holds i e hi, fun b hb => Ent.lt (hF.holds i e hi) hb⟩
end
end Go.Proofs.YtdekogmegdhjoaaDoor
