/-
  Layer 6, plain law: what is written of a bare value that is right is read as that value. No program is named here.
  Layer 6, plain law: a value that is right is no deeper than it may be. No program is named here.
  Layer 6, plain law: a fault has a number. No program is named here.
  The walk of the document's Same.
  Layer 6: the law JsonTwice, walked.
  Layer 6 in plain words: lists and objects in one another; a list of many values.
-/
import Derived.Test.YtdekogmegdhjoaaDoorM16
import Derived.Test.YtdekogmegdhjoaaDoorM01
import Derived.Deep.QuietTactic
import Derived.BigQuiet
import Derived.Test.YtdekogmegdhjoaaDoorM12
import Derived.Test.YtdekogmegdhjoaaDoorM07
namespace Go.Proofs.YtdekogmegdhjoaaDoor
open Go.Lib
set_option linter.unusedSimpArgs false
set_option linter.unusedVariables false

theorem jFullL_ge : ∀ (ks : List JV) (obj more : Bool) (ns : List (List UInt8)), ks.length ≤ (jFullL obj more ns ks).length
  | [], _, _, _ => Nat.zero_le _
  | .mk k n t ns' ks' :: vs, obj, more, ns => by
    obtain ⟨c, l, h, _⟩ := jFull_head k n t ns' ks'
    have := jFullL_ge vs obj true ns.tail
    rw [jFullL, h]
    simp only [List.length_append, List.length_cons]
    omega
theorem jMany_written {b : List UInt8} {kind n : Int} {fin opn : UInt8} {d : Nat} {val : Nat → Nat → JR (JV × Nat × Nat)} {t : List UInt8} {ns : List (List UInt8)} {ks : List JV} {p m m' L : Nat} {rest : List UInt8} (hk : kind = 5 ∧ fin = 93 ∨ kind = 6 ∧ fin = 125) (hv : ReadOk b d val) (hg : JGood L (.mk kind n t ns ks)) (hr : jRight (d + 1) (.mk kind n t ns ks) m = some m')
    (h : b.drop p = [opn] ++ (jFullL (kind == 6) false ns ks ++ (fin :: rest))) : jMany b kind fin (some val) p (m + 1) = .ok (.mk kind n t ns ks, p + ((jFullL (kind == 6) false ns ks).length + 2), m') := by
  rw [JGood] at hg
  obtain ⟨g1, g2, g3, g4, g5, g6, -, -, -, -, g7⟩ := hg
  obtain rfl := g3 (by omega)
  obtain rfl := g4 (by omega)
  have hd : b.drop (p + 1) = jFullL (kind == 6) false ns ks ++ (fin :: rest) := drop_app (x := [opn]) h
  have hfin : jBlank fin = false := by rcases hk with ⟨_, rfl⟩ | ⟨_, rfl⟩ <;> decide
  rw [jRight] at hr
  split at hr
  · cases hr
  rw [if_neg (by omega)] at hr
  split at hr
  · cases hr
  rename_i hlen
  have hl6 : kind = 6 → ns.length = ks.length := fun h6 => Decidable.byContradiction fun hh => hlen ⟨h6, hh⟩
  unfold jMany
  simp only []
  cases ks with
  | nil =>
    have hns : ns = [] := by
      by_cases h6 : kind = 6
      · exact List.eq_nil_of_length_eq_zero (hl6 h6)
      · exact g5 h6
    subst hns
    rw [jFullL] at hd ⊢
    have hx : b[p + 1]? = some fin := by simpa using at_drop hd 0
    rw [jRightL] at hr
    injection hr with hr
    rw [jBlanks_stay hx hfin, jNext, hx]
    simp only []
    rw [if_pos trivial, hr]
    rfl
  | cons v vs =>
    obtain ⟨c, l, hcl, hc, hc1, hc2⟩ := @jFullL_head (kind == 6) ns v vs
    have hx : b[p + 1]? = some c := by
      have := at_drop hd 0
      rw [hcl] at this
      simpa using this
    have hge := jFullL_ge (v :: vs) (kind == 6) false ns
    have hbl := congrArg List.length hd
    simp only [List.length_drop, List.length_append, List.length_cons] at hbl hge
    rw [jBlanks_stay hx hc, jNext, hx]
    simp only []
    rw [if_neg (by rcases hk with ⟨_, rfl⟩ | ⟨_, rfl⟩; exact hc1; exact hc2), jManyL_written hk hv (v :: vs) ns [] [] [] (p + 1) (m + 1) m' _ L rest (by simp) g7 hl6 g5 (fun _ => rfl) hr hd (by simp only [List.length_cons]; omega)]
    simp only [List.nil_append]
    congr 2
    congr 1
    omega
theorem jValue_written {b : List UInt8} : ∀ (d : Nat), ReadOk b d (jValue b d)
  | d, .mk k n t ns ks, p, m, m', L, rest, hg, hr, h, hrest => by
    by_cases hb : jBad k n t m
    · rw [jRight_bad hb] at hr; cases hr
    by_cases hk : k < 5
    · rw [jRight_leaf hb hk] at hr
      injection hr with hr
      rw [← hr]
      cases d <;> (rw [jValue]; exact jLeaf_written hg hb hk h hrest)
    · cases d with
      | zero => rw [jRight, if_neg hb, if_neg hk] at hr; cases hr
      | succ d =>
        have hm : m ≠ 4096 := fun h => hb (.inl (by omega))
        have hk6 : k ≤ 6 := Decidable.byContradiction fun hh => hb (.inr (.inr (.inl (by omega))))
        have ih := jValue_written (b := b) d
        rw [jValue, jValueW]
        rcases (by omega : k = 5 ∨ k = 6) with rfl | rfl
        · have hf : jFull (.mk 5 n t ns ks) = [91] ++ (jFullL ((5 : Int) == 6) false ns ks ++ [93]) := by rw [jFull]; rfl
          rw [hf, List.append_assoc, List.append_assoc] at h
          rw [hf, show b[p]? = some 91 by simpa using at_drop h 0]
          simp only []
          rw [if_neg hm, if_neg (by decide), if_neg (by decide), if_neg (by decide), if_neg (by decide), if_neg (by decide), if_pos trivial, jMany_written (.inl ⟨rfl, rfl⟩) ih hg hr h]
          simp only [List.length_append, List.length_cons, List.length_nil]
          congr 2
          congr 1
          omega
        · have hf : jFull (.mk 6 n t ns ks) = [123] ++ (jFullL ((6 : Int) == 6) false ns ks ++ [125]) := by rw [jFull]; rfl
          rw [hf, List.append_assoc, List.append_assoc] at h
          rw [hf, show b[p]? = some 123 by simpa using at_drop h 0]
          simp only []
          rw [if_neg hm, if_neg (by decide), if_neg (by decide), if_neg (by decide), if_neg (by decide), if_neg (by decide), if_neg (by decide), if_pos trivial, jMany_written (.inr ⟨rfl, rfl⟩) ih hg hr h]
          simp only [List.length_append, List.length_cons, List.length_nil]
          congr 2
          congr 1
          omega
/-- What is written of a bare value that is right is read as that value. -/
theorem jParse_written {v : JV} {L x : Nat} (hg : JGood L v) (hr : jRight 16 v 0 = some x) (hl : (jFull v).length ≤ 65536) : jParse (jFull v) = .ok v := by
  have h := jValue_written (b := jFull v) 16 v 0 0 x L [] hg hr (by simp) (fun c hc => by cases hc)
  have hb : jBlanks (jFull v) 0 = 0 := by
    obtain ⟨k, n, t, ns, ks⟩ := v
    obtain ⟨c, l, hcl, hc, _⟩ := jFull_head k n t ns ks
    exact jBlanks_stay (by rw [hcl]; rfl) hc
  unfold jParse
  rw [if_neg (by omega), hb, h]
  simp only []
  have := jBlanks_ge (jFull v) (0 + (jFull v).length)
  rw [if_neg (by omega)]
end Go.Proofs.YtdekogmegdhjoaaDoor

namespace Go.Proofs.YtdekogmegdhjoaaDoor
set_option linter.unusedSimpArgs false
set_option linter.unusedVariables false

theorem jCutL_right {f : JV → Nat → Option Nat} {D L : Nat} (hf : ∀ v m x, JGood L v → f v m = some x → jCut D v = v) {obj : Bool} : ∀ (ks : List JV) (seen ns : List (List UInt8)) (m x : Nat), JGoodL L ks → jRightL f obj seen ns ks m = some x → ks.map (jCut D) = ks
  | [], _, _, _, _, _, _ => rfl
  | v :: vs, seen, ns, m, x, hg, h => by
    rw [JGoodL] at hg
    rw [jRightL] at h
    split at h
    · cases h
    · cases hv : f v m with
      | none => rw [hv] at h; cases h
      | some m' =>
        rw [hv] at h
        rw [List.map_cons, hf v m m' hg.1 hv, jCutL_right hf vs _ _ m' x hg.2 h]
/-- A value that is right is no deeper than it may be. -/
theorem jCut_right : ∀ (d D L : Nat) (v : JV) (m x : Nat), d ≤ D → JGood L v → jRight d v m = some x → jCut D v = v
  | d, D, L, .mk k n t ns ks, m, x, hD, hg, hr => by
    have hg' := hg
    rw [JGood] at hg
    obtain ⟨-, -, -, -, -, g6, -, -, -, -, g7⟩ := hg
    by_cases hk : k < 5
    · obtain rfl := g6 hk
      cases D <;> rw [jCut] <;> rfl
    · cases d with
      | zero =>
        rw [jRight, if_neg hk] at hr
        split at hr <;> cases hr
      | succ d =>
        obtain ⟨D, rfl⟩ : ∃ E, D = E + 1 := ⟨D - 1, by omega⟩
        rw [jRight, if_neg hk] at hr
        split at hr
        · cases hr
        split at hr
        · cases hr
        rw [jCut, jCutL_right (fun v m x hg hv => jCut_right d D L v m x (by omega) hg hv) ks _ _ _ _ g7 hr]
end Go.Proofs.YtdekogmegdhjoaaDoor

namespace Go.Proofs.YtdekogmegdhjoaaDoor
set_option linter.unusedSimpArgs false
set_option linter.unusedVariables false

/-- A fault has a number. -/
def JEr {α : Type} (r : JR α) : Prop := ∀ x, r = .error x → x.2 ≠ 0
theorem JEr.ok {α : Type} {v : α} : JEr (.ok v) := fun _ h => by cases h
theorem JEr.err {α : Type} {p e : Nat} (h : e ≠ 0) : JEr (.error (p, e) : JR α) := fun _ h' => by injection h' with h'; subst h'; exact h
theorem JEr.up {α β : Type} {r : JR α} {x : Nat × Nat} (h : JEr r) (hx : r = .error x) : JEr (.error x : JR β) := fun y h' => by injection h' with h'; subst h'; exact h _ hx
theorem jNext_er (b : List UInt8) (p : Nat) : JEr (jNext b p) := by
  unfold jNext
  split
  · exact .err (by decide)
  · exact .ok
theorem jWord_er (b : List UInt8) : ∀ (w : List UInt8) (p : Nat), JEr (jWord b w p)
  | [], p => .ok
  | c :: w, p => by
    rw [jWord]
    split
    · exact .err (by decide)
    · split
      · exact jWord_er b w _
      · exact .err (by decide)
theorem jNumber_er (b : List UInt8) (p : Nat) : JEr (jNumber b p) := by
  unfold jNumber
  simp only []
  split
  · exact .err (by decide)
  · exact .ok
theorem jUnit_er (b : List UInt8) (s : Nat) : ∀ (k n p : Nat), JEr (jUnit b s k n p)
  | 0, _, _ => .ok
  | k + 1, n, p => by
    rw [jUnit]
    split
    · exact .err (by decide)
    · split
      · exact .err (by decide)
      · exact jUnit_er b s k _ _
theorem jEscape_er (b : List UInt8) (p : Nat) : JEr (jEscape b p) := by
  unfold jEscape
  split
  · exact .err (by decide)
  rename_i c _
  by_cases h1 : c = 34 ∨ c = 92 ∨ c = 47
  · rw [if_pos h1]; exact .ok
  rw [if_neg h1]
  by_cases h2 : c = 98
  · rw [if_pos h2]; exact .ok
  rw [if_neg h2]
  by_cases h2 : c = 102
  · rw [if_pos h2]; exact .ok
  rw [if_neg h2]
  by_cases h2 : c = 110
  · rw [if_pos h2]; exact .ok
  rw [if_neg h2]
  by_cases h2 : c = 114
  · rw [if_pos h2]; exact .ok
  rw [if_neg h2]
  by_cases h2 : c = 116
  · rw [if_pos h2]; exact .ok
  rw [if_neg h2]
  by_cases h2 : c = 117
  · rw [if_pos h2]
    split
    · rename_i h; exact (jUnit_er _ _ _ _ _).up h
    split
    · split
      · exact .err (by decide)
      split
      · exact .err (by decide)
      split
      · exact .err (by decide)
      split
      · exact .err (by decide)
      split
      · rename_i h; exact (jUnit_er _ _ _ _ _).up h
      split
      · exact .ok
      · exact .err (by decide)
    · split
      · exact .err (by decide)
      · exact .ok
  · rw [if_neg h2]; exact .err (by decide)
theorem jTextL_er (b : List UInt8) : ∀ (f p : Nat) (out : List UInt8), JEr (jTextL b f p out)
  | 0, _, _ => .err (by decide)
  | f + 1, p, out => by
    rw [jTextL]
    repeat' split
    all_goals first
      | exact .ok
      | exact .err (by decide)
      | exact (jEscape_er _ _).up (by assumption)
      | exact jTextL_er b f _ _
theorem jText_er (b : List UInt8) (p : Nat) : JEr (jText b p) := by
  unfold jText
  split
  · exact (jWord_er _ _ _).up (by assumption)
  · exact jTextL_er _ _ _ _
theorem jName_er (b : List UInt8) (ns : List (List UInt8)) (p : Nat) : JEr (jName b ns p) := by
  unfold jName
  repeat' split
  all_goals first
    | exact .ok
    | exact .err (by decide)
    | exact (jText_er _ _).up (by assumption)
    | exact (jWord_er _ _ _).up (by assumption)
theorem jManyL_er (b : List UInt8) (kind : Int) (fin : UInt8) {val : Nat → Nat → JR (JV × Nat × Nat)} (hv : ∀ p m, JEr (val p m)) : ∀ (f p m : Nat) (ns : List (List UInt8)) (ks : List JV), JEr (jManyL b kind fin val f p m ns ks)
  | 0, _, _, _, _ => .err (by decide)
  | f + 1, p, m, ns, ks => by
    rw [jManyL]
    have hn : JEr (if kind = 6 then jName b ns p else .ok ([], p)) := by
      split
      · exact jName_er _ _ _
      · exact .ok
    split
    · exact hn.up (by assumption)
    split
    · exact (hv _ _).up (by assumption)
    split
    · exact (jNext_er _ _).up (by assumption)
    split
    · exact .ok
    split
    · exact (jWord_er _ _ _).up (by assumption)
    · exact jManyL_er b kind fin hv f _ _ _ _
theorem jMany_er (b : List UInt8) (kind : Int) (fin : UInt8) {val : Option (Nat → Nat → JR (JV × Nat × Nat))} (hv : ∀ f, val = some f → ∀ p m, JEr (f p m)) (p m : Nat) : JEr (jMany b kind fin val p m) := by
  unfold jMany
  split
  · exact .err (by decide)
  · split
    · exact (jNext_er _ _).up (by assumption)
    · split
      · exact .ok
      · exact jManyL_er b kind fin (hv _ rfl) _ _ _ _ _
theorem jLit_er (b w : List UInt8) (v : JV) (p m : Nat) : JEr (jLit b w v p m) := by
  unfold jLit
  split
  · exact (jWord_er _ _ _).up (by assumption)
  · exact .ok
theorem jValueW_er (b : List UInt8) {val : Option (Nat → Nat → JR (JV × Nat × Nat))} (hv : ∀ f, val = some f → ∀ p m, JEr (f p m)) (p m : Nat) : JEr (jValueW b val p m) := by
  unfold jValueW
  split
  · exact .err (by decide)
  repeat' split
  all_goals first
    | exact .ok
    | exact .err (by decide)
    | exact jLit_er _ _ _ _ _
    | exact (jNumber_er _ _).up (by assumption)
    | exact (jText_er _ _).up (by assumption)
    | exact jMany_er _ _ _ hv _ _
theorem jValue_er (b : List UInt8) : ∀ (d p m : Nat), JEr (jValue b d p m)
  | 0, p, m => by rw [jValue]; exact jValueW_er b (fun f h => by cases h) p m
  | d + 1, p, m => by rw [jValue]; exact jValueW_er b (fun f h => by injection h with h; subst h; exact jValue_er b d) p m
theorem jParse_er (b : List UInt8) : JEr (jParse b) := by
  unfold jParse
  split
  · exact .err (by decide)
  · split
    · exact (jValue_er _ _ _ _).up (by assumption)
    · split
      · exact .err (by decide)
      · exact .ok
end Go.Proofs.YtdekogmegdhjoaaDoor

namespace Go.Proofs.YtdekogmegdhjoaaDoor
open Go.RowKit

set_option maxRecDepth 20000 in
set_option maxHeartbeats 400000 in
theorem sameB_any (A B : Option Addr) (n m c d : Nat) (l k : List UInt8) (w : World) (hm : n ≤ 9223372036854775807) (hr : Rd w (· < w.heap.size) A 1 n (l.map bv)) (hr2 : Rd w (· < w.heap.size) B 1 m (k.map bv)) :
    Calls Tryd.prog 16 #[.slice A n c, .slice B m d] w fun e w' => e = .returned (.bool (l == k)) ∧ Below w.heap.size w w' := by
  have hl := box hr.bytes_len
  have hk := box hr2.bytes_len
  by_cases hnm : n = m
  · subst hnm
    go_enter Tryd.func16, Tryd.ntmps16
    go_wp2
    go_loopw [5] (fun i wr => ∃ j : Nat, j ≤ n ∧ Box (l.take j = k.take j) ∧ i = .int .i64 j ∧ Below w.heap.size w wr) (fun i _ => n - (intOf i).toNat)
    case atStart => exact ⟨0, by omega, box rfl, rfl, Below.refl _ _⟩
    case round =>
      obtain ⟨j, hj, HT, rfl, hb⟩ := hrel
      by_cases hlt : j < n
      · obtain ⟨ad, x, hA, hx, hcx⟩ := (hr.below hb).atB hlt
        obtain ⟨bd, y, hB, hy, hcy⟩ := (hr2.below hb).atB hlt
        replace hx := box hx
        replace hy := box hy
        clear hr hr2
        subst hA hB
        by_cases hxy : x = y
        · subst hxy
          go_wp2
          go_quiet (fail)
          go_wp2
          go_roundw
          case rel => exact ⟨j + 1, by omega, box (by rw [take_snoc hx.out, take_snoc hy.out, HT.out]), by go_num, below_drewN hb _⟩
          case measure => simp [intOf]; omega
        · have hne : ((x.toNat : Int) != (y.toNat : Int)) = true := by
            simp only [bne_iff_ne, ne_eq]
            intro h; exact hxy (UInt8.toNat_inj.1 (by omega))
          replace hxy := box hxy
          go_wp2
          go_quiet (fail)
          go_wp2
          go_ret
          exact ⟨by rw [beq_false_of_ne (fun h => hxy.out (by have h1 := hx.out; have h2 := hy.out; rw [h, h2] at h1; injection h1 with h1; exact h1.symm))]; rfl, below_drewN hb _⟩
      · go_wp2
        go_ret
        have he : l = k := by
          have := HT.out
          rwa [List.take_of_length_le (by have := hl.out; omega), List.take_of_length_le (by have := hk.out; omega)] at this
        exact ⟨by rw [he, beq_self_eq_true]; rfl, hb⟩
  · have hne : ((n : Int) != (m : Int)) = true := by simp only [bne_iff_ne, ne_eq]; omega
    have hlk : (l == k) = false := beq_false_of_ne (fun h => hnm (by rw [← hl.out, ← hk.out, h]))
    replace hlk := box hlk
    replace hnm := box hnm
    go_enter Tryd.func16, Tryd.ntmps16
    go_wp2
    go_ret
    exact ⟨by rw [hlk.out]; rfl, Below.refl _ _⟩
theorem sameB_self (A B : Option Addr) (n m c d : Nat) (l : List UInt8) (w : World) (hm : n ≤ 9223372036854775807) (hr : Rd w (· < w.heap.size) A 1 n (l.map bv)) (hr2 : Rd w (· < w.heap.size) B 1 m (l.map bv)) :
    Calls Tryd.prog 16 #[.slice A n c, .slice B m d] w fun e w' => e = .returned (.bool true) ∧ Below w.heap.size w w' :=
  (sameB_any A B n m c d l l w hm hr hr2).mono fun e w' h => by rw [beq_self_eq_true] at h; exact h
end Go.Proofs.YtdekogmegdhjoaaDoor

namespace Go.Proofs.YtdekogmegdhjoaaDoor
open Go.RowKit
set_option linter.unusedSimpArgs false

set_option maxRecDepth 20000 in
set_option maxHeartbeats 12800000 in
theorem jsonTwice_any (A : Option Addr) (n c : Nat) (b : List UInt8) (w : World) (hL : LibsAt w.heap.size w) (hnc : n ≤ c) (hn47 : n ≤ 140737488355328) (hr : Rd w (· < w.heap.size) A 1 n (b.map bv)) :
    Calls Tryd.prog 8 #[.slice A n c] w fun e w' => e = .returned (.bool true) ∧ Below w.heap.size w w' := by
  have hF0 := Fr.nil w
  have hp := box (parse_F hF0 hL (Nat.le_refl _) hnc hn47 hr)
  replace hn47 := box hn47
  cases hj : jParse b with
  | error x =>
    have hx2 := jParse_er b x hj
    have hx3 : ((x.2 : Int) != 0) = true := by rw [bne_iff_ne]; omega
    rw [hj] at hp
    have hp' := hp.out
    unfold ParseEndF at hp'
    simp only [] at hp'
    replace hp' := box hp'
    clear hp hx2 hj
    go_enter Tryd.func8, Tryd.ntmps8
    go_wp2_with fail
    refine hp'.out.mono ?_
    rintro e w1 ⟨rfl, hF1⟩
    clear hp'
    go_upto_region 2 with (first | ((with_reducible refine lst (by with_unfolding_all rfl) (wp_falloc hF1 (cs := vl0) (z := .agg (List.toArray (vl0))) rfl (by kernel_rfl) (by with_unfolding_all rfl) ?_)); intro w2 g2 hF2 hz2) | ((with_reducible refine lst (by with_unfolding_all rfl) (wp_fstA0 hF2 (by with_unfolding_all exact ⟨_, _, rfl, rfl, rfl⟩) (by rw [vlL_len]; kernel_rfl) vlL_one vlL_fit vlL_spl ?_)); intro w3 hF3 hz3))
    have ha := box (awake_any _ _ (hF3.below.size) (hL.on hF3.below))
    go_wp2_with fail
    refine ha.out.mono ?_
    rintro e w4 ⟨rfl, hb4⟩
    have hF4 := hF3.call hb4
    clear ha hF3 hF2 hF1
    go_upto_region 3 with fail
    have ha := box (awake_any _ _ (hF4.below.size) (hL.on hF4.below))
    go_wp2_with fail
    refine ha.out.mono ?_
    rintro e w5 ⟨rfl, hb5⟩
    have hF5 := hF4.call hb5
    go_wp2_with fail
    go_ret
    exact ⟨rfl, hF5.below⟩
  | ok v =>
    obtain ⟨⟨x, hri⟩, hg, hfl⟩ := jParse_right hj
    have hsm := hg.sm v
    have htx := hg.tx (by decide) v
    have hcut := jCut_right 16 20 _ v 0 x (by decide) hg hri
    have hw := jWrite_right hri
    have hfl6 : 6 * (jFull v).length ≤ 140737480000000 := by omega
    rw [hj] at hp
    have hp' := hp.out
    unfold ParseEndF at hp'
    simp only [] at hp'
    replace hp' := box hp'
    clear hp hj
    replace hfl := box hfl
    replace hfl6 := box hfl6
    replace hcut := box hcut
    replace hw := box hw
    replace hri := box hri
    go_enter Tryd.func8, Tryd.ntmps8
    go_wp2_with fail
    refine hp'.out.mono ?_
    rintro e w1 ⟨cs, es, rfl, hvt, hF1⟩
    rw [List.append_nil] at hF1
    have hvl := box hvt.len
    have hvo := box hvt.one
    replace hvt := box hvt
    clear hp'
    go_upto_region 2 with (first | ((with_reducible refine lst (by with_unfolding_all rfl) (wp_falloc hF1 (cs := vl0) (z := .agg (List.toArray (vl0))) rfl (by kernel_rfl) (by with_unfolding_all rfl) ?_)); intro w2 g2 hF2 hz2) | ((with_reducible refine lst (by with_unfolding_all rfl) (wp_fstA0 hF2 (by with_unfolding_all exact ⟨_, _, rfl, rfl, rfl⟩) (by rw [hvl.out]; kernel_rfl) hvo.out (by rw [hvl.out]; decide) (spl_all (by rw [hvl.out, vlL_len])) ?_)); intro w3 hF3 hz3))
    clear hF1 hF2
    have ha := box (awake_any _ _ (hF3.below.size) (hL.on hF3.below))
    go_wp2_with fail
    refine ha.out.mono ?_
    rintro e w4 ⟨rfl, hb4⟩
    have hF4 := hF3.call hb4
    clear ha hF3
    go_upto_region 4 with fail
    have hrd := hvt.out.rdF hF4 (by intro e he; simp [he])
    have hwr := box (write_F hF4 (hL.on hF4.below) hF4.below.size hrd hsm htx hfl6.out)
    go_wp2_with (first | (with_reducible refine lst (by with_unfolding_all rfl) (wp_fldA0 hF4 Tryd.underlying27 rfl (by with_unfolding_all exact ⟨_, rfl, rfl⟩) (ds := cs) (by rw [hvl.out]; kernel_rfl) (take_all _) ?_)))
    refine hwr.out.mono ?_
    rintro e w5 ⟨A5, n5, c5, rfl, hn5, hc5, hF5⟩
    clear hwr hF4 hrd
    by_cases hbig : 65536 < (jFull v).length
    · rw [hw.out, if_pos hbig] at hF5 hn5
      rw [hw.out, if_pos hbig]
      replace hbig := box hbig
      go_wp2_with fail
      go_ret
      exact ⟨rfl, hF5.below⟩
    · rw [hw.out, if_neg hbig] at hF5 hn5
      rw [hw.out, if_neg hbig]
      have hn65 : n5 ≤ 65536 := by rw [hn5]; exact Nat.le_of_not_lt hbig
      have hpw := jParse_written hg hri.out (Nat.le_of_not_lt hbig)
      simp only [] at hF5
      replace hbig := box hbig
      replace hn5 := box hn5
      go_upto_region 7 with fail
      have hp := parse_F hF5 (hL.on hF5.below) hF5.below.size hc5 (by omega) (hF5.rd (i := 0) rfl)
      rw [hpw] at hp
      unfold ParseEndF at hp
      simp only [] at hp
      replace hp := box hp
      replace hn65 := box hn65
      clear hpw
      go_wp2_with fail
      refine hp.out.mono ?_
      rintro e w6 ⟨cs6, es6, rfl, hvt6, hF6⟩
      have hvl6 := box hvt6.len
      have hvo6 := box hvt6.one
      replace hvt6 := box hvt6
      clear hp hF5
      go_upto_region 8 with (first | ((with_reducible refine lst (by with_unfolding_all rfl) (wp_falloc hF6 (cs := vl0) (z := .agg (List.toArray (vl0))) rfl (by kernel_rfl) (by with_unfolding_all rfl) ?_)); intro w7 g7 hF7 hz7) | ((with_reducible refine lst (by with_unfolding_all rfl) (wp_fstA0 hF7 (by with_unfolding_all exact ⟨_, _, rfl, rfl, rfl⟩) (by rw [hvl6.out]; kernel_rfl) hvo6.out (by rw [hvl6.out]; decide) (spl_all (by rw [hvl6.out, vlL_len])) ?_)); intro w8 hF8 hz8))
      clear hF6 hF7
      have hrd := hvt6.out.rdF hF8 (by intro e he; simp [he])
      have hwr := box (write_F hF8 (hL.on hF8.below) hF8.below.size hrd hsm htx hfl6.out)
      go_wp2_with (first | (with_reducible refine lst (by with_unfolding_all rfl) (wp_fldA0 hF8 Tryd.underlying27 rfl (by with_unfolding_all exact ⟨_, rfl, rfl⟩) (ds := cs6) (by rw [hvl6.out]; kernel_rfl) (take_all _) ?_)))
      refine hwr.out.mono ?_
      rintro e w9 ⟨A9, n9, c9, rfl, hn9, hc9, hF9⟩
      clear hwr hF8 hrd
      rw [hw.out, if_neg hbig.out] at hF9 hn9
      rw [hw.out, if_neg hbig.out]
      simp only [] at hF9
      replace hn9 := box hn9
      go_upto_region 9 with fail
      have hFp := (hF9.perm (es' := .rd A9 1 n9 ((jFull v).map bv) :: .blk g7 27 cs6 :: .rd A5 1 n5 ((jFull v).map bv) :: .blk g2 27 cs :: (es6 ++ es)) (((List.perm_middle.trans (List.perm_middle.cons _)).cons _).cons _))
      clear hF9
      have hfr1 := box (fun (w' : World) (es' : List Ent) (hF : Fr [] w w' es') (hs : ∀ e ∈ es, e ∈ es') => from_any 20 v cs w' (by decide) (hvt.out.rdF hF hs) hsm)
      have hfr2 := box (fun (w' : World) (es' : List Ent) (hF : Fr [] w w' es') (hs : ∀ e ∈ es6, e ∈ es') => from_any 20 v cs6 w' (by decide) (hvt6.out.rdF hF hs) hsm)
      have hn65' := hn65.out
      have hsb := box (fun (w' : World) hr1 hr2 => sameB_self A5 A9 n5 n9 c5 c9 (jFull v) w' (by omega) hr1 hr2)
      clear hn65'
      replace hsm := box hsm
      replace htx := box htx
      replace hg := box hg
      have hFd := hFp.drew
      refine wp_region_held (S := fun w' => w'.heap[g7]? = some (.cells (List.toArray cs6) 27 (0, 0)) ∧ w'.heap[g2]? = some (.cells (List.toArray cs) 27 (0, 0))) (by kernel_rfl) ?_
      change wpAnyH _ _ _ _ _ _ _ _ (World.drew _)
      refine wpAnyH_take (i := 0) (v := ?_) (by simp only [List.getElem?_toArray, List.getElem?_cons_zero]; rfl) (by kernel_rfl) (by kernel_rfl) (by kernel_rfl) (by exact fun _ _ _ h => h) (Or.inl ⟨by with_unfolding_all rfl, ?_⟩) ⟨hFd.blk (i := 1) rfl, hFd.blk (i := 3) rfl⟩ ?_
      rotate_left
      · (intro w hSw; (try dsimp only at hSw); go_simp; try with_reducible rfl)
      (try simp only [Act.put, List.setIfInBounds_toArray, List.set_cons_zero, List.set_cons_succ])
      refine wpAnyH_take (i := 1) (v := ?_) (by simp only [List.getElem?_toArray, List.getElem?_cons_zero, List.getElem?_cons_succ]; rfl) (by kernel_rfl) (by kernel_rfl) (by kernel_rfl) (by exact fun _ _ _ h => h) (Or.inl ⟨by with_unfolding_all rfl, ?_⟩) ⟨hFd.blk (i := 1) rfl, hFd.blk (i := 3) rfl⟩ ?_
      rotate_left
      · (intro w hSw; (try dsimp only at hSw); go_simp; try with_reducible rfl)
      (try simp only [Act.put, List.setIfInBounds_toArray, List.set_cons_zero, List.set_cons_succ])
      refine wpAnyH_take (i := 2) (v := ?_) (by simp only [List.getElem?_toArray, List.getElem?_cons_zero, List.getElem?_cons_succ]; rfl) (by kernel_rfl) (by kernel_rfl) (by kernel_rfl) (by exact fun _ _ _ h => h) (Or.inl ⟨by with_unfolding_all rfl, ?_⟩) ⟨hFd.blk (i := 1) rfl, hFd.blk (i := 3) rfl⟩ ?_
      rotate_left
      · (intro w hSw; (try dsimp only at hSw); go_simp; try with_reducible rfl)
      (try simp only [Act.put, List.setIfInBounds_toArray, List.set_cons_zero, List.set_cons_succ])
      refine wpAnyH_take (i := 3) (v := ?_) (by simp only [List.getElem?_toArray, List.getElem?_cons_zero, List.getElem?_cons_succ]; rfl) (by kernel_rfl) (by kernel_rfl) (by kernel_rfl) (by exact fun _ _ _ h => h) (Or.inl ⟨by with_unfolding_all rfl, ?_⟩) ⟨hFd.blk (i := 1) rfl, hFd.blk (i := 3) rfl⟩ ?_
      rotate_left
      · (intro w hSw; (try dsimp only at hSw); go_simp; try with_reducible rfl)
      (try simp only [Act.put, List.setIfInBounds_toArray, List.set_cons_zero, List.set_cons_succ])
      refine wpAnyH_take (i := 4) (v := ?_) (by simp only [List.getElem?_toArray, List.getElem?_cons_zero, List.getElem?_cons_succ]; rfl) (by kernel_rfl) (by kernel_rfl) (by kernel_rfl) (by exact fun _ _ _ h => h) (Or.inl ⟨by with_unfolding_all rfl, ?_⟩) ⟨hFd.blk (i := 1) rfl, hFd.blk (i := 3) rfl⟩ ?_
      rotate_left
      · (intro w hSw; (try dsimp only at hSw); go_simp; try with_reducible rfl)
      (try simp only [Act.put, List.setIfInBounds_toArray, List.set_cons_zero, List.set_cons_succ])
      refine wpAnyH_take (i := 5) (v := ?_) (by simp only [List.getElem?_toArray, List.getElem?_cons_zero, List.getElem?_cons_succ]; rfl) (by kernel_rfl) (by kernel_rfl) (by kernel_rfl) (by exact fun _ _ _ h => h) (Or.inl ⟨by with_unfolding_all rfl, ?_⟩) ⟨hFd.blk (i := 1) rfl, hFd.blk (i := 3) rfl⟩ ?_
      rotate_left
      · (intro w hSw; (try dsimp only at hSw); go_simp; try with_reducible rfl)
      (try simp only [Act.put, List.setIfInBounds_toArray, List.set_cons_zero, List.set_cons_succ])
      refine wpAnyH_take (i := 6) (v := ?_) (by simp only [List.getElem?_toArray, List.getElem?_cons_zero, List.getElem?_cons_succ]; rfl) (by kernel_rfl) (by kernel_rfl) (by kernel_rfl) (by exact fun _ _ _ h => h) (Or.inl ⟨by with_unfolding_all rfl, ?_⟩) ⟨hFd.blk (i := 1) rfl, hFd.blk (i := 3) rfl⟩ ?_
      rotate_left
      · (intro w hSw; (try dsimp only at hSw); go_simp; try with_reducible rfl)
      (try simp only [Act.put, List.setIfInBounds_toArray, List.set_cons_zero, List.set_cons_succ])
      refine wpAnyH_take (i := 7) (by simp only [List.getElem?_toArray, List.getElem?_cons_zero, List.getElem?_cons_succ]; rfl) (by kernel_rfl) (by kernel_rfl) (by kernel_rfl) (by exact fun _ _ _ h => h) (yi_fldA (by with_unfolding_all rfl) (fun _ h => h.2) Tryd.underlying27 rfl (by with_unfolding_all exact ⟨_, rfl, rfl⟩) (ds := cs) (by rw [hvl.out]; kernel_rfl) (take_all _)) ⟨hFd.blk (i := 1) rfl, hFd.blk (i := 3) rfl⟩ ?_
      (try simp only [Act.put, List.setIfInBounds_toArray, List.set_cons_zero, List.set_cons_succ])
      refine wpAnyH_take (i := 9) (by simp only [List.getElem?_toArray, List.getElem?_cons_zero, List.getElem?_cons_succ]; rfl) (by kernel_rfl) (by kernel_rfl) (by kernel_rfl) (by exact fun _ _ _ h => h) (yi_fldA (by with_unfolding_all rfl) (fun _ h => h.1) Tryd.underlying27 rfl (by with_unfolding_all exact ⟨_, rfl, rfl⟩) (ds := cs6) (by rw [hvl6.out]; kernel_rfl) (take_all _)) ⟨hFd.blk (i := 1) rfl, hFd.blk (i := 3) rfl⟩ ?_
      (try simp only [Act.put, List.setIfInBounds_toArray, List.set_cons_zero, List.set_cons_succ])
      refine wpAnyH_ready (rs := [8]) (by kernel_rfl) (by simp) ?_
      refine AllReadyH.cons (by simp only [List.getElem?_toArray, List.getElem?_cons_zero, List.getElem?_cons_succ]; rfl) (fun K hK => ?_) ?_
      · refine stp (by with_unfolding_all rfl) (wp_call Tryd.func15 rfl (by with_unfolding_all rfl) (by with_unfolding_all rfl) (by with_unfolding_all rfl) (hfr1.out _ _ hFd (by intro e he; simp [he])) ?_)
        rintro e w31 ⟨cs31, es31, rfl, hvt31, hv31⟩
        refine ⟨_, rfl, ?_⟩
        have hF31 := hFd.joinR hv31
        simp only [List.cons_append] at hF31
        rw [hcut.out] at hvt31
        refine hK.out _ _ (⟨hF31.blk (i := 1) rfl, hF31.blk (i := 3) rfl⟩) (fun _ => ?_)
        clear hK K
        (try simp only [Act.put, List.setIfInBounds_toArray, List.set_cons_zero, List.set_cons_succ])
        refine wpAnyH_ready (rs := [10]) (by kernel_rfl) (by simp) ?_
        refine AllReadyH.cons (by simp only [List.getElem?_toArray, List.getElem?_cons_zero, List.getElem?_cons_succ]; rfl) (fun K hK => ?_) ?_
        · refine stp (by with_unfolding_all rfl) (wp_call Tryd.func15 rfl (by with_unfolding_all rfl) (by with_unfolding_all rfl) (by with_unfolding_all rfl) (hfr2.out _ _ hF31 (by intro e he; simp [he])) ?_)
          rintro e w32 ⟨cs32, es32, rfl, hvt32, hv32⟩
          refine ⟨_, rfl, ?_⟩
          have hF32 := hF31.joinR hv32
          simp only [List.cons_append] at hF32
          rw [hcut.out] at hvt32
          refine hK.out _ _ (⟨hF32.blk (i := 1) rfl, hF32.blk (i := 3) rfl⟩) (fun _ => ?_)
          clear hK K
          (try simp only [Act.put, List.setIfInBounds_toArray, List.set_cons_zero, List.set_cons_succ])
          refine wpAnyH_ready (rs := [11]) (by kernel_rfl) (by simp) ?_
          refine AllReadyH.cons (by simp only [List.getElem?_toArray, List.getElem?_cons_zero, List.getElem?_cons_succ]; rfl) (fun K hK => ?_) ?_
          · refine stp (by with_unfolding_all rfl) (wp_call Tryd.func14 rfl (by with_unfolding_all rfl) (by with_unfolding_all rfl) (by with_unfolding_all rfl) (same_any _ v _ _ _ (Nat.le_refl _) (hvt31.rdF hF32 (by intro e he; simp [he])) (hvt32.rdF hF32 (by intro e he; simp [he])) hsm.out) ?_)
            rintro e w33 ⟨rfl, hb33⟩
            refine ⟨_, rfl, ?_⟩
            have hF33 := hF32.call hb33
            refine hK.out _ _ (⟨hF33.blk (i := 1) rfl, hF33.blk (i := 3) rfl⟩) (fun _ => ?_)
            clear hK K
            (try simp only [Act.put, List.setIfInBounds_toArray, List.set_cons_zero, List.set_cons_succ])
            refine wpAnyH_take (i := 12) (v := ?_) (by simp only [List.getElem?_toArray, List.getElem?_cons_zero, List.getElem?_cons_succ]; rfl) (by kernel_rfl) (by kernel_rfl) (by kernel_rfl) (by exact fun _ _ _ h => h) (Or.inl ⟨by with_unfolding_all rfl, ?_⟩) ⟨hF33.blk (i := 1) rfl, hF33.blk (i := 3) rfl⟩ ?_
            rotate_left
            · (intro w hSw; (try dsimp only at hSw); go_simp; try with_reducible rfl)
            (try simp only [Act.put, List.setIfInBounds_toArray, List.set_cons_zero, List.set_cons_succ])
            refine wpAnyH_take (i := 13) (v := ?_) (by simp only [List.getElem?_toArray, List.getElem?_cons_zero, List.getElem?_cons_succ]; rfl) (by kernel_rfl) (by kernel_rfl) (by kernel_rfl) (by exact fun _ _ _ h => h) (Or.inl ⟨by with_unfolding_all rfl, ?_⟩) ⟨hF33.blk (i := 1) rfl, hF33.blk (i := 3) rfl⟩ ?_
            rotate_left
            · (intro w hSw; (try dsimp only at hSw); go_simp; try with_reducible rfl)
            (try simp only [Act.put, List.setIfInBounds_toArray, List.set_cons_zero, List.set_cons_succ])
            refine wpAnyH_take (i := 14) (v := ?_) (by simp only [List.getElem?_toArray, List.getElem?_cons_zero, List.getElem?_cons_succ]; rfl) (by kernel_rfl) (by kernel_rfl) (by kernel_rfl) (by exact fun _ _ _ h => h) (Or.inl ⟨by with_unfolding_all rfl, ?_⟩) ⟨hF33.blk (i := 1) rfl, hF33.blk (i := 3) rfl⟩ ?_
            rotate_left
            · (intro w hSw; (try dsimp only at hSw); go_simp; try with_reducible rfl)
            (try simp only [Act.put, List.setIfInBounds_toArray, List.set_cons_zero, List.set_cons_succ])
            refine wpAnyH_take (i := 15) (v := ?_) (by simp only [List.getElem?_toArray, List.getElem?_cons_zero, List.getElem?_cons_succ]; rfl) (by kernel_rfl) (by kernel_rfl) (by kernel_rfl) (by exact fun _ _ _ h => h) (Or.inl ⟨by with_unfolding_all rfl, ?_⟩) ⟨hF33.blk (i := 1) rfl, hF33.blk (i := 3) rfl⟩ ?_
            rotate_left
            · (intro w hSw; (try dsimp only at hSw); go_simp; try with_reducible rfl)
            (try simp only [Act.put, List.setIfInBounds_toArray, List.set_cons_zero, List.set_cons_succ])
            refine wpAnyH_ready (rs := [16]) (by kernel_rfl) (by simp) ?_
            refine AllReadyH.cons (by simp only [List.getElem?_toArray, List.getElem?_cons_zero, List.getElem?_cons_succ]; rfl) (fun K hK => ?_) ?_
            · refine stp (by with_unfolding_all rfl) (wp_call Tryd.func16 rfl (by with_unfolding_all rfl) (by with_unfolding_all rfl) (by with_unfolding_all rfl) (hsb.out _ (hF33.rd (i := 2) rfl) (hF33.rd (i := 0) rfl)) ?_)
              rintro e w34 ⟨rfl, hb34⟩
              refine ⟨_, rfl, ?_⟩
              have hF34 := hF33.call hb34
              refine hK.out _ _ (⟨hF34.blk (i := 1) rfl, hF34.blk (i := 3) rfl⟩) (fun _ => ?_)
              clear hK K
              (try simp only [Act.put, List.setIfInBounds_toArray, List.set_cons_zero, List.set_cons_succ])
              refine wpAnyH_take (i := 17) (v := ?_) (by simp only [List.getElem?_toArray, List.getElem?_cons_zero, List.getElem?_cons_succ]; rfl) (by kernel_rfl) (by kernel_rfl) (by kernel_rfl) (by exact fun _ _ _ h => h) (Or.inl ⟨by with_unfolding_all rfl, ?_⟩) ⟨hF34.blk (i := 1) rfl, hF34.blk (i := 3) rfl⟩ ?_
              rotate_left
              · (intro w hSw; (try dsimp only at hSw); go_simp; try with_reducible rfl)
              (try simp only [Act.put, List.setIfInBounds_toArray, List.set_cons_zero, List.set_cons_succ])
              refine wpAnyH_take (i := 18) (v := ?_) (by simp only [List.getElem?_toArray, List.getElem?_cons_zero, List.getElem?_cons_succ]; rfl) (by kernel_rfl) (by kernel_rfl) (by kernel_rfl) (by exact fun _ _ _ h => h) (Or.inl ⟨by with_unfolding_all rfl, ?_⟩) ⟨hF34.blk (i := 1) rfl, hF34.blk (i := 3) rfl⟩ ?_
              rotate_left
              · (intro w hSw; (try dsimp only at hSw); go_simp; try with_reducible rfl)
              (try simp only [Act.put, List.setIfInBounds_toArray, List.set_cons_zero, List.set_cons_succ])
              refine wpAnyH_done (by kernel_rfl) ?_ _
              go_wp2_with fail
              go_ret
              exact ⟨rfl, hF34.below⟩
            exact AllReadyH.nil
          exact AllReadyH.nil
        exact AllReadyH.nil
      exact AllReadyH.nil
end Go.Proofs.YtdekogmegdhjoaaDoor

namespace Go.Proofs.YtdekogmegdhjoaaDoor

def nestP : Nat → List UInt8
  | 0 => []
  | i + 1 => nestP i ++ (if i % 2 = 0 then [91] else [123, 34, 97, 34, 58])
def nestC : Nat → List UInt8
  | 0 => []
  | i + 1 => (if i % 2 = 0 then 93 else 125) :: nestC i
def nestOk (d : Nat) : Bool :=
  match jParse (nestP d ++ [49] ++ nestC d) with
  | .ok v => decide (d ≤ 16) && (decide (d = 0) || v.kids.length == 1)
  | .error x => decide (16 < d) && (x.2 == 64) && decide (x.1 < (nestP d).length)
theorem nests_ok : ∀ d, d < 20 → nestOk d = true := by decide +kernel
theorem nestP_len : ∀ d, (nestP d).length ≤ 5 * d
  | 0 => Nat.le_refl _
  | d + 1 => by
    have := nestP_len d
    rw [nestP, List.length_append]
    split <;> simp <;> omega
theorem nestC_len : ∀ d, (nestC d).length = d
  | 0 => rfl
  | d + 1 => by rw [nestC, List.length_cons, nestC_len d]
def zB : Nat → List UInt8
  | 0 => [91]
  | i + 1 => zB i ++ (if i = 0 then [] else [44]) ++ [48]
theorem zB_len : ∀ i, (zB (i + 1)).length = 2 * i + 2
  | 0 => rfl
  | i + 1 => by
    rw [zB, List.length_append, List.length_append, zB_len i]
    simp
    omega
theorem zB_at : ∀ (i p : Nat), p < (zB i).length → (zB i)[p]? = some (if p = 0 then 91 else if p % 2 = 1 then 48 else 44)
  | 0, p, h => by
    have : p = 0 := by simp [zB] at h; exact h
    subst this; rfl
  | 1, p, h => by
    have h2 : p < 2 := h
    match p, h2 with
    | 0, _ => rfl
    | 1, _ => rfl
  | i + 2, p, h => by
    have hl := zB_len i
    have hl2 := zB_len (i + 1)
    rw [zB, if_neg (by omega), List.append_assoc]
    rcases Nat.lt_or_ge p (zB (i + 1)).length with h1 | h1
    · rw [List.getElem?_append_left h1]
      exact zB_at (i + 1) p h1
    · rw [List.getElem?_append_right h1, hl]
      rw [hl] at h1
      rw [hl2] at h
      have h3 : p = 2 * i + 2 ∨ p = 2 * i + 3 := by omega
      rcases h3 with rfl | rfl
      · rw [if_neg (by omega), if_neg (by omega), show 2 * i + 2 - (2 * i + 2) = 0 by omega]; rfl
      · rw [if_neg (by omega), if_pos (by omega), show 2 * i + 3 - (2 * i + 2) = 1 by omega]; rfl
/-- A list of zeros. -/
def zL (k : Nat) : List UInt8 := zB k ++ [93]
section
variable {k : Nat}
theorem zL_len (h : 0 < k) : (zL k).length = 2 * k + 1 := by
  obtain ⟨i, rfl⟩ : ∃ i, k = i + 1 := ⟨k - 1, by omega⟩
  unfold zL
  rw [List.length_append, zB_len]; simp; omega
theorem zL_num (h : 0 < k) {j : Nat} (hj : j < k) : (zL k)[2 * j + 1]? = some 48 := by
  obtain ⟨i, rfl⟩ : ∃ i, k = i + 1 := ⟨k - 1, by omega⟩
  have hl := zB_len i
  unfold zL
  rw [List.getElem?_append_left (by omega), zB_at _ _ (by omega), if_neg (by omega), if_pos (by omega)]
theorem zL_sep {j : Nat} (hj : j + 1 < k) : (zL k)[2 * j + 2]? = some 44 := by
  obtain ⟨i, rfl⟩ : ∃ i, k = i + 1 := ⟨k - 1, by omega⟩
  have hl := zB_len i
  unfold zL
  rw [List.getElem?_append_left (by omega), zB_at _ _ (by omega), if_neg (by omega), if_neg (by omega)]
theorem zL_end {j : Nat} (hj : j + 1 = k) : (zL k)[2 * j + 2]? = some 93 := by
  subst hj
  have hl := zB_len j
  unfold zL
  rw [List.getElem?_append_right (by omega), hl, Nat.sub_self]; rfl
theorem zL_val (d : Nat) {j m : Nat} (hj : j < k) (hm : m < 4096) : jValue (zL k) d (2 * j + 1) m = .ok (.mk 3 0 [] [] [], 2 * j + 2, m + 1) := by
  have h0 := zL_num (by omega) hj
  have hn : jNumber (zL k) (2 * j + 1) = .ok (0, 2 * j + 2) := by
    have hp := (List.getElem?_eq_some_iff.1 h0).1
    have h1 : ((zL k).drop (2 * j + 1)).takeWhile jNumC = [48] := by
      rw [List.drop_eq_getElem_cons hp, (List.getElem?_eq_some_iff.1 h0).2, List.takeWhile_cons, if_pos (by decide)]
      have h2 : ∃ x, (zL k)[2 * j + 1 + 1]? = some x ∧ jNumC x = false := by
        by_cases he : j + 1 = k
        · exact ⟨93, zL_end he, by decide⟩
        · exact ⟨44, zL_sep (by omega), by decide⟩
      obtain ⟨x, hx, hx2⟩ := h2
      have hp2 := (List.getElem?_eq_some_iff.1 hx).1
      rw [List.drop_eq_getElem_cons hp2, (List.getElem?_eq_some_iff.1 hx).2, List.takeWhile_cons, if_neg (by rw [hx2]; decide)]
    unfold jNumber
    simp only [h1]
    rfl
  have hw : ∀ val, jValueW (zL k) val (2 * j + 1) m = .ok (.mk 3 0 [] [] [], 2 * j + 2, m + 1) := fun val => by
    unfold jValueW
    rw [h0]
    simp only []
    rw [if_neg (by omega), if_neg (by decide), if_neg (by decide), if_neg (by decide), if_pos (by decide), hn]
  cases d with
  | zero => exact hw _
  | succ d => exact hw _
theorem zL_many (d : Nat) : ∀ (r j f : Nat) (kids : List JV), j + r = k → 0 < r → j < 4096 → r ≤ f → kids.length = j →
    (k < 4096 → ∃ ks, ks.length = k ∧ jManyL (zL k) 5 93 (jValue (zL k) d) f (2 * j + 1) (j + 1) [] kids = .ok (.mk 5 0 [] [] ks, 2 * k + 1, k + 1)) ∧
    (4096 ≤ k → jManyL (zL k) 5 93 (jValue (zL k) d) f (2 * j + 1) (j + 1) [] kids = .error (8191, 8)) := by
  intro r
  induction r with
  | zero => intro j f kids _ h; omega
  | succ r ih =>
    intro j f kids hjr _ hj4 hf hkl
    obtain ⟨f, rfl⟩ : ∃ g, f = g + 1 := ⟨f - 1, by omega⟩
    have hjk : j < k := by omega
    by_cases hlast : j = 4095
    · refine ⟨fun h => by omega, fun _ => ?_⟩
      subst hlast
      rw [jManyL, if_neg (by decide)]
      simp only []
      have hx : jValue (zL k) d (2 * 4095 + 1) (4095 + 1) = .error (8191, 8) := by
        have h0 := zL_num (by omega) hjk
        have hw : ∀ val, jValueW (zL k) val (2 * 4095 + 1) (4095 + 1) = .error (8191, 8) := fun val => by
          unfold jValueW
          rw [h0]
          simp only []
          rw [if_pos trivial]
        cases d with
        | zero => exact hw _
        | succ d => exact hw _
      rw [hx]
    · have hv := zL_val (k := k) d hjk (m := j + 1) (by omega)
      rw [jManyL, if_neg (by decide)]
      simp only [hv]
      by_cases he : j + 1 = k
      · have hx := zL_end he
        refine ⟨fun h4 => ⟨kids ++ [.mk 3 0 [] [] []], by simp; omega, ?_⟩, fun h4 => by omega⟩
        rw [jBlanks_stop hx (by decide)]
        unfold jNext
        rw [hx]
        simp only []
        rw [if_pos trivial, if_neg (by decide), show 2 * j + 2 + 1 = 2 * k + 1 by omega, show j + 1 + 1 = k + 1 by omega]
      · have hx := zL_sep (k := k) (j := j) (by omega)
        have hy := zL_num (k := k) (j := j + 1) (by omega) (by omega)
        have hb : jBlanks (zL k) (2 * j + 2 + 1) = 2 * (j + 1) + 1 := jBlanks_stop (p := 2 * (j + 1) + 1) hy (by decide)
        have hw : jWord (zL k) [44] (2 * j + 2) = .ok (2 * j + 2 + 1) := by
          unfold jWord
          rw [hx]
          simp only []
          rw [if_pos trivial]
          rfl
        have key := ih (j + 1) f (kids ++ [.mk 3 0 [] [] []]) (by omega) (by omega) (by omega) (by omega) (by simp; omega)
        rw [jBlanks_stop hx (by decide)]
        unfold jNext
        rw [hx]
        simp only []
        rw [if_neg (by decide), hw]
        simp only []
        rw [hb, if_neg (by decide)]
        exact key
theorem zL_parse (hk : k < 5000) : (k < 4096 → ∃ v, jParse (zL k) = .ok v ∧ v.kids.length = k) ∧ (4096 ≤ k → jParse (zL k) = .error (8191, 8)) := by
  by_cases h0 : k = 0
  · subst h0
    exact ⟨fun _ => ⟨.mk 5 0 [] [] [], by kernel_rfl, rfl⟩, fun h => by omega⟩
  · have hl := zL_len (k := k) (by omega)
    obtain ⟨i, rfl⟩ : ∃ i, k = i + 1 := ⟨k - 1, by omega⟩
    have hx0 : (zL (i + 1))[0]? = some 91 := by
      unfold zL
      rw [List.getElem?_append_left (by rw [zB_len]; omega), zB_at _ _ (by rw [zB_len]; omega), if_pos rfl]
    have hx1 := zL_num (k := i + 1) (by omega) (j := 0) (by omega)
    have hm : jMany (zL (i + 1)) 5 93 (some (jValue (zL (i + 1)) 15)) 0 1 = jManyL (zL (i + 1)) 5 93 (jValue (zL (i + 1)) 15) (2 * (i + 1) + 1) 1 1 [] [] := by
      unfold jMany
      simp only []
      rw [jBlanks_stop (p := 0 + 1) hx1 (by decide)]
      unfold jNext
      rw [hx1]
      simp only []
      rw [if_neg (by decide), hl]
      rfl
    have hv : jValue (zL (i + 1)) 16 0 0 = jMany (zL (i + 1)) 5 93 (some (jValue (zL (i + 1)) 15)) 0 1 := by
      show jValueW _ _ 0 0 = _
      unfold jValueW
      rw [hx0]
      simp only []
      rw [if_neg (by decide), if_neg (by decide), if_neg (by decide), if_neg (by decide), if_neg (by decide), if_neg (by decide), if_pos trivial]
    have hp : jParse (zL (i + 1)) = match jMany (zL (i + 1)) 5 93 (some (jValue (zL (i + 1)) 15)) 0 1 with
        | .error x => .error x
        | .ok (v, p, _) => if jBlanks (zL (i + 1)) p < (zL (i + 1)).length then .error (jBlanks (zL (i + 1)) p, 10) else .ok v := by
      unfold jParse
      rw [if_neg (by omega), jBlanks_stop hx0 (by decide), hv]
      rfl
    obtain ⟨h1, h2⟩ := zL_many (k := i + 1) 15 (i + 1) 0 (2 * (i + 1) + 1) [] (by omega) (by omega) (by omega) (by omega) rfl
    refine ⟨fun h4 => ?_, fun h4 => ?_⟩
    · obtain ⟨ks, hks, hkk⟩ := h1 h4
      refine ⟨.mk 5 0 [] [] ks, ?_, hks⟩
      have hkk' : jManyL (zL (i + 1)) 5 93 (jValue (zL (i + 1)) 15) (2 * (i + 1) + 1) 1 1 [] [] = .ok (.mk 5 0 [] [] ks, 2 * (i + 1) + 1, i + 1 + 1) := hkk
      rw [hp, hm, hkk']
      simp only []
      rw [jBlanks_end (by rw [hl]; exact Nat.le_refl _), if_neg (by omega)]
    · rw [hp, hm]
      have := h2 h4
      rw [show (2 * 0 + 1 : Nat) = 1 from rfl] at this
      rw [this]
end
end Go.Proofs.YtdekogmegdhjoaaDoor
