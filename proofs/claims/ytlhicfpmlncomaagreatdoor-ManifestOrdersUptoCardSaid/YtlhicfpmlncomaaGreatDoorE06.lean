/-
 Layer 6: the walk of the program's reader of a member's name.
 Layer 6 in plain words: how far values go.
-/
import Derived.Test.YtlhicfpmlncomaaGreatDoorE05
import Derived.Test.YtlhicfpmlncomaaGreatDoorE02
namespace Go.Proofs.YtlhicfpmlncomaaGreatDoor
open Go.RowKit
set_option linter.unusedSimpArgs false
theorem T_strs : SlT Tryz.prog 48 9 1 16 (.string ByteArray.empty) := ⟨Tryz.underlying48, by kernel_rfl, rfl, by decide⟩
theorem jTextL_len {b : List UInt8} : ∀ {f p : Nat} {out s : List UInt8} {q : Nat}, jTextL b f p out = .ok (s, q) → p < q ∧ q ≤ b.length
 | 0, p, out, s, q, h => by cases h
 | f + 1, p, out, s, q, h => by
  unfold jTextL at h
  cases hx : b[p]? with
  | none => rw [hx] at h; cases h
  | some c =>
   have hp := (List.getElem?_eq_some_iff.1 hx).1
   rw [hx] at h
   simp only [] at h
   split at h
   ·obtain ⟨_, rfl⟩ := ok_pair h
    omega
   ·split at h
    ·cases he : jEscape b p with
     | error x => rw [he] at h; cases h
     | ok r =>
      obtain ⟨e, q1⟩ := r
      rw [he] at h
      have h1 := jEscape_len he
      have h2 := jTextL_len h
      omega
    ·split at h
     ·cases h
     ·split at h
      ·cases h
      ·have h2 := jTextL_len h
       omega
theorem jText_len {b : List UInt8} {p q : Nat} {s : List UInt8} (h : jText b p = .ok (s, q)) : p + 1 < q ∧ q ≤ b.length := by
 unfold jText at h
 cases hw : jWord b [34] p with
 | error x => rw [hw] at h; cases h
 | ok q1 =>
  rw [hw] at h
  have h1 := (jWord_le hw).1
  have h2 := jTextL_len h
  simp at h1
  omega
theorem jName_len {b : List UInt8} {p q : Nat} {ns : List (List UInt8)} {s : List UInt8} (h : jName b ns p = .ok (s, q)) : p + 1 < q ∧ q ≤ b.length := by
 unfold jName at h
 cases hT : jText b p with
 | error x => rw [hT] at h; cases h
 | ok r =>
  obtain ⟨s1, q1⟩ := r
  rw [hT] at h
  have h1 := jText_len hT
  simp only [] at h
  split at h
  ·cases h
  ·cases hw : jWord b [58] (jBlanks b q1) with
   | error x => rw [hw] at h; cases h
   | ok r =>
    rw [hw] at h
    obtain ⟨_, rfl⟩ := ok_pair h
    have h2 := jWord_le hw
    have h3 := jBlanks_ge b q1
    have h4 := jBlanks_ge b r
    have h5 := jBlanks_le b (p := r) (h2.2.resolve_left (by simp))
    simp at h2
    omega
theorem strs_one1 (x : ByteArray) : ∀ u ∈ [Value.string x], u.oneCell' = true := by
 intro u hu
 rw [List.mem_singleton.1 hu]; rfl
theorem vlL_3 {k n : Int} {t : ByteArray} {a b a' : Value} : spl (vlL k n t a b) 3 [a'] = vlL k n t a' b := rfl
theorem vlL_4 {k n : Int} {t : ByteArray} {a b b' : Value} : spl (vlL k n t a b) 4 [b'] = vlL k n t a b' := rfl
/-- A name is told: it stands behind the others. -/
def ToldNm (w0 : World) (g gv : Nat) (A : Option Addr) (n c m : Nat) (names : List (List UInt8)) (kv : Value) (rest : List Ent) (x : List UInt8 × Nat) (e : Ending) (w' : World) : Prop :=
 ∃ An cn, e = .returned (.tuple #[]) ∧ names.length + 1 ≤ cn ∧ Fr [g] w0 w' (.own w0.heap.size 9 1 (.slice An (names.length + 1) cn) (names.length + 1) ((names ++ [x.1]).map strv) :: .blk gv 76 (vlL 6 0 ⟨#[]⟩ (.slice An (names.length + 1) cn) kv) :: .blk g 127 (rdrL A n c x.2 m) :: rest)
set_option maxRecDepth 20000 in
set_option maxHeartbeats 6400000 in
theorem name_any (w0 w : World) (g gv : Nat) (A : Option Addr) (n c p m B : Nat) (b : List UInt8) (names : List (List UInt8)) (An : Option Addr) (nn cn : Nat) (kv : Value) (rest : List Ent) (hL : LibsAt B w0) (hg : B ≤ g) (hB : B ≤ w0.heap.size) (hn : n ≤ 65536) (hnc : n ≤ c) (hp : p ≤ n) (hr : Rd w0 (· < B) A 1 n (b.map bv)) (hnn : nn ≤ 65536) (hnl : names.length = nn) (hcn : nn ≤ cn)
  (hF : Fr [g] w0 w (.own w0.heap.size 9 1 (.slice An nn cn) nn (names.map strv) :: .blk gv 76 (vlL 6 0 ⟨#[]⟩ (.slice An nn cn) kv) :: .blk g 127 (rdrL A n c p m) :: rest)) :
  Calls Tryz.prog 121 #[.pointer (some ⟨g, 0, none⟩), .pointer (some ⟨gv, 0, none⟩)] w (JEndP w0 g (jName b names p) (ToldNm w0 g gv A n c m names kv rest)) := by
 have hl := box hr.bytes_len
 replace hnl := box hnl
 have htx := box (text_any g A n c p m B b w (hL.on (hF.belowG hg hB)) (hF.blk (i := 2) rfl) hg (Nat.le_trans hB hF.size) hn hnc hp (hF.rdB hg hB hr))
 cases hT : jText b p with
 | error z =>
  have hj : Box (jName b names p = .error z) := box (by unfold jName; rw [hT])
  rw [hT] at htx
  unfold JEndP at htx
  simp only [] at htx
  clear hT
  go_enter Tryz.func121, Tryz.ntmps121
  go_wp2_with (first | (with_reducible refine lst (by with_unfolding_all rfl) (wp_fld2 hF Tryz.underlying3 rfl (by with_unfolding_all exact ⟨_, rfl, rfl⟩) rfl ?_)))
  refine htx.out.mono ?_
  rintro e w1 ⟨rfl, hg1⟩
  dsimp only [flt]
  go_wp2
  exact ⟨rfl, by unfold JEndP; rw [hj.out]; exact ⟨rfl, grown_trans hF.grown hg1⟩⟩
 | ok r =>
  obtain ⟨s, q⟩ := r
  have hlen := jText_len hT
  rw [hl.out] at hlen
  have hpq := hlen.1
  have hqn := hlen.2
  clear hlen
  rw [hT] at htx
  unfold JEndP ToldS at htx
  simp only [] at htx
  have hjm : Box (s ∈ names → jName b names p = .error (p, 7)) := box (fun h => by unfold jName; rw [hT]; simp only []; rw [if_pos h])
  have hjn : Box (s ∉ names → jName b names p = match jWord b [58] (jBlanks b q) with
   | .error x => .error x
   | .ok r => .ok (s, jBlanks b r)) := box (fun h => by unfold jName; rw [hT]; simp only []; rw [if_neg h]; cases jWord b [58] (jBlanks b q) <;> rfl)
  clear hT
  go_enter Tryz.func121, Tryz.ntmps121
  go_wp2_with (first | (with_reducible refine lst (by with_unfolding_all rfl) (wp_fld2 hF Tryz.underlying3 rfl (by with_unfolding_all exact ⟨_, rfl, rfl⟩) rfl ?_)))
  refine htx.out.mono ?_
  rintro e w1 ⟨rfl, h1⟩
  have hF1 := hF.putF (i := 2) rfl h1
  simp only [List.set_cons_succ, List.set_cons_zero] at hF1
  clear htx h1 hF
  go_wp2_with (first | (with_reducible refine lst (by with_unfolding_all rfl) (wp_fld1 hF1 Tryz.underlying48 rfl (by with_unfolding_all exact ⟨_, rfl, rfl⟩) rfl ?_)))
  go_loopg [19] nn (fun k i wr => ∃ j, j ≤ nn ∧ Box (k = nn - j) ∧ i = .int .i64 (j : Int) ∧ Box (∀ t ∈ names.take j, s ≠ t) ∧ wr = w1)
  case atStart => exact ⟨0, by omega, box rfl, rfl, box (by simp), rfl⟩
  case round =>
   obtain ⟨j, hj, hk, rfl, hno, rfl⟩ := hrel
   have hro := hF1.rdOwn (i := 0) rfl
   by_cases hlt : j < nn
   ·obtain ⟨t, ht⟩ : ∃ t, names[j]? = some t := ⟨names[j]'(by rw [hnl.out]; exact hlt), by simp⟩
    have hts : Box ((names.map strv)[j]? = some (.string ⟨t.toArray⟩)) := box (by rw [List.getElem?_map, ht]; rfl)
    have htk : names.take (j + 1) = names.take j ++ [t] := by rw [List.take_add_one, ht]; rfl
    by_cases hst : s = t
    ·have hend := box (hjm.out (by rw [hst]; exact List.mem_of_getElem? ht))
     have hfl := box (fun v w => fail_any v p 7 w)
     subst hst
     clear ht htk
     go_wp2_with (first | (with_reducible refine lst (by with_unfolding_all rfl) (wp_indexAddr T_strs hro (by with_unfolding_all exact ⟨_, _, _, _, rfl, rfl, rfl⟩) (by omega) (by omega) ?_)) | (with_reducible refine lst (by with_unfolding_all rfl) (wp_load1C hro hts Tryz.underlying9 rfl (by with_unfolding_all exact ⟨_, rfl, rfl⟩) (by first | (simp; done) | (simp; omega) | omega) ?_)))
     refine (hfl.out _ _).mono ?_
     rintro e w2 ⟨rfl, rfl⟩
     dsimp only [flt]
     go_wp2
     exact ⟨rfl, by unfold JEndP; rw [hend.out]; exact ⟨rfl, hF1.grown⟩⟩
    ·have hno2 : Box (∀ t ∈ names.take (j + 1), s ≠ t) := box (fun u hu => by
      rw [htk] at hu
      rcases List.mem_append.1 hu with hu | hu
      ·exact hno.out u hu
      ·rw [List.mem_singleton.1 hu]; exact hst)
     have hst2 : (s == t) = false := by rw [beq_eq_false_iff_ne]; exact hst
     replace hst := box hst
     clear ht htk
     go_wp2_with (first | (with_reducible refine lst (by with_unfolding_all rfl) (wp_indexAddr T_strs hro (by with_unfolding_all exact ⟨_, _, _, _, rfl, rfl, rfl⟩) (by omega) (by omega) ?_)) | (with_reducible refine lst (by with_unfolding_all rfl) (wp_load1C hro hts Tryz.underlying9 rfl (by with_unfolding_all exact ⟨_, rfl, rfl⟩) (by first | (simp; done) | (simp; omega) | omega) ?_)))
     go_roundg (nn - (j + 1))
     case rel => exact ⟨j + 1, by omega, box rfl, by go_num, hno2, rfl⟩
     case measure => have := hk.out; omega
   ·have hns : s ∉ names := fun hm => by
     obtain rfl : j = nn := by omega
     have h2 := hno.out s
     rw [List.take_of_length_le (by rw [hnl.out]; exact Nat.le_refl _)] at h2
     exact h2 hm rfl
    have hjn2 := box (hjn.out hns)
    clear hns hjn hjm hno hk
    go_wp2_with (first | (with_reducible refine lst (by with_unfolding_all rfl) (wp_fld1 hF1 Tryz.underlying48 rfl (by with_unfolding_all exact ⟨_, rfl, rfl⟩) rfl ?_)) | ((with_reducible refine lst (by with_unfolding_all rfl) (wp_fbsl T_strs hF1 (vs := [.string ⟨s.toArray⟩]) (by with_unfolding_all rfl) (by with_unfolding_all rfl) (by with_unfolding_all rfl) (by decide) (by simp [Value.cells]) ?_)); intro w3 g3 hF3 hz3) | ((with_reducible refine lst (by with_unfolding_all rfl) (wp_fappG T_strs hF3 (i := 1) rfl (Nat.le_refl _) hF3.rdOwn0 (strs_one1 _) (by with_unfolding_all exact ⟨_, _, rfl, rfl, rfl⟩) (by unfold maxLen; omega) (by omega) ?_)); intro v4 w4 hF4 hz4; simp only [List.set_cons_zero, List.set_cons_succ] at hF4; obtain ⟨A4, c4, rfl, hc4⟩ := hF4.ownParts (i := 1) rfl) | ((with_reducible refine lst (by with_unfolding_all rfl) (wp_fst2 hF4 (by with_unfolding_all exact ⟨_, _, rfl, rfl, rfl⟩) (by kernel_rfl) rfl rfl (by rw [vlL_len]; decide) (vlL_3 (a' := .slice A4 (nn + 1) c4)) ?_)); intro w5 hF5 hz5))
    have hF6 := hF5.tail
    clear hF5 hF4 hF3
    have hq1 : jBlanks b q ≤ n := by have := jBlanks_le b (p := q) (by rw [hl.out]; exact hqn); rw [hl.out] at this; exact this
    have hbl := box (blanks_any g A n c q m B b w5 (hF6.blk (i := 2) rfl) hg (Nat.le_trans hB hF6.size) (by omega) hqn (hF6.rdB hg hB hr))
    refine hbl.out.mono ?_
    rintro e w7 ⟨rfl, h7⟩
    have hF7 := hF6.putF (i := 2) rfl h7
    simp only [List.set_cons_succ, List.set_cons_zero] at hF7
    clear hbl h7 hF6
    have hwd := box (word_any g A n c (jBlanks b q) m B b ⟨#[58]⟩ w7 (hF7.blk (i := 2) rfl) hg (Nat.le_trans hB hF7.size) (by omega) hq1 (by decide) (hF7.rdB hg hB hr))
    rw [show ((⟨#[58]⟩ : ByteArray).data.toList) = [58] from rfl] at hwd
    have hj3 := hjn2.out
    cases hW : jWord b [58] (jBlanks b q) with
    | error z =>
     rw [hW] at hwd hj3
     replace hj3 := box hj3
     unfold JPost at hwd
     simp only [] at hwd
     clear hW hjn2
     go_wp2_with fail
     refine hwd.out.mono ?_
     rintro e w8 ⟨rfl, hg8⟩
     dsimp only [flt]
     go_wp2
     exact ⟨rfl, by unfold JEndP; rw [hj3.out]; exact ⟨rfl, grown_trans hF7.grown hg8⟩⟩
    | ok r =>
     have hrn := (jWord_le hW).2.resolve_left (by simp)
     rw [hl.out] at hrn
     rw [hW] at hwd hj3
     replace hj3 := box hj3
     unfold JPost at hwd
     simp only [] at hwd
     clear hW hjn2
     go_wp2_with fail
     refine hwd.out.mono ?_
     rintro e w8 ⟨rfl, h8⟩
     have hF8 := hF7.putF (i := 2) rfl h8
     simp only [List.set_cons_succ, List.set_cons_zero] at hF8
     clear hwd h8 hF7
     have hbl := box (blanks_any g A n c r m B b w8 (hF8.blk (i := 2) rfl) hg (Nat.le_trans hB hF8.size) (by omega) hrn (hF8.rdB hg hB hr))
     go_wp2_with fail
     refine hbl.out.mono ?_
     rintro e w9 ⟨rfl, h9⟩
     have hF9 := hF8.putF (i := 2) rfl h9
     simp only [List.set_cons_succ, List.set_cons_zero] at hF9
     clear hbl h9 hF8
     go_wp2_with fail
     go_end0
     unfold JEndP
     rw [hj3.out]
     have hnl2 := hnl.out
     subst hnl2
     exact ⟨A4, c4, rfl, hc4, by rw [List.map_append]; exact hF9⟩
end Go.Proofs.YtlhicfpmlncomaaGreatDoor

namespace Go.Proofs.YtlhicfpmlncomaaGreatDoor
theorem jNext_ok {b : List UInt8} {p : Nat} {c : UInt8} (h : jNext b p = .ok c) : b[p]? = some c := by
 unfold jNext at h
 cases hx : b[p]? with
 | none => rw [hx] at h; cases h
 | some x => rw [hx] at h; injection h with h; rw [h]
/-- One step of a list or an object. -/
theorem jManyL_step {b : List UInt8} {kind : Int} {fin : UInt8} {val : Nat → Nat → JR (JV × Nat × Nat)} {f p m : Nat} {names : List (List UInt8)} {kids : List JV} {x : JV × Nat × Nat} (h : jManyL b kind fin val (f + 1) p m names kids = .ok x) :
  ∃ s q v r m' c, (if kind = 6 then jName b names p else .ok ([], p)) = .ok (s, q) ∧ val q m = .ok (v, r, m') ∧ b[jBlanks b r]? = some c ∧
   (x = (.mk kind 0 [] (if kind = 6 then names ++ [s] else names) (kids ++ [v]), jBlanks b r + 1, m') ∨
    jManyL b kind fin val f (jBlanks b (jBlanks b r + 1)) m' (if kind = 6 then names ++ [s] else names) (kids ++ [v]) = .ok x) := by
 rw [jManyL] at h
 cases h1 : (if kind = 6 then jName b names p else .ok ([], p)) with
 | error z => rw [h1] at h; cases h
 | ok r =>
  obtain ⟨s, q⟩ := r
  rw [h1] at h
  simp only [] at h
  cases h2 : val q m with
  | error z => rw [h2] at h; cases h
  | ok r =>
   obtain ⟨v, r, m'⟩ := r
   rw [h2] at h
   simp only [] at h
   cases h3 : jNext b (jBlanks b r) with
   | error z => rw [h3] at h; cases h
   | ok c =>
    rw [h3] at h
    simp only [] at h
    refine ⟨s, q, v, r, m', c, rfl, h2, jNext_ok h3, ?_⟩
    by_cases hc : c = fin
    ·rw [if_pos hc] at h
     injection h with h
     exact .inl h.symm
    ·rw [if_neg hc] at h
     cases h4 : jWord b [44] (jBlanks b r) with
     | error z => rw [h4] at h; cases h
     | ok t =>
      rw [h4] at h
      simp only [] at h
      obtain rfl : t = jBlanks b r + 1 := (jWord_le h4).1
      exact .inr h
/-- What a value's reader goes by. -/
def ValLen (b : List UInt8) (val : Nat → Nat → JR (JV × Nat × Nat)) : Prop := ∀ (p m : Nat) (v : JV) (q m' : Nat), m ≤ 4096 → val p m = .ok (v, q, m') → p < q ∧ q ≤ b.length ∧ m < m' ∧ m' ≤ 4096
theorem jManyL_len {b : List UInt8} {kind : Int} {fin : UInt8} {val : Nat → Nat → JR (JV × Nat × Nat)} (hv : ValLen b val) : ∀ {f p m : Nat} {names : List (List UInt8)} {kids : List JV} {v : JV} {q m' : Nat}, m ≤ 4096 → jManyL b kind fin val f p m names kids = .ok (v, q, m') → p < q ∧ q ≤ b.length ∧ m < m' ∧ m' ≤ 4096
 | 0, _, _, _, _, _, _, _, _, h => by cases h
 | f + 1, p, m, names, kids, v, q, m', hm, h => by
  obtain ⟨s, q1, v1, r, m1, c, h1, h2, h3, h4⟩ := jManyL_step h
  have hq1 : p ≤ q1 := by
   split at h1
   ·have := jName_len h1; omega
   ·injection h1 with h1; injection h1 with _ h1; omega
  have hv1 := hv _ _ _ _ _ hm h2
  have hr := jBlanks_ge b r
  have hb := (List.getElem?_eq_some_iff.1 h3).1
  rcases h4 with h4 | h4
  ·injection h4 with h4 h5
   injection h5 with h5 h6
   omega
  ·have h5 := jManyL_len hv hv1.2.2.2 h4
   have := jBlanks_ge b (jBlanks b r + 1)
   omega
theorem jMany_len {b : List UInt8} {kind : Int} {fin : UInt8} {val : Option (Nat → Nat → JR (JV × Nat × Nat))} (hv : ∀ f, val = some f → ValLen b f) {p m : Nat} {v : JV} {q m' : Nat} (hm : m ≤ 4096) (h : jMany b kind fin val p m = .ok (v, q, m')) : p < q ∧ q ≤ b.length ∧ m ≤ m' ∧ m' ≤ 4096 := by
 unfold jMany at h
 cases val with
 | none => cases h
 | some f =>
  simp only [] at h
  cases h3 : jNext b (jBlanks b (p + 1)) with
  | error z => rw [h3] at h; cases h
  | ok c =>
   rw [h3] at h
   simp only [] at h
   have hb := (List.getElem?_eq_some_iff.1 (jNext_ok h3)).1
   have hg := jBlanks_ge b (p + 1)
   split at h
   ·injection h with h
    injection h with _ h
    injection h with h1 h2
    omega
   ·have := jManyL_len (hv f rfl) hm h
    omega
theorem jNumber_len {b : List UInt8} {p q : Nat} {x : Int} (hp : p < b.length) (h : jNumber b p = .ok (x, q)) : p < q ∧ q ≤ b.length := by
 unfold jNumber at h
 simp only [] at h
 cases hj : jNum ((b.drop p).takeWhile jNumC) with
 | none => rw [hj] at h; cases h
 | some v =>
  rw [hj] at h
  obtain ⟨_, rfl⟩ := ok_pair h
  have h1 : ((b.drop p).takeWhile jNumC).length ≠ 0 := fun h0 => by
   rw [List.eq_nil_of_length_eq_zero h0] at hj
   cases hj
  have h2 := (List.takeWhile_sublist jNumC (l := b.drop p)).length_le
  rw [List.length_drop] at h2
  omega
theorem jValueW_len {b : List UInt8} {val : Option (Nat → Nat → JR (JV × Nat × Nat))} (hv : ∀ f, val = some f → ValLen b f) {p m : Nat} {v : JV} {q m' : Nat} (hm : m ≤ 4096) (h : jValueW b val p m = .ok (v, q, m')) : p < q ∧ q ≤ b.length ∧ m < m' ∧ m' ≤ 4096 := by
 unfold jValueW at h
 cases hx : b[p]? with
 | none => rw [hx] at h; cases h
 | some c =>
  have hp := (List.getElem?_eq_some_iff.1 hx).1
  rw [hx] at h
  simp only [] at h
  split at h
  ·cases h
  ·rename_i hm4
   have lit : ∀ {l : List UInt8} {u : JV}, l ≠ [] → jLit b l u p (m + 1) = .ok (v, q, m') → p < q ∧ q ≤ b.length ∧ m < m' ∧ m' ≤ 4096 := fun {l u} hl hj => by
    unfold jLit at hj
    cases hw : jWord b l p with
    | error z => rw [hw] at hj; cases hj
    | ok t =>
     rw [hw] at hj
     simp only [] at hj
     injection hj with hj
     injection hj with _ hj
     injection hj with h1 h2
     have h3 := jWord_le hw
     have h4 := h3.2.resolve_left hl
     have h5 : 0 < l.length := List.length_pos_iff.2 hl
     omega
   split at h
   ·exact lit (by simp) h
   ·split at h
    ·exact lit (by simp) h
    ·split at h
     ·exact lit (by simp) h
     ·split at h
      ·cases hn : jNumber b p with
       | error z => rw [hn] at h; cases h
       | ok r =>
        obtain ⟨x, t⟩ := r
        rw [hn] at h
        injection h with h
        injection h with _ h
        injection h with h1 h2
        have := jNumber_len hp hn
        omega
      ·split at h
       ·cases hn : jText b p with
        | error z => rw [hn] at h; cases h
        | ok r =>
         obtain ⟨x, t⟩ := r
         rw [hn] at h
         injection h with h
         injection h with _ h
         injection h with h1 h2
         have := jText_len hn
         omega
       ·split at h
        ·have := jMany_len hv (by omega) h
         omega
        ·split at h
         ·have := jMany_len hv (by omega) h
          omega
         ·cases h
theorem jValue_len {b : List UInt8} : ∀ (d : Nat), ValLen b (jValue b d)
 | 0, p, m, v, q, m', hm, h => jValueW_len (val := none) (fun f hf => by cases hf) hm h
 | d + 1, p, m, v, q, m', hm, h => jValueW_len (val := some (jValue b d)) (fun f hf => by injection hf with hf; subst hf; exact jValue_len d) hm h
end Go.Proofs.YtlhicfpmlncomaaGreatDoor
