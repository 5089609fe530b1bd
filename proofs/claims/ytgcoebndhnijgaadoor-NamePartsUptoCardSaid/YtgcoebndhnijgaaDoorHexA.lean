/-
  Walks of layer 1: digits.
-/
import Derived.Test.YtgcoebndhnijgaaDoorTy
import Derived.Test.YtgcoebndhnijgaaDoorLib2
import Derived.Deep.QuietTactic
import Derived.BigQuiet
namespace Go.Proofs.YtgcoebndhnijgaaDoor
open Go.RowKit

def digN (c : UInt8) : UInt8 := match hexv c with | some v => v | none => 16

theorem u8sub (c : UInt8) (k : Nat) (h : k ≤ c.toNat) (hk : k < 256) : ((c - UInt8.ofNat k).toNat) = c.toNat - k := by
  have := c.toNat_lt
  rw [UInt8.toNat_sub_of_le]
  · rw [UInt8.toNat_ofNat', Nat.mod_eq_of_lt hk]
  · rw [UInt8.le_iff_toNat_le, UInt8.toNat_ofNat', Nat.mod_eq_of_lt hk]; exact h

theorem digN_num (c : UInt8) (h : 48 ≤ c.toNat) (h' : c.toNat ≤ 57) : ((digN c).toNat : Int) = (c.toNat : Int) - 48 := by
  have h1 : hexv c = some (c - 48) := by unfold hexv; rw [if_pos ⟨by rw [UInt8.le_iff_toNat_le]; exact h, by rw [UInt8.le_iff_toNat_le]; exact h'⟩]
  unfold digN; rw [h1]
  have := u8sub c 48 h (by decide)
  simp only []
  rw [show (48 : UInt8) = UInt8.ofNat 48 from rfl, this]; omega
theorem digN_let (c : UInt8) (h : 97 ≤ c.toNat) (h' : c.toNat ≤ 102) : ((digN c).toNat : Int) = (c.toNat : Int) - 97 + 10 := by
  have h1 : hexv c = some (c - 97 + 10) := by
    unfold hexv
    rw [if_neg (fun hh => by have := hh.2; rw [UInt8.le_iff_toNat_le] at this; simp at this; omega), if_pos ⟨by rw [UInt8.le_iff_toNat_le]; exact h, by rw [UInt8.le_iff_toNat_le]; exact h'⟩]
  unfold digN; rw [h1]
  have := u8sub c 97 h (by decide)
  simp only []
  rw [show (97 : UInt8) = UInt8.ofNat 97 from rfl, UInt8.toNat_add, this]; simp; omega
theorem digN_none (c : UInt8) (h : ¬ (48 ≤ c.toNat ∧ c.toNat ≤ 57)) (h' : ¬ (97 ≤ c.toNat ∧ c.toNat ≤ 102)) : digN c = 16 := by
  have h1 : hexv c = none := by
    unfold hexv
    rw [if_neg (fun hh => h ⟨by simpa [UInt8.le_iff_toNat_le] using hh.1, by simpa [UInt8.le_iff_toNat_le] using hh.2⟩), if_neg (fun hh => h' ⟨by simpa [UInt8.le_iff_toNat_le] using hh.1, by simpa [UInt8.le_iff_toNat_le] using hh.2⟩)]
  unfold digN; rw [h1]

set_option maxRecDepth 20000 in
set_option maxHeartbeats 400000 in
theorem digit_any (c : UInt8) (w : World) :
    Calls Tryd.prog 48 #[.int .u8 c.toNat] w fun e w' => e = .returned (.int .u8 (digN c).toNat) ∧ w = w' := by
  have clt : c.toNat < 256 := c.toNat_lt
  by_cases h1 : 48 ≤ c.toNat ∧ c.toNat ≤ 57
  · have hd := digN_num c h1.1 h1.2
    rw [hd]
    replace hd := box hd
    obtain ⟨h1, h2⟩ := h1
    go_enter Tryd.func48, Tryd.ntmps48
    go_wp2
    go_ret
    exact ⟨rfl, rfl⟩
  · by_cases h2 : 97 ≤ c.toNat ∧ c.toNat ≤ 102
    · have hd := digN_let c h2.1 h2.2
      rw [hd]
      replace hd := box hd
      obtain ⟨h2, h3⟩ := h2
      clear h1
      go_enter Tryd.func48, Tryd.ntmps48
      go_wp2
      go_ret
      exact ⟨rfl, rfl⟩
    · rw [digN_none c h1 h2]
      go_enter Tryd.func48, Tryd.ntmps48
      go_wp2
      all_goals go_ret
      all_goals exact ⟨rfl, rfl⟩

/-- What the reading of digits has come to behind k bytes, r. -/
structure UnhAt (l : List UInt8) (k : Nat) (r : List UInt8) : Prop where
  len : r.length = k
  eq : unhexL l = (unhexL (l.drop (2 * k))).map (r ++ ·)

theorem digN_some {c v : UInt8} (h : hexv c = some v) : digN c = v ∧ v.toNat ≤ 15 := by
  refine ⟨by unfold digN; rw [h], ?_⟩
  unfold hexv at h
  have hc := c.toNat_lt
  split at h
  · rename_i h1
    injection h with h; subst h
    have h2 := h1.1; have h3 := h1.2
    rw [UInt8.le_iff_toNat_le] at h2 h3
    have := u8sub c 48 h2 (by decide)
    rw [show (48 : UInt8) = UInt8.ofNat 48 from rfl, this]
    have h4 : (57 : UInt8).toNat = 57 := rfl
    omega
  · split at h
    · rename_i h1
      injection h with h; subst h
      have h2 := h1.1; have h3 := h1.2
      rw [UInt8.le_iff_toNat_le] at h2 h3
      have := u8sub c 97 h2 (by decide)
      rw [show (97 : UInt8) = UInt8.ofNat 97 from rfl, UInt8.toNat_add, this]
      have h4 : (102 : UInt8).toNat = 102 := rfl
      have h5 : (10 : UInt8).toNat = 10 := rfl
      omega
    · cases h
theorem digN_no {c : UInt8} (h : hexv c = none) : digN c = 16 := by unfold digN; rw [h]

theorem nib_nat (x y : UInt8) (hx : x.toNat ≤ 15) (hy : y.toNat ≤ 15) : (16 * x + y).toNat = x.toNat * 16 + y.toNat := by
  have h5 : (16 : UInt8).toNat = 16 := rfl
  rw [UInt8.toNat_add, UInt8.toNat_mul, h5]
  omega
theorem nib_or (x y : UInt8) (hx : x.toNat ≤ 15) (hy : y.toNat ≤ 15) : bits BinOp.or IntKind.u8 ((x.toNat : Int) * 16) (y.toNat : Int) = ((16 * x + y).toNat : Int) := by
  rw [show ((x.toNat : Int) * 16) = ((x.toNat * 16 : Nat) : Int) by omega, u8_or_nat _ _ (by omega) (by omega), nat_join 4 (x.toNat * 16) y.toNat (by omega) (by omega)]
  rw [nib_nat x y hx hy]

theorem unh_two (a b : UInt8) (l : List UInt8) : unhexL (a :: b :: l) = match hexv a, hexv b with
    | some x, some y => (unhexL l).map ((16 * x + y) :: ·)
    | _, _ => none := by
  rw [unhexL]
  cases hexv a <;> cases hexv b <;> cases unhexL l <;> rfl
theorem drop_two {l : List UInt8} {k : Nat} {a b : UInt8} (ha : l[k]? = some a) (hb : l[k + 1]? = some b) : l.drop k = a :: b :: l.drop (k + 2) := by
  obtain ⟨h1, h2⟩ := List.getElem?_eq_some_iff.1 ha
  obtain ⟨h3, h4⟩ := List.getElem?_eq_some_iff.1 hb
  rw [List.drop_eq_getElem_cons h1, h2, List.drop_eq_getElem_cons h3, h4]
theorem UnhAt.bad {l : List UInt8} {k : Nat} {r : List UInt8} (h : UnhAt l k r) {a b : UInt8} (ha : l[2 * k]? = some a) (hb : l[2 * k + 1]? = some b) (hn : hexv a = none ∨ hexv b = none) : unhexL l = none := by
  rw [h.eq, drop_two ha hb, unh_two]
  rcases hn with hn | hn <;> rw [hn]
  · rfl
  · cases hexv a <;> rfl
theorem UnhAt.next {l : List UInt8} {k : Nat} {r : List UInt8} (h : UnhAt l k r) {a b x y : UInt8} (ha : l[2 * k]? = some a) (hb : l[2 * k + 1]? = some b) (hx : hexv a = some x) (hy : hexv b = some y) :
    UnhAt l (k + 1) (r ++ [16 * x + y]) := by
  refine ⟨by rw [List.length_append, h.len]; rfl, ?_⟩
  rw [h.eq, drop_two ha hb, unh_two, hx, hy, Option.map_map, show 2 * k + 2 = 2 * (k + 1) by omega]
  congr 1
  funext z
  simp
theorem UnhAt.done {l : List UInt8} {k : Nat} {r : List UInt8} (h : UnhAt l k r) (hk : l.length = 2 * k) : unhexL l = some r := by
  rw [h.eq, List.drop_of_length_le (by omega), unhexL]; simp
theorem unh_odd : ∀ (l : List UInt8), l.length % 2 = 1 → unhexL l = none
  | [], h => by simp at h
  | [_], _ => rfl
  | a :: b :: l, h => by
    rw [unh_two, unh_odd l (by simp at h; omega)]
    cases hexv a <;> cases hexv b <;> rfl

set_option maxRecDepth 20000 in
set_option maxHeartbeats 800000 in
theorem unhex_any (s : ByteArray) (w : World) (hm : s.size ≤ 140737488355000) (E : Int) (R : List UInt8) (hR : Box (R = (unhexL s.data.toList).getD [] ∧ E = if (unhexL s.data.toList).isSome then 0 else 10)) :
    Calls Tryd.prog 38 #[.string s] w fun e w' => ∃ v, e = .returned (.tuple #[v, .int .i64 E]) ∧ OwnB w' w.heap.size 5 v R ∧ Below w.heap.size w w' := by
  have hb0 := Below.refl w.heap.size w
  have hB0 := Nat.le_refl w.heap.size
  by_cases h2 : s.size % 2 = 0
  · obtain ⟨m, hsm⟩ : ∃ m, s.size = 2 * m := ⟨s.size / 2, by omega⟩
    have h3 : ((s.size : Int).tmod 2) = 0 := by rw [Int.tmod_eq_emod_of_nonneg (by omega)]; omega
    have h4 : ((s.size : Int).tdiv 2) = (m : Int) := by rw [Int.tdiv_eq_ediv_of_nonneg (by omega)]; omega
    go_enter Tryd.func38, Tryd.ntmps38
    go_wp2_with (first | (at_make; go_must (with_reducible refine lst (by with_unfolding_all rfl) (wp_makeB T_u8 hb0 hB0 (by with_unfolding_all exact ⟨_, _, _, _, rfl, rfl, rfl⟩) (n := m) (by omega) (by omega) ?_); intro A1 c1 w1 hown1 hb1 hB1 hg1)))
    obtain ⟨W, rfl⟩ : ∃ W : World, W = w1 := ⟨_, rfl⟩
    go_loopw [18] (fun i wr => ∃ k r, k ≤ m ∧ i = .int .i64 (k : Nat) ∧ Box (UnhAt s.data.toList k r) ∧ OwnB wr w.heap.size 5 (.slice A1 m c1) (r ++ List.replicate (m - k) 0) ∧ Below w.heap.size w wr) (fun i _ => m - (intOf i).toNat)
    case atStart => exact ⟨0, [], by omega, rfl, ⟨rfl, by simp⟩, hown1, hb1⟩
    case round =>
      clear hown1 hb1 hB1 hg1
      obtain ⟨k, r, hk, rfl, HU, hown, hb⟩ := hrel
      have hr := hown.rd
      by_cases hlt : k < m
      · obtain ⟨a, ha⟩ := str_at (s := s) (j := 2 * k) (by omega)
        obtain ⟨b, hbb⟩ := str_at (s := s) (j := 2 * k + 1) (by omega)
        have hia := fun W => run_strIx (P := Tryd.prog) Tryd.underlying9 ha (i := 2 * (k : Int)) (by omega) .i64 W
        have hib := fun W => run_strIx (P := Tryd.prog) Tryd.underlying9 hbb (i := 2 * (k : Int) + 1) (by omega) .i64 W
        replace ha := box ha
        replace hbb := box hbb
        by_cases hbad : hexv a = none ∨ hexv b = none
        · have hun := HU.out.bad ha.out hbb.out hbad
          have hRe := hR.out
          rw [hun] at hRe
          obtain ⟨rfl, rfl⟩ := hRe
          rcases hbad with hbad | hbad
          all_goals
            have hd := digN_no hbad
            have hd15 : 15 < ((16 : UInt8).toNat : Int) := by decide
            replace hbad := box hbad
            replace hun := box hun
            go_wp2
            go_quiet ((go_at_call 48; exact Calls.quiet_of_same (quietC (digit_any _ _))))
            go_wp2
            all_goals go_ret2
            all_goals exact ⟨_, rfl, OwnB.nil _ _ _, below_drewN hb _⟩
        · obtain ⟨x, hx⟩ : ∃ x, hexv a = some x := by
            cases h : hexv a with
            | none => exact absurd (.inl h) hbad
            | some x => exact ⟨x, rfl⟩
          obtain ⟨y, hy⟩ : ∃ y, hexv b = some y := by
            cases h : hexv b with
            | none => exact absurd (.inr h) hbad
            | some y => exact ⟨y, rfl⟩
          have hdx := (digN_some hx).1
          have hdy := (digN_some hy).1
          have hx15 := (digN_some hx).2
          have hy15 := (digN_some hy).2
          have hU2 := box (HU.out.next ha.out hbb.out hx hy)
          replace hx := box hx
          replace hy := box hy
          replace hbad := box hbad
          have hor := nib_or x y hx15 hy15
          have hnat := box (nib_nat x y hx15 hy15)
          have hset : (r ++ List.replicate (m - k) 0).set k (16 * x + y) = (r ++ [16 * x + y]) ++ List.replicate (m - (k + 1)) 0 := by
            rw [List.set_append_right _ _ (by rw [HU.out.len]; omega), HU.out.len, Nat.sub_self, show m - k = (m - (k + 1)) + 1 by omega, List.replicate_succ, List.set_cons_zero]
            simp
          replace hset := box hset
          clear hr
          go_wp2
          go_quiet ((go_at_call 48; exact Calls.quiet_of_same (quietC (digit_any _ _))))
          have hown2 := hown.drewN nq
          have hb2 := below_drewN hb nq
          have hr2 := hown2.rd
          generalize wr.drewN nq = W2 at *
          go_wp2_with (first | (with_reducible refine lst (by with_unfolding_all rfl) (wp_indexAddr T_u8 hr2 (by with_unfolding_all exact ⟨_, _, _, _, rfl, rfl, rfl⟩) (by omega) (by omega) ?_)) | ((with_reducible refine lst (by with_unfolding_all rfl) (wp_storeB I_u8 hown2 hb2 (by with_unfolding_all exact ⟨_, _, rfl, rfl, rfl⟩) (by first | omega | (simp; omega)) ?_ ?_)); exact byte_of (by omega) (by omega); intro w1 d1 hd1 hown1 hb1 hs1))
          go_roundw
          have hd : d1 = 16 * x + y := UInt8.toNat_inj.1 (by have := hd1.out; have := hnat.out; omega)
          rw [hd, show (k : Int).toNat * 1 = k by simp, hset.out] at hown1
          case rel => exact ⟨k + 1, _, by omega, by go_num, hU2, hown1, hb1⟩
          case measure => simp [intOf]; omega
      · have hd := HU.out.done (by rw [str_len]; omega)
        have hRe := hR.out
        rw [hd] at hRe
        obtain ⟨rfl, rfl⟩ := hRe
        replace hd := box hd
        rw [show m - k = 0 by omega, List.replicate_zero, List.append_nil] at hown
        go_wp2
        go_ret2
        exact ⟨_, rfl, hown, hb⟩
  · have hun := unh_odd s.data.toList (by rw [str_len]; omega)
    have hRe := hR.out
    rw [hun] at hRe
    obtain ⟨rfl, rfl⟩ := hRe
    replace hun := box hun
    go_enter Tryd.func38, Tryd.ntmps38
    go_wp2
    go_ret2
    exact ⟨_, rfl, OwnB.nil _ _ _, Below.refl _ _⟩
end Go.Proofs.YtgcoebndhnijgaaDoor
