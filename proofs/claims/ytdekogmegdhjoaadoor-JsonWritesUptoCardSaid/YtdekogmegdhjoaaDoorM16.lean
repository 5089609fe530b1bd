/-
  Layer 6: the document's Decimal, walked.
  Layer 6: the document's quote, walked.
-/
import Derived.Test.YtdekogmegdhjoaaDoorM15
import Derived.Test.YtdekogmegdhjoaaDoorM03
namespace Go.Proofs.YtdekogmegdhjoaaDoor
open Go.RowKit
set_option linter.unusedSimpArgs false

/-- A slice literal of one byte that was reckoned. -/
theorem wp_fb1 {P : Program} {o : Oper} {a : Act} {K : Act → World → Prop} {Q : Exit → Act → World → Prop} {X : List Nat} {w0 w : World} {es : List Ent} {sl e : TypeId} (T : SlT P sl e 1 1 (.int .u8 0)) (hF : Fr X w0 w es) {p : Operand} (ho : o.op = .buildSlice sl 1 #[(0, p)]) {z : Int} {c : UInt8} (hz : z = (c.toNat : Int)) (hv : a.eval p = .int .u8 z)
    (k : ∀ w' g, Fr X w0 w' (Ent.bytes w0.heap.size e (.slice (some ⟨g, 0, none⟩) 1 1) [c] :: es) → w'.heap.size = w.heap.size + 1 → K (a.put o.dst (.slice (some ⟨g, 0, none⟩) 1 1)) w') : o.wp P a w K Q := by
  subst hz
  exact wp_fbsl T hF ho (vs := [bv c]) (by simp [hv, parts, bv]) rfl (by decide) (by simp [bv, Value.cells]) k
theorem str_app (a b : List UInt8) : (⟨a.toArray⟩ : ByteArray) ++ (⟨b.toArray⟩ : ByteArray) = ⟨(a ++ b).toArray⟩ := by
  apply ByteArray.ext
  simp
theorem str_cons (c : UInt8) (b : List UInt8) : ({ data := #[c] } : ByteArray) ++ (⟨b.toArray⟩ : ByteArray) = ⟨(c :: b).toArray⟩ := str_app [c] b
theorem dig_byte (m : Nat) : 48 + (m : Int) % 10 = ((UInt8.ofNat (48 + m % 10)).toNat : Int) := by
  rw [UInt8.toNat_ofNat']
  omega
set_option maxRecDepth 20000 in
set_option maxHeartbeats 6400000 in
theorem rdec_nat (u : Nat) (w : World) (hu : u ≤ 9007199254740991) :
    Calls Tryd.prog 62 #[.int .i64 (u : Int)] w fun e w' => e = .returned (.string ⟨(Lib.decDigits u).toArray⟩) ∧ Below w.heap.size w w' := by
  have hF0 := Fr.nil w
  obtain ⟨R, hR⟩ : ∃ R, R = Lib.decDigits u := ⟨_, rfl⟩
  rw [← hR]
  replace hR := box hR
  have hd0 : decide ((u : Int) < 0) = false := decide_eq_false (by omega)
  have hRl : Box (R.length ≤ 20) := box (by have := decDigits_len 18 u (by omega); rw [hR.out]; omega)
  replace hu := box hu
  go_enter Tryd.func62, Tryd.ntmps62
  go_wp2_with fail
  go_loopg [0, 3] u (fun gk a b wr => ∃ (m : Nat) (s : List UInt8), m ≤ 9007199254740991 ∧ Box (gk = m) ∧ a = .int .i64 (m : Int) ∧ b = .string ⟨s.toArray⟩ ∧ Box (R = Lib.decDigits m ++ s) ∧ Fr [] w wr [])
  case atStart => exact ⟨u, [], hu.out, box rfl, rfl, rfl, box (by rw [hR.out, List.append_nil]), hF0⟩
  case round =>
    clear hF0 hd0
    obtain ⟨m, s, hm, hk, rfl, rfl, hRm, hF⟩ := hrel
    have hsl : s.length ≤ 20 := by have h1 := hRl.out; have h2 := congrArg List.length hRm.out; rw [List.length_append] at h2; omega
    by_cases h9 : 9 < m
    · have hd : decide ((9 : Int) < (m : Int)) = true := decide_eq_true (by omega)
      obtain ⟨c, hc⟩ : ∃ c, c = UInt8.ofNat (48 + m % 10) := ⟨_, rfl⟩
      have hdb := box (dig_byte m)
      rw [← hc] at hdb
      have hRn : Box (R = Lib.decDigits (m / 10) ++ (c :: s)) := box (by rw [hRm.out, Lib.decDigits, dif_neg (by omega), hc, List.append_assoc]; rfl)
      replace hc := box hc
      go_wp2_with (first | ((with_reducible refine lst (by with_unfolding_all rfl) (wp_fb1 T_u8 hF rfl hdb.out (by with_unfolding_all rfl) ?_)); intro w2 g2 hF2 hz2; have hr2 := hF2.rdOwn0) | (with_reducible refine lst (by with_unfolding_all rfl) (wp_b2s T_u8 Tryd.underlying5 Tryd.underlying9 hr2 (by with_unfolding_all exact ⟨_, rfl, rfl⟩) ?_)))
      go_roundg (m / 10)
      case rel => exact ⟨m / 10, c :: s, by omega, box rfl, by go_num, by rw [← str_cons c s], hRn, hF2.tail⟩
      case measure => have := hk.out; omega
    · have hd : decide ((9 : Int) < (m : Int)) = false := decide_eq_false (by omega)
      obtain ⟨c, hc⟩ : ∃ c, c = UInt8.ofNat (48 + m) := ⟨_, rfl⟩
      have hdb : Box (48 + (m : Int) = (c.toNat : Int)) := box (by rw [hc, UInt8.toNat_ofNat']; omega)
      have hRn : Box (R = c :: s) := box (by rw [hRm.out, Lib.decDigits, dif_pos (by omega), hc]; rfl)
      replace hc := box hc
      go_wp2_with (first | ((with_reducible refine lst (by with_unfolding_all rfl) (wp_fb1 T_u8 hF rfl hdb.out (by with_unfolding_all rfl) ?_)); intro w2 g2 hF2 hz2; have hr2 := hF2.rdOwn0) | (with_reducible refine lst (by with_unfolding_all rfl) (wp_b2s T_u8 Tryd.underlying5 Tryd.underlying9 hr2 (by with_unfolding_all exact ⟨_, rfl, rfl⟩) ?_)))
      go_ret
      exact ⟨by rw [hRn.out, ← str_cons c s]; rfl, hF2.below⟩
theorem natAbs_neg' {n : Int} (h : n < 0) : (-n) = (n.natAbs : Int) := by omega
set_option maxRecDepth 20000 in
set_option maxHeartbeats 6400000 in
theorem rdec_any (n : Int) (w : World) (h0 : -9007199254740991 ≤ n) (h1 : n ≤ 9007199254740991) :
    Calls Tryd.prog 62 #[.int .i64 n] w fun e w' => e = .returned (.string ⟨(Lib.itoa n).toArray⟩) ∧ Below w.heap.size w w' := by
  by_cases hn : n < 0
  · obtain ⟨R, hR⟩ : ∃ R, R = Lib.itoa n := ⟨_, rfl⟩
    rw [← hR]
    have hit : Box (R = 45 :: Lib.decDigits n.natAbs) := box (by rw [hR]; unfold Lib.itoa; rw [if_pos hn])
    have hdl := decDigits_len 18 n.natAbs (by omega)
    have hd0 : decide (n < 0) = true := decide_eq_true hn
    have hcall := box (fun w' => rdec_nat n.natAbs w' (by omega))
    obtain ⟨N, hN⟩ : ∃ N : Nat, N = n.natAbs := ⟨_, rfl⟩
    rw [← hN] at hcall hit hdl
    have hneg : IntKind.i64.wrap (-n) = (N : Int) := by
      rw [hN, ← natAbs_neg' hn]
      simp [IntKind.wrap, IntKind.bits, IntKind.signed]
      split <;> omega
    have hneg2 : -n = (N : Int) := by rw [hN, ← natAbs_neg' hn]
    replace hneg2 := box hneg2
    replace hN := box hN
    replace hn := box hn
    replace hR := box hR
    replace h0 := box h0
    replace h1 := box h1
    go_enter Tryd.func62, Tryd.ntmps62
    go_wp2_with fail
    refine (hcall.out _).mono ?_
    rintro e w2 ⟨rfl, hb2⟩
    go_wp2_with fail
    go_ret
    exact ⟨by rw [hit.out, ← str_cons 45 (Lib.decDigits N)]; rfl, hb2⟩
  · obtain ⟨u, rfl⟩ : ∃ u : Nat, n = (u : Int) := ⟨n.toNat, by omega⟩
    have : Lib.itoa (u : Int) = Lib.decDigits u := by unfold Lib.itoa; rw [if_neg hn, Int.toNat_natCast]
    rw [this]
    exact rdec_nat u w (by omega)
end Go.Proofs.YtdekogmegdhjoaaDoor

namespace Go.Proofs.YtdekogmegdhjoaaDoor
open Go.RowKit
set_option linter.unusedSimpArgs false

/-- A sign of a text, by its place. -/
theorem run_sidx {P : Program} {t : TypeId} (ht : P.underlying t = some .string) {s : ByteArray} {kd : IntKind} {j : Int} {k : Nat} {c : UInt8} (hj : j = (k : Int)) (hc : s.data.toList[k]? = some c) (w : World) : (Instr.index t (.string s) (.int kd j)).run P w = .ok (.int .u8 (c.toNat : Int)) w := by
  subst hj
  have hk : k < s.data.toList.length := (List.getElem?_eq_some_iff.1 hc).1
  have hk2 : k < s.size := by rw [← str_len s]; exact hk
  have he : s[k]'hk2 = c := by
    have := (List.getElem?_eq_some_iff.1 hc).2
    rw [← this]
    rfl
  rw [run_index_string w t s kd _ ht, dif_pos ⟨by omega, by omega⟩]
  simp only [Int.toNat_natCast, he]
theorem wp_sidx {P : Program} {o : Oper} {a : Act} {w : World} {K : Act → World → Prop} {Q : Exit → Act → World → Prop} {t : TypeId} (ht : P.underlying t = some .string) {s : ByteArray} {j : Int} {k : Nat} {c : UInt8} (hj : j = (k : Int)) (hc : s.data.toList[k]? = some c)
    (ho : ∃ x i kd, o.op = .index t x i ∧ a.eval x = .string s ∧ a.eval i = .int kd j) (hK : K (a.put o.dst (.int .u8 (c.toNat : Int))) w) : o.wp P a w K Q := by
  obtain ⟨x, i, kd, ho, hx, hi⟩ := ho
  refine wp_run (v := .int .u8 (c.toNat : Int)) (w' := w) ?_ hK
  unfold execOp
  simp [ho, hx, hi, run_sidx ht hj hc]
theorem yi_sidx {P : Program} {S : World → Prop} {ops : Array Oper} {o : Oper} {a : Act} (hw : Region.wanted o (yielded ops a.tmps) = true) {t : TypeId} (ht : P.underlying t = some .string) {s : ByteArray} {j : Int} {k : Nat} {c : UInt8} (hj : j = (k : Int)) (hc : s.data.toList[k]? = some c)
    (ho : ∃ x i kd, o.op = .index t x i ∧ a.eval x = .string s ∧ a.eval i = .int kd j) : YieldsIf P ops S o (.int .u8 (c.toNat : Int)) a := by
  obtain ⟨x, i, kd, ho, hx, hi⟩ := ho
  refine .inl ⟨hw, fun w _ => ?_⟩
  unfold execOp
  simp [ho, hx, hi, run_sidx ht hj hc]
def qPairs : List (UInt8 × UInt8) := [(34, 34), (92, 92), (8, 98), (12, 102), (10, 110), (13, 114), (9, 116)]
/-- What stands behind the first short signs: the bytes, and whether one was met. -/
def qSt (y : UInt8) (O : List UInt8) (q : Nat) : List UInt8 × Bool := (qPairs.take q).foldl (fun st p => if y = p.1 then (st.1 ++ [92, p.2], true) else st) (O, false)
theorem qPairs_at : ∀ q, q < 7 → ∃ a b, ([34, 92, 8, 12, 10, 13, 9] : List UInt8)[q]? = some a ∧ ([34, 92, 98, 102, 110, 114, 116] : List UInt8)[q]? = some b ∧ qPairs[q]? = some (a, b) := by
  intro q hq
  match q, hq with
  | 0, _ => exact ⟨_, _, rfl, rfl, rfl⟩
  | 1, _ => exact ⟨_, _, rfl, rfl, rfl⟩
  | 2, _ => exact ⟨_, _, rfl, rfl, rfl⟩
  | 3, _ => exact ⟨_, _, rfl, rfl, rfl⟩
  | 4, _ => exact ⟨_, _, rfl, rfl, rfl⟩
  | 5, _ => exact ⟨_, _, rfl, rfl, rfl⟩
  | 6, _ => exact ⟨_, _, rfl, rfl, rfl⟩
theorem qSt_step {y a b : UInt8} {O : List UInt8} {q : Nat} (h : qPairs[q]? = some (a, b)) : qSt y O (q + 1) = if y = a then ((qSt y O q).1 ++ [92, b], true) else qSt y O q := by
  unfold qSt
  rw [List.take_add_one, h, Option.toList_some, List.foldl_append]
  rfl
theorem qSt_end {y : UInt8} {O : List UInt8} : (qSt y O 7).2 = true ∧ (qSt y O 7).1 = O ++ jQc y ∨ (qSt y O 7).2 = false ∧ (qSt y O 7).1 = O ∧ (y.toNat < 32 ∧ jQc y = [92, 117, 48, 48, jHexD (y.toNat / 16), jHexD (y.toNat % 16)] ∨ ¬ y.toNat < 32 ∧ jQc y = [y]) := by
  unfold qSt qPairs jQc
  simp only [List.take_succ_cons, List.take_zero, List.foldl_cons, List.foldl_nil]
  by_cases h1 : y = 34
  · subst h1; left; exact ⟨by simp, by simp⟩
  by_cases h2 : y = 92
  · subst h2; left; exact ⟨by simp, by simp⟩
  by_cases h3 : y = 8
  · subst h3; left; exact ⟨by simp, by simp⟩
  by_cases h4 : y = 12
  · subst h4; left; exact ⟨by simp, by simp⟩
  by_cases h5 : y = 10
  · subst h5; left; exact ⟨by simp, by simp⟩
  by_cases h6 : y = 13
  · subst h6; left; exact ⟨by simp, by simp⟩
  by_cases h7 : y = 9
  · subst h7; left; exact ⟨by simp, by simp⟩
  right
  simp only [h1, h2, h3, h4, h5, h6, h7, if_false, or_self, true_and]
  by_cases h : y.toNat < 32
  · left; exact ⟨h, by rw [if_pos h]⟩
  · right; exact ⟨h, by rw [if_neg h]⟩
theorem hex_at : ∀ n, n < 16 → ([48, 49, 50, 51, 52, 53, 54, 55, 56, 57, 97, 98, 99, 100, 101, 102] : List UInt8)[n]? = some (jHexD n) := by decide +kernel
theorem u8_div (y : UInt8) : (y.toNat : Int) / 16 = ((y.toNat / 16 : Nat) : Int) := by omega
theorem u8_rem (y : UInt8) : (y.toNat : Int) % 16 = ((y.toNat % 16 : Nat) : Int) := by omega

set_option maxRecDepth 20000 in
set_option maxHeartbeats 12800000 in
theorem rquote_any (X : List Nat) (w0 w : World) (A : Option Addr) (c : Nat) (out : List UInt8) (rest : List Ent) (s : ByteArray) (hroom : out.length + 6 * s.size ≤ 140737488000000)
    (hF : Fr X w0 w (Ent.bytes w0.heap.size 5 (.slice A out.length c) out :: rest)) :
    Calls Tryd.prog 63 #[.slice A out.length c, .string s] w fun e w' => ∃ v, e = .returned v ∧ Fr X w0 w' (Ent.bytes w0.heap.size 5 v (out ++ jQuote s.data.toList) :: rest) := by
  have hsl : s.data.toList.length = s.size := str_len s
  replace hsl := box hsl
  go_enter Tryd.func63, Tryd.ntmps63
  go_wp2_with (first | ((with_reducible refine lst (by with_unfolding_all rfl) (wp_fbsl T_u8 hF (vs := [bv 34]) (by with_unfolding_all rfl) (by with_unfolding_all rfl) (by with_unfolding_all rfl) (by decide) (by simp [bv, Value.cells]) ?_)); intro w1 g1 hF1 hz1; have hr1 : Rd w1 (· < w1.heap.size) (some ⟨g1, 0, none⟩) 1 1 ([34].map bv) := hF1.rdOwn0; replace hF1 : Fr _ _ w1 (Ent.bytes _ 5 (.slice (some ⟨g1, 0, none⟩) 1 1) [34] :: _) := hF1) | ((with_reducible refine lst (by with_unfolding_all rfl) (wp_fapp1 T_u8 hF1 (Nat.le_refl _) hr1 (by with_unfolding_all exact ⟨_, _, rfl, rfl, rfl⟩) (by omega) ?_)); intro v2 w2 hF2 hz2))
  have hF3 := hF2.tail
  clear hF hF1 hF2
  go_loopg [0, 8] s.size (fun k v i wr => ∃ (j : Nat) (O : List UInt8), j ≤ s.size ∧ Box (k = s.size - j) ∧ i = .int .i64 (j : Int) ∧ O.length ≤ out.length + 1 + 6 * j ∧ Box (out ++ jQuote s.data.toList = O ++ (s.data.toList.drop j).flatMap jQc ++ [34]) ∧ Fr X w0 wr (Ent.bytes w0.heap.size 5 v O :: rest))
  case atStart => exact ⟨0, _, by omega, box rfl, rfl, by simp, box (by simp [jQuote]), hF3⟩
  case round =>
    clear hF3
    obtain ⟨j, O, hj, hk, rfl, hO, hQ, hF⟩ := hrel
    have hkf : Box (gk = s.size - j) := hk
    clear hk
    by_cases hlt : j < s.size
    · obtain ⟨y, hy'⟩ : ∃ y, s.data.toList[j]? = some y := ⟨s.data.toList[j]'(by rw [hsl.out]; exact hlt), by simp⟩
      have hdr : s.data.toList.drop j = y :: s.data.toList.drop (j + 1) := by
        rw [List.drop_eq_getElem_cons (by rw [hsl.out]; exact hlt), (List.getElem?_eq_some_iff.1 hy').2]
      have hgo : Box (out ++ jQuote s.data.toList = O ++ jQc y ++ (s.data.toList.drop (j + 1)).flatMap jQc ++ [34]) := box (by rw [hQ.out, hdr, List.flatMap_cons]; simp)
      have hql := jQc_len y
      have hO2 : Box ((O ++ jQc y).length ≤ out.length + 1 + 6 * (j + 1)) := box (by rw [List.length_append]; omega)
      have hyb := y.toNat_lt
      replace hql := box hql
      have hy := box hy'
      clear hy' hdr hQ
      go_wp2_with fail
      go_loopg [0, 9, 10] 7 (fun gq v d k wr => ∃ (q : Nat) (U : List UInt8) (b : Bool), q ≤ 7 ∧ Box (gq = 7 - q) ∧ k = .int .i64 (q : Int) ∧ d = .bool b ∧ Box (qSt y O q = (U, b)) ∧ U.length ≤ O.length + 2 * q ∧ Fr X w0 wr (Ent.bytes w0.heap.size 5 v U :: rest))
      case atStart => exact ⟨0, O, false, by omega, box rfl, rfl, rfl, box rfl, by omega, hF⟩
      case round =>
        clear hF
        obtain ⟨q, U, d, hq, hk, rfl, rfl, hS, hUl, hF⟩ := hrel
        have hkq : Box (_ = 7 - q) := hk
        clear hk
        obtain ⟨Ao, co, rfl, hco, hro⟩ := (hF.own (i := 0) rfl).arg
        by_cases hq7 : q < 7
        · obtain ⟨a, b, ha', hb', hp⟩ := qPairs_at q hq7
          have hst' := qSt_step (y := y) (O := O) hp
          rw [hS.out] at hst'
          have ha := box ha'
          have hb := box hb'
          clear ha' hb' hp
          by_cases hya : y = a
          · subst hya
            rw [if_pos rfl] at hst'
            have hst := box hst'
            clear hst'
            go_upto_region 12 with fail
            have hFd := hF.drew
            refine wp_region_held (S := fun _ => True) (by kernel_rfl) ?_
            change wpAnyH _ _ _ _ _ _ _ _ (World.drew _)
            refine tkp 0 trivial ?_
            (try simp only [Act.put, List.setIfInBounds_toArray, List.set_cons_zero, List.set_cons_succ])
            refine tkp 1 trivial ?_
            (try simp only [Act.put, List.setIfInBounds_toArray, List.set_cons_zero, List.set_cons_succ])
            refine tky 2 (y := yi_sidx (by with_unfolding_all rfl) Tryd.underlying9 rfl hy.out (by with_unfolding_all exact ⟨_, _, _, rfl, rfl, rfl⟩)) (s := trivial) (h := ?_)
            (try simp only [Act.put, List.setIfInBounds_toArray, List.set_cons_zero, List.set_cons_succ])
            refine tkp 3 trivial ?_
            (try simp only [Act.put, List.setIfInBounds_toArray, List.set_cons_zero, List.set_cons_succ])
            refine tkp 4 trivial ?_
            (try simp only [Act.put, List.setIfInBounds_toArray, List.set_cons_zero, List.set_cons_succ])
            refine tky 5 (y := yi_sidx (by with_unfolding_all rfl) Tryd.underlying9 rfl ha.out (by with_unfolding_all exact ⟨_, _, _, rfl, rfl, rfl⟩)) (s := trivial) (h := ?_)
            (try simp only [Act.put, List.setIfInBounds_toArray, List.set_cons_zero, List.set_cons_succ])
            refine tkp 6 trivial ?_
            (try simp only [Act.put, List.setIfInBounds_toArray, List.set_cons_zero, List.set_cons_succ])
            refine wpAnyH_done (by kernel_rfl) ?_ _
            go_wp2_with (first | ((with_reducible refine lst (by with_unfolding_all rfl) (wp_fbsl T_u8 hFd (vs := [bv 92]) (by with_unfolding_all rfl) (by with_unfolding_all rfl) (by with_unfolding_all rfl) (by decide) (by simp [bv, Value.cells]) ?_)); intro w2 g2 hF2 hz2; have hr2 : Rd w2 (· < w2.heap.size) (some ⟨g2, 0, none⟩) 1 1 ([92].map bv) := hF2.rdOwn0; replace hF2 : Fr _ _ w2 (Ent.bytes _ 5 (.slice (some ⟨g2, 0, none⟩) 1 1) [92] :: _) := hF2) | ((with_reducible refine lst (by with_unfolding_all rfl) (wp_fapp1 T_u8 hF2 (Nat.le_refl _) hr2 (by with_unfolding_all exact ⟨_, _, rfl, rfl, rfl⟩) (by omega) ?_)); intro v3 w3 hF3 hz3) | ((with_reducible refine lst (by with_unfolding_all rfl) (wp_sidx Tryd.underlying9 (k := q) rfl hb.out (by with_unfolding_all exact ⟨_, _, _, rfl, rfl, rfl⟩) ?_))) | ((with_reducible refine lst (by with_unfolding_all rfl) (wp_fbsl T_u8 hF3 (vs := [bv b]) (by with_unfolding_all rfl) (by with_unfolding_all rfl) (by with_unfolding_all rfl) (by decide) (by simp [bv, Value.cells]) ?_)); intro w4 g4 hF4 hz4; have hr4 : Rd w4 (· < w4.heap.size) (some ⟨g4, 0, none⟩) 1 1 ([b].map bv) := hF4.rdOwn0; replace hF4 : Fr _ _ w4 (Ent.bytes _ 5 (.slice (some ⟨g4, 0, none⟩) 1 1) [b] :: _) := hF4) | ((with_reducible refine lst (by with_unfolding_all rfl) (wp_fapp2 T_u8 hF4 (Nat.le_refl _) hr4 (by with_unfolding_all exact ⟨_, _, rfl, rfl, rfl⟩) (by simp; omega) ?_)); intro v5 w5 hF5 hz5))
            go_roundg (7 - (q + 1))
            case rel => exact ⟨q + 1, U ++ [92] ++ [b], true, by omega, box rfl, by go_num, rfl, box (by rw [hst.out, List.append_assoc]; rfl), by simp only [List.length_append, List.length_cons, List.length_nil]; omega, hF5.tail.tail⟩
            case measure => have := hkq.out; omega
          · rw [if_neg hya] at hst'
            have hst := box hst'
            have hne : ((y.toNat : Int) == (a.toNat : Int)) = false := u8_ne hya
            clear hst'
            replace hya := box hya
            go_upto_region 12 with fail
            have hFd := hF.drew
            refine wp_region_held (S := fun _ => True) (by kernel_rfl) ?_
            change wpAnyH _ _ _ _ _ _ _ _ (World.drew _)
            refine tkp 0 trivial ?_
            (try simp only [Act.put, List.setIfInBounds_toArray, List.set_cons_zero, List.set_cons_succ])
            refine tkp 1 trivial ?_
            (try simp only [Act.put, List.setIfInBounds_toArray, List.set_cons_zero, List.set_cons_succ])
            refine tky 2 (y := yi_sidx (by with_unfolding_all rfl) Tryd.underlying9 rfl hy.out (by with_unfolding_all exact ⟨_, _, _, rfl, rfl, rfl⟩)) (s := trivial) (h := ?_)
            (try simp only [Act.put, List.setIfInBounds_toArray, List.set_cons_zero, List.set_cons_succ])
            refine tkp 3 trivial ?_
            (try simp only [Act.put, List.setIfInBounds_toArray, List.set_cons_zero, List.set_cons_succ])
            refine tkp 4 trivial ?_
            (try simp only [Act.put, List.setIfInBounds_toArray, List.set_cons_zero, List.set_cons_succ])
            refine tky 5 (y := yi_sidx (by with_unfolding_all rfl) Tryd.underlying9 rfl ha.out (by with_unfolding_all exact ⟨_, _, _, rfl, rfl, rfl⟩)) (s := trivial) (h := ?_)
            (try simp only [Act.put, List.setIfInBounds_toArray, List.set_cons_zero, List.set_cons_succ])
            refine tkp 6 trivial ?_
            (try simp only [Act.put, List.setIfInBounds_toArray, List.set_cons_zero, List.set_cons_succ])
            refine wpAnyH_done (by kernel_rfl) ?_ _
            go_wp2_with fail
            go_roundg (7 - (q + 1))
            case rel => exact ⟨q + 1, U, d, by omega, box rfl, by go_num, rfl, hst, by omega, hFd⟩
            case measure => have := hkq.out; omega
        · obtain rfl : q = 7 := by omega
          have hE := @qSt_end y O
          rw [hS.out] at hE
          simp only [] at hE
          clear hq7 hq
          rcases hE with ⟨hd, hU⟩ | ⟨hd, hU, hc⟩
          · subst hd
            replace hU := box hU
            go_wp2_with fail
            go_roundg (s.size - (j + 1))
            case rel => exact ⟨j + 1, U, by omega, box rfl, by go_num, by rw [hU.out]; exact hO2.out, box (by rw [hU.out]; exact hgo.out), hF⟩
            case measure => have := hkf.out; omega
          · subst hd
            subst hU
            rcases hc with ⟨h32, hc⟩ | ⟨h32, hc⟩
            · rw [hc] at hgo hO2
              have d32 : decide ((y.toNat : Int) < 32) = true := decide_eq_true (by omega)
              have hx1 := box (hex_at (y.toNat / 16) (by omega))
              have hx2 := box (hex_at (y.toNat % 16) (by omega))
              obtain ⟨p, hp⟩ : ∃ p, p = jHexD (y.toNat / 16) := ⟨_, rfl⟩
              obtain ⟨r, hr⟩ : ∃ r, r = jHexD (y.toNat % 16) := ⟨_, rfl⟩
              rw [← hp] at hgo hO2 hx1
              rw [← hr] at hgo hO2 hx2
              have hj1 := box (u8_div y)
              have hj2 := box (u8_rem y)
              clear hp hr hc
              replace h32 := box h32
              go_wp2_with (first | ((with_reducible refine lst (by with_unfolding_all rfl) (wp_sidx Tryd.underlying9 (k := j) rfl hy.out (by with_unfolding_all exact ⟨_, _, _, rfl, rfl, rfl⟩) ?_))) | ((with_reducible refine lst (by with_unfolding_all rfl) (wp_fbsl T_u8 hF (vs := [bv 92, bv 117, bv 48, bv 48]) (by with_unfolding_all rfl) (by with_unfolding_all rfl) (by with_unfolding_all rfl) (by decide) (by simp [bv, Value.cells]) ?_)); intro w2 g2 hF2 hz2; have hr2 : Rd w2 (· < w2.heap.size) (some ⟨g2, 0, none⟩) 1 4 (([92,117,48,48] : List UInt8).map bv) := hF2.rdOwn (i := 0) rfl) | ((with_reducible refine lst (by with_unfolding_all rfl) (wp_fmark T_u8 Tryd.underlying5 hF2 (by with_unfolding_all exact ⟨_, rfl, rfl⟩) ?_)); intro w3 hF3 hz3) | ((with_reducible refine lst (by with_unfolding_all rfl) (wp_fapp1 T_u8 hF3 (Nat.le_refl _) (hF3.rd (i := 0) rfl : Rd _ _ _ 1 4 (([92,117,48,48] : List UInt8).map bv)) (by with_unfolding_all exact ⟨_, _, rfl, rfl, rfl⟩) (by simp; omega) ?_)); intro v4 w4 hF4 hz4) | ((with_reducible refine lst (by with_unfolding_all rfl) (wp_sidx Tryd.underlying9 (k := y.toNat / 16) (by first | exact hj1.out | exact hj2.out | omega) hx1.out (by with_unfolding_all exact ⟨_, _, _, rfl, rfl, rfl⟩) ?_))) | ((with_reducible refine lst (by with_unfolding_all rfl) (wp_sidx Tryd.underlying9 (k := y.toNat % 16) (by first | exact hj2.out | omega) hx2.out (by with_unfolding_all exact ⟨_, _, _, rfl, rfl, rfl⟩) ?_))) | ((with_reducible refine lst (by with_unfolding_all rfl) (wp_fbsl T_u8 hF4 (vs := [bv p]) (by with_unfolding_all rfl) (by with_unfolding_all rfl) (by with_unfolding_all rfl) (by decide) (by simp [bv, Value.cells]) ?_)); intro w5 g5 hF5 hz5; have hr5 : Rd w5 (· < w5.heap.size) (some ⟨g5, 0, none⟩) 1 1 ([p].map bv) := hF5.rdOwn0; replace hF5 : Fr _ _ w5 (Ent.bytes _ 5 (.slice (some ⟨g5, 0, none⟩) 1 1) [p] :: _) := hF5) | ((with_reducible refine lst (by with_unfolding_all rfl) (wp_fapp2 T_u8 hF5 (Nat.le_refl _) hr5 (by with_unfolding_all exact ⟨_, _, rfl, rfl, rfl⟩) (by simp; omega) ?_)); intro v6 w6 hF6 hz6) | ((with_reducible refine lst (by with_unfolding_all rfl) (wp_fbsl T_u8 hF6 (vs := [bv r]) (by with_unfolding_all rfl) (by with_unfolding_all rfl) (by with_unfolding_all rfl) (by decide) (by simp [bv, Value.cells]) ?_)); intro w7 g7 hF7 hz7; have hr7 : Rd w7 (· < w7.heap.size) (some ⟨g7, 0, none⟩) 1 1 ([r].map bv) := hF7.rdOwn0; replace hF7 : Fr _ _ w7 (Ent.bytes _ 5 (.slice (some ⟨g7, 0, none⟩) 1 1) [r] :: _) := hF7) | ((with_reducible refine lst (by with_unfolding_all rfl) (wp_fapp3 T_u8 hF7 (Nat.le_refl _) hr7 (by with_unfolding_all exact ⟨_, _, rfl, rfl, rfl⟩) (by simp; omega) ?_)); intro v8 w8 hF8 hz8))
              go_roundg (s.size - (j + 1))
              case rel => exact ⟨j + 1, U ++ [92, 117, 48, 48, p, r], by omega, box rfl, by go_num, hO2.out, hgo, by have h5 := hF8.tail.tail.tail; simp only [List.append_assoc, List.cons_append, List.nil_append] at h5; exact h5⟩
              case measure => have := hkf.out; omega
            · rw [hc] at hgo hO2
              have d32 : decide ((y.toNat : Int) < 32) = false := decide_eq_false (by omega)
              replace h32 := box h32
              clear hc
              go_wp2_with (first | ((with_reducible refine lst (by with_unfolding_all rfl) (wp_sidx Tryd.underlying9 (k := j) rfl hy.out (by with_unfolding_all exact ⟨_, _, _, rfl, rfl, rfl⟩) ?_))) | ((with_reducible refine lst (by with_unfolding_all rfl) (wp_fbsl T_u8 hF (vs := [bv y]) (by with_unfolding_all rfl) (by with_unfolding_all rfl) (by with_unfolding_all rfl) (by decide) (by simp [bv, Value.cells]) ?_)); intro w2 g2 hF2 hz2; have hr2 : Rd w2 (· < w2.heap.size) (some ⟨g2, 0, none⟩) 1 1 ([y].map bv) := hF2.rdOwn0; replace hF2 : Fr _ _ w2 (Ent.bytes _ 5 (.slice (some ⟨g2, 0, none⟩) 1 1) [y] :: _) := hF2) | ((with_reducible refine lst (by with_unfolding_all rfl) (wp_fapp1 T_u8 hF2 (Nat.le_refl _) hr2 (by with_unfolding_all exact ⟨_, _, rfl, rfl, rfl⟩) (by omega) ?_)); intro v3 w3 hF3 hz3))
              go_roundg (s.size - (j + 1))
              case rel => exact ⟨j + 1, U ++ [y], by omega, box rfl, by go_num, hO2.out, hgo, hF3.tail⟩
              case measure => have := hkf.out; omega
    · have hjs : s.size = j := by omega
      have hend : Box (out ++ jQuote s.data.toList = O ++ [34]) := box (by rw [hQ.out, List.drop_of_length_le (by rw [hsl.out]; omega)]; simp)
      obtain ⟨Ao, co, rfl, hco, hro⟩ := (hF.own (i := 0) rfl).arg
      clear hQ hkf
      go_wp2_with (first | ((with_reducible refine lst (by with_unfolding_all rfl) (wp_fbsl T_u8 hF (vs := [bv 34]) (by with_unfolding_all rfl) (by with_unfolding_all rfl) (by with_unfolding_all rfl) (by decide) (by simp [bv, Value.cells]) ?_)); intro w1 g1 hF1 hz1; have hr1 : Rd w1 (· < w1.heap.size) (some ⟨g1, 0, none⟩) 1 1 ([34].map bv) := hF1.rdOwn0; replace hF1 : Fr _ _ w1 (Ent.bytes _ 5 (.slice (some ⟨g1, 0, none⟩) 1 1) [34] :: _) := hF1) | ((with_reducible refine lst (by with_unfolding_all rfl) (wp_fapp1 T_u8 hF1 (Nat.le_refl _) hr1 (by with_unfolding_all exact ⟨_, _, rfl, rfl, rfl⟩) (by omega) ?_)); intro v2 w2 hF2 hz2))
      go_ret
      exact ⟨_, rfl, by rw [hend.out]; exact hF2.tail⟩

end Go.Proofs.YtdekogmegdhjoaaDoor
