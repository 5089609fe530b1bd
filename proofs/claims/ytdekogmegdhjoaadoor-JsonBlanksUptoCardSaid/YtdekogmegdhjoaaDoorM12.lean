/-
  Layer 6: what is written, in plain words; the walk of the program's quoted.
-/
import Derived.Test.YtdekogmegdhjoaaDoorM09
import Derived.Test.YtdekogmegdhjoaaDoorM03
import Derived.Test.YtdekogmegdhjoaaDoorM11
namespace Go.Proofs.YtdekogmegdhjoaaDoor
open Go.RowKit
set_option linter.unusedSimpArgs false

def jHexD (n : Nat) : UInt8 := if n < 10 then UInt8.ofNat (48 + n) else UInt8.ofNat (87 + n)
/-- A sign of a text as it is written. -/
def jQc (c : UInt8) : List UInt8 :=
  if c = 34 ∨ c = 92 then [92, c]
  else if c = 8 then [92, 98]
  else if c = 9 then [92, 116]
  else if c = 10 then [92, 110]
  else if c = 12 then [92, 102]
  else if c = 13 then [92, 114]
  else if c.toNat < 32 then [92, 117, 48, 48, jHexD (c.toNat / 16), jHexD (c.toNat % 16)]
  else [c]
def jQuote (s : List UInt8) : List UInt8 := [34] ++ s.flatMap jQc ++ [34]
theorem jQc_len (c : UInt8) : (jQc c).length ≤ 6 := by
  unfold jQc
  repeat' split
  all_goals simp
theorem jQs_len : ∀ (s : List UInt8), (s.flatMap jQc).length ≤ 6 * s.length
  | [] => Nat.le_refl _
  | c :: s => by
    rw [List.flatMap_cons, List.length_append, List.length_cons]
    have := jQc_len c
    have := jQs_len s
    omega
theorem jQuote_len (s : List UInt8) : (jQuote s).length ≤ 6 * s.length + 2 := by
  have := jQs_len s
  unfold jQuote
  simp only [List.length_append, List.length_cons, List.length_nil]
  omega

set_option maxRecDepth 20000 in
set_option maxHeartbeats 12800000 in
theorem quoted_any (X : List Nat) (w0 w : World) (A : Option Addr) (c : Nat) (out : List UInt8) (rest : List Ent) (s : ByteArray) (hroom : out.length + 6 * s.size ≤ 140737488000000)
    (hF : Fr X w0 w (Ent.bytes w0.heap.size 5 (.slice A out.length c) out :: rest)) :
    Calls Tryd.prog 50 #[.slice A out.length c, .string s] w fun e w' => ∃ v, e = .returned v ∧ Fr X w0 w' (Ent.bytes w0.heap.size 5 v (out ++ jQuote s.data.toList) :: rest) := by
  have hsl : s.data.toList.length = s.size := str_len s
  replace hsl := box hsl
  go_enter Tryd.func50, Tryd.ntmps50
  go_wp2_with (first | ((with_reducible refine lst (by with_unfolding_all rfl) (wp_fbsl T_u8 hF (vs := [bv 34]) (by with_unfolding_all rfl) (by with_unfolding_all rfl) (by with_unfolding_all rfl) (by decide) (by simp [bv, Value.cells]) ?_)); intro w1 g1 hF1 hz1; have hr1 : Rd w1 (· < w1.heap.size) (some ⟨g1, 0, none⟩) 1 1 ([34].map bv) := hF1.rdOwn0; replace hF1 : Fr _ _ w1 (Ent.bytes _ 5 (.slice (some ⟨g1, 0, none⟩) 1 1) [34] :: _) := hF1) | ((with_reducible refine lst (by with_unfolding_all rfl) (wp_fapp1 T_u8 hF1 (Nat.le_refl _) hr1 (by with_unfolding_all exact ⟨_, _, rfl, rfl, rfl⟩) (by omega) ?_)); intro v2 w2 hF2 hz2))
  have hF3 := hF2.tail
  clear hF hF1 hF2
  go_loopg [0, 12] s.size (fun k v i wr => ∃ (j : Nat) (O : List UInt8), j ≤ s.size ∧ Box (k = s.size - j) ∧ i = .int .i64 (j : Int) ∧ O.length ≤ out.length + 1 + 6 * j ∧ Box (out ++ jQuote s.data.toList = O ++ (s.data.toList.drop j).flatMap jQc ++ [34]) ∧ Fr X w0 wr (Ent.bytes w0.heap.size 5 v O :: rest))
  case atStart => exact ⟨0, _, by omega, box rfl, rfl, by simp, box (by simp [jQuote]), hF3⟩
  case round =>
    clear hF3
    obtain ⟨j, O, hj, hk, rfl, hO, hQ, hF⟩ := hrel
    have hkf : Box (gk = s.size - j) := hk
    clear hk
    obtain ⟨Ao, co, rfl, hco, hro⟩ := (hF.own (i := 0) rfl).arg
    by_cases hlt : j < s.size
    · obtain ⟨y, hy⟩ : ∃ y, s.data.toList[j]? = some y := ⟨s.data.toList[j]'(by rw [hsl.out]; exact hlt), by simp⟩
      have hdr : s.data.toList.drop j = y :: s.data.toList.drop (j + 1) := by
        rw [List.drop_eq_getElem_cons (by rw [hsl.out]; exact hlt), (List.getElem?_eq_some_iff.1 hy).2]
      have hyb := y.toNat_lt
      have hsj : s[j] = y := (List.getElem?_eq_some_iff.1 hy).2
      have hgo : Box (out ++ jQuote s.data.toList = O ++ jQc y ++ (s.data.toList.drop (j + 1)).flatMap jQc ++ [34]) := box (by rw [hQ.out, hdr, List.flatMap_cons]; simp)
      have hql := jQc_len y
      have hO2 : (O ++ jQc y).length ≤ out.length + 1 + 6 * (j + 1) := by rw [List.length_append]; omega
      replace hO2 := box hO2
      clear hy hdr hQ hql
      by_cases hy34 : y = 34
      · subst hy34
        replace hgo : Box (out ++ jQuote s.data.toList = O ++ [92, 34] ++ (s.data.toList.drop (j + 1)).flatMap jQc ++ [34]) := hgo
        replace hO2 : Box ((O ++ [92, 34]).length ≤ out.length + 1 + 6 * (j + 1)) := hO2
        go_wp2_with (first | ((with_reducible refine lst (by with_unfolding_all rfl) (wp_fbsl T_u8 hF (vs := [bv 92, bv 34]) (by with_unfolding_all rfl) (by with_unfolding_all rfl) (by with_unfolding_all rfl) (by decide) (by simp [bv, Value.cells]) ?_)); intro w1 g1 hF1 hz1; have hr1 : Rd w1 (· < w1.heap.size) (some ⟨g1, 0, none⟩) 1 2 (([92,34] : List UInt8).map bv) := hF1.rdOwn (i := 0) rfl) | ((with_reducible refine lst (by with_unfolding_all rfl) (wp_fapp1 T_u8 hF1 (Nat.le_refl _) hr1 (by with_unfolding_all exact ⟨_, _, rfl, rfl, rfl⟩) (by omega) ?_)); intro v2 w2 hF2 hz2))
        go_roundg (s.size - (j + 1))
        case rel => exact ⟨j + 1, O ++ [92, 34], by omega, box rfl, by go_num, hO2.out, hgo, hF2.tail⟩
        case measure => have := hkf.out; omega
      · have n34 : ((y.toNat : Int) == 34) = false := u8_ne hy34
        by_cases hy92 : y = 92
        · subst hy92
          replace hgo : Box (out ++ jQuote s.data.toList = O ++ [92, 92] ++ (s.data.toList.drop (j + 1)).flatMap jQc ++ [34]) := hgo
          replace hO2 : Box ((O ++ [92, 92]).length ≤ out.length + 1 + 6 * (j + 1)) := hO2
          go_wp2_with (first | ((with_reducible refine lst (by with_unfolding_all rfl) (wp_fbsl T_u8 hF (vs := [bv 92, bv 92]) (by with_unfolding_all rfl) (by with_unfolding_all rfl) (by with_unfolding_all rfl) (by decide) (by simp [bv, Value.cells]) ?_)); intro w1 g1 hF1 hz1; have hr1 : Rd w1 (· < w1.heap.size) (some ⟨g1, 0, none⟩) 1 2 (([92,92] : List UInt8).map bv) := hF1.rdOwn (i := 0) rfl) | ((with_reducible refine lst (by with_unfolding_all rfl) (wp_fapp1 T_u8 hF1 (Nat.le_refl _) hr1 (by with_unfolding_all exact ⟨_, _, rfl, rfl, rfl⟩) (by omega) ?_)); intro v2 w2 hF2 hz2))
          go_roundg (s.size - (j + 1))
          case rel => exact ⟨j + 1, O ++ [92, 92], by omega, box rfl, by go_num, hO2.out, hgo, hF2.tail⟩
          case measure => have := hkf.out; omega
        · have n92 : ((y.toNat : Int) == 92) = false := u8_ne hy92
          by_cases hy8 : y = 8
          · subst hy8
            replace hgo : Box (out ++ jQuote s.data.toList = O ++ [92, 98] ++ (s.data.toList.drop (j + 1)).flatMap jQc ++ [34]) := hgo
            replace hO2 : Box ((O ++ [92, 98]).length ≤ out.length + 1 + 6 * (j + 1)) := hO2
            go_wp2_with (first | ((with_reducible refine lst (by with_unfolding_all rfl) (wp_fappS T_u8 Tryd.underlying9 hF (i := 0) rfl (Nat.le_refl _) (by with_unfolding_all exact ⟨_, _, rfl, rfl, rfl⟩) (by rw [show (⟨#[92, 98]⟩ : ByteArray).size = 2 from rfl]; omega) ?_)); intro v2 w2 hF2 hz2; simp only [List.set_cons_zero, List.set_cons_succ] at hF2))
            go_roundg (s.size - (j + 1))
            case rel => exact ⟨j + 1, O ++ [92, 98], by omega, box rfl, by go_num, hO2.out, hgo, hF2⟩
            case measure => have := hkf.out; omega
          · have n8 : ((y.toNat : Int) == 8) = false := u8_ne hy8
            by_cases hy9 : y = 9
            · subst hy9
              replace hgo : Box (out ++ jQuote s.data.toList = O ++ [92, 116] ++ (s.data.toList.drop (j + 1)).flatMap jQc ++ [34]) := hgo
              replace hO2 : Box ((O ++ [92, 116]).length ≤ out.length + 1 + 6 * (j + 1)) := hO2
              go_wp2_with (first | ((with_reducible refine lst (by with_unfolding_all rfl) (wp_fappS T_u8 Tryd.underlying9 hF (i := 0) rfl (Nat.le_refl _) (by with_unfolding_all exact ⟨_, _, rfl, rfl, rfl⟩) (by rw [show (⟨#[92, 116]⟩ : ByteArray).size = 2 from rfl]; omega) ?_)); intro v2 w2 hF2 hz2; simp only [List.set_cons_zero, List.set_cons_succ] at hF2))
              go_roundg (s.size - (j + 1))
              case rel => exact ⟨j + 1, O ++ [92, 116], by omega, box rfl, by go_num, hO2.out, hgo, hF2⟩
              case measure => have := hkf.out; omega
            · have n9 : ((y.toNat : Int) == 9) = false := u8_ne hy9
              by_cases hy10 : y = 10
              · subst hy10
                replace hgo : Box (out ++ jQuote s.data.toList = O ++ [92, 110] ++ (s.data.toList.drop (j + 1)).flatMap jQc ++ [34]) := hgo
                replace hO2 : Box ((O ++ [92, 110]).length ≤ out.length + 1 + 6 * (j + 1)) := hO2
                go_wp2_with (first | ((with_reducible refine lst (by with_unfolding_all rfl) (wp_fappS T_u8 Tryd.underlying9 hF (i := 0) rfl (Nat.le_refl _) (by with_unfolding_all exact ⟨_, _, rfl, rfl, rfl⟩) (by rw [show (⟨#[92, 110]⟩ : ByteArray).size = 2 from rfl]; omega) ?_)); intro v2 w2 hF2 hz2; simp only [List.set_cons_zero, List.set_cons_succ] at hF2))
                go_roundg (s.size - (j + 1))
                case rel => exact ⟨j + 1, O ++ [92, 110], by omega, box rfl, by go_num, hO2.out, hgo, hF2⟩
                case measure => have := hkf.out; omega
              · have n10 : ((y.toNat : Int) == 10) = false := u8_ne hy10
                by_cases hy12 : y = 12
                · subst hy12
                  replace hgo : Box (out ++ jQuote s.data.toList = O ++ [92, 102] ++ (s.data.toList.drop (j + 1)).flatMap jQc ++ [34]) := hgo
                  replace hO2 : Box ((O ++ [92, 102]).length ≤ out.length + 1 + 6 * (j + 1)) := hO2
                  go_wp2_with (first | ((with_reducible refine lst (by with_unfolding_all rfl) (wp_fappS T_u8 Tryd.underlying9 hF (i := 0) rfl (Nat.le_refl _) (by with_unfolding_all exact ⟨_, _, rfl, rfl, rfl⟩) (by rw [show (⟨#[92, 102]⟩ : ByteArray).size = 2 from rfl]; omega) ?_)); intro v2 w2 hF2 hz2; simp only [List.set_cons_zero, List.set_cons_succ] at hF2))
                  go_roundg (s.size - (j + 1))
                  case rel => exact ⟨j + 1, O ++ [92, 102], by omega, box rfl, by go_num, hO2.out, hgo, hF2⟩
                  case measure => have := hkf.out; omega
                · have n12 : ((y.toNat : Int) == 12) = false := u8_ne hy12
                  by_cases hy13 : y = 13
                  · subst hy13
                    replace hgo : Box (out ++ jQuote s.data.toList = O ++ [92, 114] ++ (s.data.toList.drop (j + 1)).flatMap jQc ++ [34]) := hgo
                    replace hO2 : Box ((O ++ [92, 114]).length ≤ out.length + 1 + 6 * (j + 1)) := hO2
                    go_wp2_with (first | ((with_reducible refine lst (by with_unfolding_all rfl) (wp_fappS T_u8 Tryd.underlying9 hF (i := 0) rfl (Nat.le_refl _) (by with_unfolding_all exact ⟨_, _, rfl, rfl, rfl⟩) (by rw [show (⟨#[92, 114]⟩ : ByteArray).size = 2 from rfl]; omega) ?_)); intro v2 w2 hF2 hz2; simp only [List.set_cons_zero, List.set_cons_succ] at hF2))
                    go_roundg (s.size - (j + 1))
                    case rel => exact ⟨j + 1, O ++ [92, 114], by omega, box rfl, by go_num, hO2.out, hgo, hF2⟩
                    case measure => have := hkf.out; omega
                  · have n13 : ((y.toNat : Int) == 13) = false := u8_ne hy13
                    by_cases hy0 : y = 0
                    · subst hy0
                      replace hgo : Box (out ++ jQuote s.data.toList = O ++ [92, 117, 48, 48, 48, 48] ++ (s.data.toList.drop (j + 1)).flatMap jQc ++ [34]) := hgo
                      replace hO2 : Box ((O ++ [92, 117, 48, 48, 48, 48]).length ≤ out.length + 1 + 6 * (j + 1)) := hO2
                      go_wp2_with (first | ((with_reducible refine lst (by with_unfolding_all rfl) (wp_fappS T_u8 Tryd.underlying9 hF (i := 0) rfl (Nat.le_refl _) (by with_unfolding_all exact ⟨_, _, rfl, rfl, rfl⟩) (by rw [show (⟨#[92, 117, 48, 48]⟩ : ByteArray).size = 4 from rfl]; omega) ?_)); intro v2 w2 hF2 hz2; simp only [List.set_cons_zero, List.set_cons_succ] at hF2))
                      have hFd := hF2.drew
                      have hbk : bits BinOp.and IntKind.u8 0 15 = 0 := by rfl
                      refine wp_region_held (S := fun _ => True) (by kernel_rfl) ?_
                      change wpAnyH _ _ _ _ _ _ _ _ (World.drew _)
                      refine tkp 0 trivial ?_
                      (try simp only [Act.put, List.setIfInBounds_toArray, List.set_cons_zero, List.set_cons_succ])
                      refine tkp 1 trivial ?_
                      (try simp only [Act.put, List.setIfInBounds_toArray, List.set_cons_zero, List.set_cons_succ])
                      refine tkp 2 trivial ?_
                      (try simp only [Act.put, List.setIfInBounds_toArray, List.set_cons_zero, List.set_cons_succ])
                      refine tkp 3 trivial ?_
                      (try simp only [Act.put, List.setIfInBounds_toArray, List.set_cons_zero, List.set_cons_succ])
                      refine tkp 4 trivial ?_
                      (try simp only [Act.put, List.setIfInBounds_toArray, List.set_cons_zero, List.set_cons_succ])
                      refine tkp 5 trivial ?_
                      (try simp only [Act.put, List.setIfInBounds_toArray, List.set_cons_zero, List.set_cons_succ])
                      refine tkp 6 trivial ?_
                      (try simp only [Act.put, List.setIfInBounds_toArray, List.set_cons_zero, List.set_cons_succ])
                      refine rdy1 7 (fun K hK => ?_)
                      refine stp (by with_unfolding_all rfl) (wp_fbsl T_u8 hFd (vs := [bv 48, bv 48]) (by with_unfolding_all rfl) (by with_unfolding_all rfl) (by with_unfolding_all rfl) (by decide) (by simp [bv, Value.cells]) ?_)
                      intro w11 g11 hF11 hz11
                      refine hK.out _ _ (trivial) (fun _ => ?_)
                      clear hK K
                      (try simp only [Act.put, List.setIfInBounds_toArray, List.set_cons_zero, List.set_cons_succ])
                      refine rdy1 8 (fun K hK => ?_)
                      refine stp (by with_unfolding_all rfl) (wp_fapp T_u8 hF11 (i := 1) (l := (O ++ [92, 117, 48, 48])) rfl (Nat.le_refl _) (((hF11.rdOwn (i := 0) rfl : Rd _ _ _ 1 2 (([48, 48] : List UInt8).map bv)))) (by with_unfolding_all exact ⟨_, _, rfl, rfl, rfl⟩) (by rw [List.length_append]; simp only [List.length_cons, List.length_nil]; omega) ?_)
                      intro v12 w12 hF12 hz12
                      (try simp only [List.set_cons_zero, List.set_cons_succ] at hF12)
                      refine hK.out _ _ (trivial) (fun _ => ?_)
                      clear hK K
                      (try simp only [Act.put, List.setIfInBounds_toArray, List.set_cons_zero, List.set_cons_succ])
                      refine tkp 9 trivial ?_
                      (try simp only [Act.put, List.setIfInBounds_toArray, List.set_cons_zero, List.set_cons_succ])
                      refine wpAnyH_done (by kernel_rfl) ?_ _
                      go_wp2_with fail
                      go_roundg (s.size - (j + 1))
                      case rel => exact ⟨j + 1, O ++ [92, 117, 48, 48, 48, 48], by omega, box rfl, by go_num, hO2.out, hgo, by have h5 := hF12.tail; rw [List.append_assoc] at h5; exact h5⟩
                      case measure => have := hkf.out; omega
                    · have n0 : ((y.toNat : Int) == 0) = false := u8_ne hy0
                      by_cases hy1 : y = 1
                      · subst hy1
                        replace hgo : Box (out ++ jQuote s.data.toList = O ++ [92, 117, 48, 48, 48, 49] ++ (s.data.toList.drop (j + 1)).flatMap jQc ++ [34]) := hgo
                        replace hO2 : Box ((O ++ [92, 117, 48, 48, 48, 49]).length ≤ out.length + 1 + 6 * (j + 1)) := hO2
                        go_wp2_with (first | ((with_reducible refine lst (by with_unfolding_all rfl) (wp_fappS T_u8 Tryd.underlying9 hF (i := 0) rfl (Nat.le_refl _) (by with_unfolding_all exact ⟨_, _, rfl, rfl, rfl⟩) (by rw [show (⟨#[92, 117, 48, 48]⟩ : ByteArray).size = 4 from rfl]; omega) ?_)); intro v2 w2 hF2 hz2; simp only [List.set_cons_zero, List.set_cons_succ] at hF2))
                        have hFd := hF2.drew
                        have hbk : bits BinOp.and IntKind.u8 1 15 = 1 := by rfl
                        refine wp_region_held (S := fun _ => True) (by kernel_rfl) ?_
                        change wpAnyH _ _ _ _ _ _ _ _ (World.drew _)
                        refine tkp 0 trivial ?_
                        (try simp only [Act.put, List.setIfInBounds_toArray, List.set_cons_zero, List.set_cons_succ])
                        refine tkp 1 trivial ?_
                        (try simp only [Act.put, List.setIfInBounds_toArray, List.set_cons_zero, List.set_cons_succ])
                        refine tkp 2 trivial ?_
                        (try simp only [Act.put, List.setIfInBounds_toArray, List.set_cons_zero, List.set_cons_succ])
                        refine tkp 3 trivial ?_
                        (try simp only [Act.put, List.setIfInBounds_toArray, List.set_cons_zero, List.set_cons_succ])
                        refine tkp 4 trivial ?_
                        (try simp only [Act.put, List.setIfInBounds_toArray, List.set_cons_zero, List.set_cons_succ])
                        refine tkp 5 trivial ?_
                        (try simp only [Act.put, List.setIfInBounds_toArray, List.set_cons_zero, List.set_cons_succ])
                        refine tkp 6 trivial ?_
                        (try simp only [Act.put, List.setIfInBounds_toArray, List.set_cons_zero, List.set_cons_succ])
                        refine rdy1 7 (fun K hK => ?_)
                        refine stp (by with_unfolding_all rfl) (wp_fbsl T_u8 hFd (vs := [bv 48, bv 49]) (by with_unfolding_all rfl) (by with_unfolding_all rfl) (by with_unfolding_all rfl) (by decide) (by simp [bv, Value.cells]) ?_)
                        intro w11 g11 hF11 hz11
                        refine hK.out _ _ (trivial) (fun _ => ?_)
                        clear hK K
                        (try simp only [Act.put, List.setIfInBounds_toArray, List.set_cons_zero, List.set_cons_succ])
                        refine rdy1 8 (fun K hK => ?_)
                        refine stp (by with_unfolding_all rfl) (wp_fapp T_u8 hF11 (i := 1) (l := (O ++ [92, 117, 48, 48])) rfl (Nat.le_refl _) (((hF11.rdOwn (i := 0) rfl : Rd _ _ _ 1 2 (([48, 49] : List UInt8).map bv)))) (by with_unfolding_all exact ⟨_, _, rfl, rfl, rfl⟩) (by rw [List.length_append]; simp only [List.length_cons, List.length_nil]; omega) ?_)
                        intro v12 w12 hF12 hz12
                        (try simp only [List.set_cons_zero, List.set_cons_succ] at hF12)
                        refine hK.out _ _ (trivial) (fun _ => ?_)
                        clear hK K
                        (try simp only [Act.put, List.setIfInBounds_toArray, List.set_cons_zero, List.set_cons_succ])
                        refine tkp 9 trivial ?_
                        (try simp only [Act.put, List.setIfInBounds_toArray, List.set_cons_zero, List.set_cons_succ])
                        refine wpAnyH_done (by kernel_rfl) ?_ _
                        go_wp2_with fail
                        go_roundg (s.size - (j + 1))
                        case rel => exact ⟨j + 1, O ++ [92, 117, 48, 48, 48, 49], by omega, box rfl, by go_num, hO2.out, hgo, by have h5 := hF12.tail; rw [List.append_assoc] at h5; exact h5⟩
                        case measure => have := hkf.out; omega
                      · have n1 : ((y.toNat : Int) == 1) = false := u8_ne hy1
                        by_cases hy2 : y = 2
                        · subst hy2
                          replace hgo : Box (out ++ jQuote s.data.toList = O ++ [92, 117, 48, 48, 48, 50] ++ (s.data.toList.drop (j + 1)).flatMap jQc ++ [34]) := hgo
                          replace hO2 : Box ((O ++ [92, 117, 48, 48, 48, 50]).length ≤ out.length + 1 + 6 * (j + 1)) := hO2
                          go_wp2_with (first | ((with_reducible refine lst (by with_unfolding_all rfl) (wp_fappS T_u8 Tryd.underlying9 hF (i := 0) rfl (Nat.le_refl _) (by with_unfolding_all exact ⟨_, _, rfl, rfl, rfl⟩) (by rw [show (⟨#[92, 117, 48, 48]⟩ : ByteArray).size = 4 from rfl]; omega) ?_)); intro v2 w2 hF2 hz2; simp only [List.set_cons_zero, List.set_cons_succ] at hF2))
                          have hFd := hF2.drew
                          have hbk : bits BinOp.and IntKind.u8 2 15 = 2 := by rfl
                          refine wp_region_held (S := fun _ => True) (by kernel_rfl) ?_
                          change wpAnyH _ _ _ _ _ _ _ _ (World.drew _)
                          refine tkp 0 trivial ?_
                          (try simp only [Act.put, List.setIfInBounds_toArray, List.set_cons_zero, List.set_cons_succ])
                          refine tkp 1 trivial ?_
                          (try simp only [Act.put, List.setIfInBounds_toArray, List.set_cons_zero, List.set_cons_succ])
                          refine tkp 2 trivial ?_
                          (try simp only [Act.put, List.setIfInBounds_toArray, List.set_cons_zero, List.set_cons_succ])
                          refine tkp 3 trivial ?_
                          (try simp only [Act.put, List.setIfInBounds_toArray, List.set_cons_zero, List.set_cons_succ])
                          refine tkp 4 trivial ?_
                          (try simp only [Act.put, List.setIfInBounds_toArray, List.set_cons_zero, List.set_cons_succ])
                          refine tkp 5 trivial ?_
                          (try simp only [Act.put, List.setIfInBounds_toArray, List.set_cons_zero, List.set_cons_succ])
                          refine tkp 6 trivial ?_
                          (try simp only [Act.put, List.setIfInBounds_toArray, List.set_cons_zero, List.set_cons_succ])
                          refine rdy1 7 (fun K hK => ?_)
                          refine stp (by with_unfolding_all rfl) (wp_fbsl T_u8 hFd (vs := [bv 48, bv 50]) (by with_unfolding_all rfl) (by with_unfolding_all rfl) (by with_unfolding_all rfl) (by decide) (by simp [bv, Value.cells]) ?_)
                          intro w11 g11 hF11 hz11
                          refine hK.out _ _ (trivial) (fun _ => ?_)
                          clear hK K
                          (try simp only [Act.put, List.setIfInBounds_toArray, List.set_cons_zero, List.set_cons_succ])
                          refine rdy1 8 (fun K hK => ?_)
                          refine stp (by with_unfolding_all rfl) (wp_fapp T_u8 hF11 (i := 1) (l := (O ++ [92, 117, 48, 48])) rfl (Nat.le_refl _) (((hF11.rdOwn (i := 0) rfl : Rd _ _ _ 1 2 (([48, 50] : List UInt8).map bv)))) (by with_unfolding_all exact ⟨_, _, rfl, rfl, rfl⟩) (by rw [List.length_append]; simp only [List.length_cons, List.length_nil]; omega) ?_)
                          intro v12 w12 hF12 hz12
                          (try simp only [List.set_cons_zero, List.set_cons_succ] at hF12)
                          refine hK.out _ _ (trivial) (fun _ => ?_)
                          clear hK K
                          (try simp only [Act.put, List.setIfInBounds_toArray, List.set_cons_zero, List.set_cons_succ])
                          refine tkp 9 trivial ?_
                          (try simp only [Act.put, List.setIfInBounds_toArray, List.set_cons_zero, List.set_cons_succ])
                          refine wpAnyH_done (by kernel_rfl) ?_ _
                          go_wp2_with fail
                          go_roundg (s.size - (j + 1))
                          case rel => exact ⟨j + 1, O ++ [92, 117, 48, 48, 48, 50], by omega, box rfl, by go_num, hO2.out, hgo, by have h5 := hF12.tail; rw [List.append_assoc] at h5; exact h5⟩
                          case measure => have := hkf.out; omega
                        · have n2 : ((y.toNat : Int) == 2) = false := u8_ne hy2
                          by_cases hy3 : y = 3
                          · subst hy3
                            replace hgo : Box (out ++ jQuote s.data.toList = O ++ [92, 117, 48, 48, 48, 51] ++ (s.data.toList.drop (j + 1)).flatMap jQc ++ [34]) := hgo
                            replace hO2 : Box ((O ++ [92, 117, 48, 48, 48, 51]).length ≤ out.length + 1 + 6 * (j + 1)) := hO2
                            go_wp2_with (first | ((with_reducible refine lst (by with_unfolding_all rfl) (wp_fappS T_u8 Tryd.underlying9 hF (i := 0) rfl (Nat.le_refl _) (by with_unfolding_all exact ⟨_, _, rfl, rfl, rfl⟩) (by rw [show (⟨#[92, 117, 48, 48]⟩ : ByteArray).size = 4 from rfl]; omega) ?_)); intro v2 w2 hF2 hz2; simp only [List.set_cons_zero, List.set_cons_succ] at hF2))
                            have hFd := hF2.drew
                            have hbk : bits BinOp.and IntKind.u8 3 15 = 3 := by rfl
                            refine wp_region_held (S := fun _ => True) (by kernel_rfl) ?_
                            change wpAnyH _ _ _ _ _ _ _ _ (World.drew _)
                            refine tkp 0 trivial ?_
                            (try simp only [Act.put, List.setIfInBounds_toArray, List.set_cons_zero, List.set_cons_succ])
                            refine tkp 1 trivial ?_
                            (try simp only [Act.put, List.setIfInBounds_toArray, List.set_cons_zero, List.set_cons_succ])
                            refine tkp 2 trivial ?_
                            (try simp only [Act.put, List.setIfInBounds_toArray, List.set_cons_zero, List.set_cons_succ])
                            refine tkp 3 trivial ?_
                            (try simp only [Act.put, List.setIfInBounds_toArray, List.set_cons_zero, List.set_cons_succ])
                            refine tkp 4 trivial ?_
                            (try simp only [Act.put, List.setIfInBounds_toArray, List.set_cons_zero, List.set_cons_succ])
                            refine tkp 5 trivial ?_
                            (try simp only [Act.put, List.setIfInBounds_toArray, List.set_cons_zero, List.set_cons_succ])
                            refine tkp 6 trivial ?_
                            (try simp only [Act.put, List.setIfInBounds_toArray, List.set_cons_zero, List.set_cons_succ])
                            refine rdy1 7 (fun K hK => ?_)
                            refine stp (by with_unfolding_all rfl) (wp_fbsl T_u8 hFd (vs := [bv 48, bv 51]) (by with_unfolding_all rfl) (by with_unfolding_all rfl) (by with_unfolding_all rfl) (by decide) (by simp [bv, Value.cells]) ?_)
                            intro w11 g11 hF11 hz11
                            refine hK.out _ _ (trivial) (fun _ => ?_)
                            clear hK K
                            (try simp only [Act.put, List.setIfInBounds_toArray, List.set_cons_zero, List.set_cons_succ])
                            refine rdy1 8 (fun K hK => ?_)
                            refine stp (by with_unfolding_all rfl) (wp_fapp T_u8 hF11 (i := 1) (l := (O ++ [92, 117, 48, 48])) rfl (Nat.le_refl _) (((hF11.rdOwn (i := 0) rfl : Rd _ _ _ 1 2 (([48, 51] : List UInt8).map bv)))) (by with_unfolding_all exact ⟨_, _, rfl, rfl, rfl⟩) (by rw [List.length_append]; simp only [List.length_cons, List.length_nil]; omega) ?_)
                            intro v12 w12 hF12 hz12
                            (try simp only [List.set_cons_zero, List.set_cons_succ] at hF12)
                            refine hK.out _ _ (trivial) (fun _ => ?_)
                            clear hK K
                            (try simp only [Act.put, List.setIfInBounds_toArray, List.set_cons_zero, List.set_cons_succ])
                            refine tkp 9 trivial ?_
                            (try simp only [Act.put, List.setIfInBounds_toArray, List.set_cons_zero, List.set_cons_succ])
                            refine wpAnyH_done (by kernel_rfl) ?_ _
                            go_wp2_with fail
                            go_roundg (s.size - (j + 1))
                            case rel => exact ⟨j + 1, O ++ [92, 117, 48, 48, 48, 51], by omega, box rfl, by go_num, hO2.out, hgo, by have h5 := hF12.tail; rw [List.append_assoc] at h5; exact h5⟩
                            case measure => have := hkf.out; omega
                          · have n3 : ((y.toNat : Int) == 3) = false := u8_ne hy3
                            by_cases hy4 : y = 4
                            · subst hy4
                              replace hgo : Box (out ++ jQuote s.data.toList = O ++ [92, 117, 48, 48, 48, 52] ++ (s.data.toList.drop (j + 1)).flatMap jQc ++ [34]) := hgo
                              replace hO2 : Box ((O ++ [92, 117, 48, 48, 48, 52]).length ≤ out.length + 1 + 6 * (j + 1)) := hO2
                              go_wp2_with (first | ((with_reducible refine lst (by with_unfolding_all rfl) (wp_fappS T_u8 Tryd.underlying9 hF (i := 0) rfl (Nat.le_refl _) (by with_unfolding_all exact ⟨_, _, rfl, rfl, rfl⟩) (by rw [show (⟨#[92, 117, 48, 48]⟩ : ByteArray).size = 4 from rfl]; omega) ?_)); intro v2 w2 hF2 hz2; simp only [List.set_cons_zero, List.set_cons_succ] at hF2))
                              have hFd := hF2.drew
                              have hbk : bits BinOp.and IntKind.u8 4 15 = 4 := by rfl
                              refine wp_region_held (S := fun _ => True) (by kernel_rfl) ?_
                              change wpAnyH _ _ _ _ _ _ _ _ (World.drew _)
                              refine tkp 0 trivial ?_
                              (try simp only [Act.put, List.setIfInBounds_toArray, List.set_cons_zero, List.set_cons_succ])
                              refine tkp 1 trivial ?_
                              (try simp only [Act.put, List.setIfInBounds_toArray, List.set_cons_zero, List.set_cons_succ])
                              refine tkp 2 trivial ?_
                              (try simp only [Act.put, List.setIfInBounds_toArray, List.set_cons_zero, List.set_cons_succ])
                              refine tkp 3 trivial ?_
                              (try simp only [Act.put, List.setIfInBounds_toArray, List.set_cons_zero, List.set_cons_succ])
                              refine tkp 4 trivial ?_
                              (try simp only [Act.put, List.setIfInBounds_toArray, List.set_cons_zero, List.set_cons_succ])
                              refine tkp 5 trivial ?_
                              (try simp only [Act.put, List.setIfInBounds_toArray, List.set_cons_zero, List.set_cons_succ])
                              refine tkp 6 trivial ?_
                              (try simp only [Act.put, List.setIfInBounds_toArray, List.set_cons_zero, List.set_cons_succ])
                              refine rdy1 7 (fun K hK => ?_)
                              refine stp (by with_unfolding_all rfl) (wp_fbsl T_u8 hFd (vs := [bv 48, bv 52]) (by with_unfolding_all rfl) (by with_unfolding_all rfl) (by with_unfolding_all rfl) (by decide) (by simp [bv, Value.cells]) ?_)
                              intro w11 g11 hF11 hz11
                              refine hK.out _ _ (trivial) (fun _ => ?_)
                              clear hK K
                              (try simp only [Act.put, List.setIfInBounds_toArray, List.set_cons_zero, List.set_cons_succ])
                              refine rdy1 8 (fun K hK => ?_)
                              refine stp (by with_unfolding_all rfl) (wp_fapp T_u8 hF11 (i := 1) (l := (O ++ [92, 117, 48, 48])) rfl (Nat.le_refl _) (((hF11.rdOwn (i := 0) rfl : Rd _ _ _ 1 2 (([48, 52] : List UInt8).map bv)))) (by with_unfolding_all exact ⟨_, _, rfl, rfl, rfl⟩) (by rw [List.length_append]; simp only [List.length_cons, List.length_nil]; omega) ?_)
                              intro v12 w12 hF12 hz12
                              (try simp only [List.set_cons_zero, List.set_cons_succ] at hF12)
                              refine hK.out _ _ (trivial) (fun _ => ?_)
                              clear hK K
                              (try simp only [Act.put, List.setIfInBounds_toArray, List.set_cons_zero, List.set_cons_succ])
                              refine tkp 9 trivial ?_
                              (try simp only [Act.put, List.setIfInBounds_toArray, List.set_cons_zero, List.set_cons_succ])
                              refine wpAnyH_done (by kernel_rfl) ?_ _
                              go_wp2_with fail
                              go_roundg (s.size - (j + 1))
                              case rel => exact ⟨j + 1, O ++ [92, 117, 48, 48, 48, 52], by omega, box rfl, by go_num, hO2.out, hgo, by have h5 := hF12.tail; rw [List.append_assoc] at h5; exact h5⟩
                              case measure => have := hkf.out; omega
                            · have n4 : ((y.toNat : Int) == 4) = false := u8_ne hy4
                              by_cases hy5 : y = 5
                              · subst hy5
                                replace hgo : Box (out ++ jQuote s.data.toList = O ++ [92, 117, 48, 48, 48, 53] ++ (s.data.toList.drop (j + 1)).flatMap jQc ++ [34]) := hgo
                                replace hO2 : Box ((O ++ [92, 117, 48, 48, 48, 53]).length ≤ out.length + 1 + 6 * (j + 1)) := hO2
                                go_wp2_with (first | ((with_reducible refine lst (by with_unfolding_all rfl) (wp_fappS T_u8 Tryd.underlying9 hF (i := 0) rfl (Nat.le_refl _) (by with_unfolding_all exact ⟨_, _, rfl, rfl, rfl⟩) (by rw [show (⟨#[92, 117, 48, 48]⟩ : ByteArray).size = 4 from rfl]; omega) ?_)); intro v2 w2 hF2 hz2; simp only [List.set_cons_zero, List.set_cons_succ] at hF2))
                                have hFd := hF2.drew
                                have hbk : bits BinOp.and IntKind.u8 5 15 = 5 := by rfl
                                refine wp_region_held (S := fun _ => True) (by kernel_rfl) ?_
                                change wpAnyH _ _ _ _ _ _ _ _ (World.drew _)
                                refine tkp 0 trivial ?_
                                (try simp only [Act.put, List.setIfInBounds_toArray, List.set_cons_zero, List.set_cons_succ])
                                refine tkp 1 trivial ?_
                                (try simp only [Act.put, List.setIfInBounds_toArray, List.set_cons_zero, List.set_cons_succ])
                                refine tkp 2 trivial ?_
                                (try simp only [Act.put, List.setIfInBounds_toArray, List.set_cons_zero, List.set_cons_succ])
                                refine tkp 3 trivial ?_
                                (try simp only [Act.put, List.setIfInBounds_toArray, List.set_cons_zero, List.set_cons_succ])
                                refine tkp 4 trivial ?_
                                (try simp only [Act.put, List.setIfInBounds_toArray, List.set_cons_zero, List.set_cons_succ])
                                refine tkp 5 trivial ?_
                                (try simp only [Act.put, List.setIfInBounds_toArray, List.set_cons_zero, List.set_cons_succ])
                                refine tkp 6 trivial ?_
                                (try simp only [Act.put, List.setIfInBounds_toArray, List.set_cons_zero, List.set_cons_succ])
                                refine rdy1 7 (fun K hK => ?_)
                                refine stp (by with_unfolding_all rfl) (wp_fbsl T_u8 hFd (vs := [bv 48, bv 53]) (by with_unfolding_all rfl) (by with_unfolding_all rfl) (by with_unfolding_all rfl) (by decide) (by simp [bv, Value.cells]) ?_)
                                intro w11 g11 hF11 hz11
                                refine hK.out _ _ (trivial) (fun _ => ?_)
                                clear hK K
                                (try simp only [Act.put, List.setIfInBounds_toArray, List.set_cons_zero, List.set_cons_succ])
                                refine rdy1 8 (fun K hK => ?_)
                                refine stp (by with_unfolding_all rfl) (wp_fapp T_u8 hF11 (i := 1) (l := (O ++ [92, 117, 48, 48])) rfl (Nat.le_refl _) (((hF11.rdOwn (i := 0) rfl : Rd _ _ _ 1 2 (([48, 53] : List UInt8).map bv)))) (by with_unfolding_all exact ⟨_, _, rfl, rfl, rfl⟩) (by rw [List.length_append]; simp only [List.length_cons, List.length_nil]; omega) ?_)
                                intro v12 w12 hF12 hz12
                                (try simp only [List.set_cons_zero, List.set_cons_succ] at hF12)
                                refine hK.out _ _ (trivial) (fun _ => ?_)
                                clear hK K
                                (try simp only [Act.put, List.setIfInBounds_toArray, List.set_cons_zero, List.set_cons_succ])
                                refine tkp 9 trivial ?_
                                (try simp only [Act.put, List.setIfInBounds_toArray, List.set_cons_zero, List.set_cons_succ])
                                refine wpAnyH_done (by kernel_rfl) ?_ _
                                go_wp2_with fail
                                go_roundg (s.size - (j + 1))
                                case rel => exact ⟨j + 1, O ++ [92, 117, 48, 48, 48, 53], by omega, box rfl, by go_num, hO2.out, hgo, by have h5 := hF12.tail; rw [List.append_assoc] at h5; exact h5⟩
                                case measure => have := hkf.out; omega
                              · have n5 : ((y.toNat : Int) == 5) = false := u8_ne hy5
                                by_cases hy6 : y = 6
                                · subst hy6
                                  replace hgo : Box (out ++ jQuote s.data.toList = O ++ [92, 117, 48, 48, 48, 54] ++ (s.data.toList.drop (j + 1)).flatMap jQc ++ [34]) := hgo
                                  replace hO2 : Box ((O ++ [92, 117, 48, 48, 48, 54]).length ≤ out.length + 1 + 6 * (j + 1)) := hO2
                                  go_wp2_with (first | ((with_reducible refine lst (by with_unfolding_all rfl) (wp_fappS T_u8 Tryd.underlying9 hF (i := 0) rfl (Nat.le_refl _) (by with_unfolding_all exact ⟨_, _, rfl, rfl, rfl⟩) (by rw [show (⟨#[92, 117, 48, 48]⟩ : ByteArray).size = 4 from rfl]; omega) ?_)); intro v2 w2 hF2 hz2; simp only [List.set_cons_zero, List.set_cons_succ] at hF2))
                                  have hFd := hF2.drew
                                  have hbk : bits BinOp.and IntKind.u8 6 15 = 6 := by rfl
                                  refine wp_region_held (S := fun _ => True) (by kernel_rfl) ?_
                                  change wpAnyH _ _ _ _ _ _ _ _ (World.drew _)
                                  refine tkp 0 trivial ?_
                                  (try simp only [Act.put, List.setIfInBounds_toArray, List.set_cons_zero, List.set_cons_succ])
                                  refine tkp 1 trivial ?_
                                  (try simp only [Act.put, List.setIfInBounds_toArray, List.set_cons_zero, List.set_cons_succ])
                                  refine tkp 2 trivial ?_
                                  (try simp only [Act.put, List.setIfInBounds_toArray, List.set_cons_zero, List.set_cons_succ])
                                  refine tkp 3 trivial ?_
                                  (try simp only [Act.put, List.setIfInBounds_toArray, List.set_cons_zero, List.set_cons_succ])
                                  refine tkp 4 trivial ?_
                                  (try simp only [Act.put, List.setIfInBounds_toArray, List.set_cons_zero, List.set_cons_succ])
                                  refine tkp 5 trivial ?_
                                  (try simp only [Act.put, List.setIfInBounds_toArray, List.set_cons_zero, List.set_cons_succ])
                                  refine tkp 6 trivial ?_
                                  (try simp only [Act.put, List.setIfInBounds_toArray, List.set_cons_zero, List.set_cons_succ])
                                  refine rdy1 7 (fun K hK => ?_)
                                  refine stp (by with_unfolding_all rfl) (wp_fbsl T_u8 hFd (vs := [bv 48, bv 54]) (by with_unfolding_all rfl) (by with_unfolding_all rfl) (by with_unfolding_all rfl) (by decide) (by simp [bv, Value.cells]) ?_)
                                  intro w11 g11 hF11 hz11
                                  refine hK.out _ _ (trivial) (fun _ => ?_)
                                  clear hK K
                                  (try simp only [Act.put, List.setIfInBounds_toArray, List.set_cons_zero, List.set_cons_succ])
                                  refine rdy1 8 (fun K hK => ?_)
                                  refine stp (by with_unfolding_all rfl) (wp_fapp T_u8 hF11 (i := 1) (l := (O ++ [92, 117, 48, 48])) rfl (Nat.le_refl _) (((hF11.rdOwn (i := 0) rfl : Rd _ _ _ 1 2 (([48, 54] : List UInt8).map bv)))) (by with_unfolding_all exact ⟨_, _, rfl, rfl, rfl⟩) (by rw [List.length_append]; simp only [List.length_cons, List.length_nil]; omega) ?_)
                                  intro v12 w12 hF12 hz12
                                  (try simp only [List.set_cons_zero, List.set_cons_succ] at hF12)
                                  refine hK.out _ _ (trivial) (fun _ => ?_)
                                  clear hK K
                                  (try simp only [Act.put, List.setIfInBounds_toArray, List.set_cons_zero, List.set_cons_succ])
                                  refine tkp 9 trivial ?_
                                  (try simp only [Act.put, List.setIfInBounds_toArray, List.set_cons_zero, List.set_cons_succ])
                                  refine wpAnyH_done (by kernel_rfl) ?_ _
                                  go_wp2_with fail
                                  go_roundg (s.size - (j + 1))
                                  case rel => exact ⟨j + 1, O ++ [92, 117, 48, 48, 48, 54], by omega, box rfl, by go_num, hO2.out, hgo, by have h5 := hF12.tail; rw [List.append_assoc] at h5; exact h5⟩
                                  case measure => have := hkf.out; omega
                                · have n6 : ((y.toNat : Int) == 6) = false := u8_ne hy6
                                  by_cases hy7 : y = 7
                                  · subst hy7
                                    replace hgo : Box (out ++ jQuote s.data.toList = O ++ [92, 117, 48, 48, 48, 55] ++ (s.data.toList.drop (j + 1)).flatMap jQc ++ [34]) := hgo
                                    replace hO2 : Box ((O ++ [92, 117, 48, 48, 48, 55]).length ≤ out.length + 1 + 6 * (j + 1)) := hO2
                                    go_wp2_with (first | ((with_reducible refine lst (by with_unfolding_all rfl) (wp_fappS T_u8 Tryd.underlying9 hF (i := 0) rfl (Nat.le_refl _) (by with_unfolding_all exact ⟨_, _, rfl, rfl, rfl⟩) (by rw [show (⟨#[92, 117, 48, 48]⟩ : ByteArray).size = 4 from rfl]; omega) ?_)); intro v2 w2 hF2 hz2; simp only [List.set_cons_zero, List.set_cons_succ] at hF2))
                                    have hFd := hF2.drew
                                    have hbk : bits BinOp.and IntKind.u8 7 15 = 7 := by rfl
                                    refine wp_region_held (S := fun _ => True) (by kernel_rfl) ?_
                                    change wpAnyH _ _ _ _ _ _ _ _ (World.drew _)
                                    refine tkp 0 trivial ?_
                                    (try simp only [Act.put, List.setIfInBounds_toArray, List.set_cons_zero, List.set_cons_succ])
                                    refine tkp 1 trivial ?_
                                    (try simp only [Act.put, List.setIfInBounds_toArray, List.set_cons_zero, List.set_cons_succ])
                                    refine tkp 2 trivial ?_
                                    (try simp only [Act.put, List.setIfInBounds_toArray, List.set_cons_zero, List.set_cons_succ])
                                    refine tkp 3 trivial ?_
                                    (try simp only [Act.put, List.setIfInBounds_toArray, List.set_cons_zero, List.set_cons_succ])
                                    refine tkp 4 trivial ?_
                                    (try simp only [Act.put, List.setIfInBounds_toArray, List.set_cons_zero, List.set_cons_succ])
                                    refine tkp 5 trivial ?_
                                    (try simp only [Act.put, List.setIfInBounds_toArray, List.set_cons_zero, List.set_cons_succ])
                                    refine tkp 6 trivial ?_
                                    (try simp only [Act.put, List.setIfInBounds_toArray, List.set_cons_zero, List.set_cons_succ])
                                    refine rdy1 7 (fun K hK => ?_)
                                    refine stp (by with_unfolding_all rfl) (wp_fbsl T_u8 hFd (vs := [bv 48, bv 55]) (by with_unfolding_all rfl) (by with_unfolding_all rfl) (by with_unfolding_all rfl) (by decide) (by simp [bv, Value.cells]) ?_)
                                    intro w11 g11 hF11 hz11
                                    refine hK.out _ _ (trivial) (fun _ => ?_)
                                    clear hK K
                                    (try simp only [Act.put, List.setIfInBounds_toArray, List.set_cons_zero, List.set_cons_succ])
                                    refine rdy1 8 (fun K hK => ?_)
                                    refine stp (by with_unfolding_all rfl) (wp_fapp T_u8 hF11 (i := 1) (l := (O ++ [92, 117, 48, 48])) rfl (Nat.le_refl _) (((hF11.rdOwn (i := 0) rfl : Rd _ _ _ 1 2 (([48, 55] : List UInt8).map bv)))) (by with_unfolding_all exact ⟨_, _, rfl, rfl, rfl⟩) (by rw [List.length_append]; simp only [List.length_cons, List.length_nil]; omega) ?_)
                                    intro v12 w12 hF12 hz12
                                    (try simp only [List.set_cons_zero, List.set_cons_succ] at hF12)
                                    refine hK.out _ _ (trivial) (fun _ => ?_)
                                    clear hK K
                                    (try simp only [Act.put, List.setIfInBounds_toArray, List.set_cons_zero, List.set_cons_succ])
                                    refine tkp 9 trivial ?_
                                    (try simp only [Act.put, List.setIfInBounds_toArray, List.set_cons_zero, List.set_cons_succ])
                                    refine wpAnyH_done (by kernel_rfl) ?_ _
                                    go_wp2_with fail
                                    go_roundg (s.size - (j + 1))
                                    case rel => exact ⟨j + 1, O ++ [92, 117, 48, 48, 48, 55], by omega, box rfl, by go_num, hO2.out, hgo, by have h5 := hF12.tail; rw [List.append_assoc] at h5; exact h5⟩
                                    case measure => have := hkf.out; omega
                                  · have n7 : ((y.toNat : Int) == 7) = false := u8_ne hy7
                                    by_cases hy11 : y = 11
                                    · subst hy11
                                      replace hgo : Box (out ++ jQuote s.data.toList = O ++ [92, 117, 48, 48, 48, 98] ++ (s.data.toList.drop (j + 1)).flatMap jQc ++ [34]) := hgo
                                      replace hO2 : Box ((O ++ [92, 117, 48, 48, 48, 98]).length ≤ out.length + 1 + 6 * (j + 1)) := hO2
                                      go_wp2_with (first | ((with_reducible refine lst (by with_unfolding_all rfl) (wp_fappS T_u8 Tryd.underlying9 hF (i := 0) rfl (Nat.le_refl _) (by with_unfolding_all exact ⟨_, _, rfl, rfl, rfl⟩) (by rw [show (⟨#[92, 117, 48, 48]⟩ : ByteArray).size = 4 from rfl]; omega) ?_)); intro v2 w2 hF2 hz2; simp only [List.set_cons_zero, List.set_cons_succ] at hF2))
                                      have hFd := hF2.drew
                                      have hbk : bits BinOp.and IntKind.u8 11 15 = 11 := by rfl
                                      refine wp_region_held (S := fun _ => True) (by kernel_rfl) ?_
                                      change wpAnyH _ _ _ _ _ _ _ _ (World.drew _)
                                      refine tkp 0 trivial ?_
                                      (try simp only [Act.put, List.setIfInBounds_toArray, List.set_cons_zero, List.set_cons_succ])
                                      refine tkp 1 trivial ?_
                                      (try simp only [Act.put, List.setIfInBounds_toArray, List.set_cons_zero, List.set_cons_succ])
                                      refine tkp 2 trivial ?_
                                      (try simp only [Act.put, List.setIfInBounds_toArray, List.set_cons_zero, List.set_cons_succ])
                                      refine tkp 3 trivial ?_
                                      (try simp only [Act.put, List.setIfInBounds_toArray, List.set_cons_zero, List.set_cons_succ])
                                      refine tkp 4 trivial ?_
                                      (try simp only [Act.put, List.setIfInBounds_toArray, List.set_cons_zero, List.set_cons_succ])
                                      refine tkp 5 trivial ?_
                                      (try simp only [Act.put, List.setIfInBounds_toArray, List.set_cons_zero, List.set_cons_succ])
                                      refine tkp 6 trivial ?_
                                      (try simp only [Act.put, List.setIfInBounds_toArray, List.set_cons_zero, List.set_cons_succ])
                                      refine rdy1 7 (fun K hK => ?_)
                                      refine stp (by with_unfolding_all rfl) (wp_fbsl T_u8 hFd (vs := [bv 48, bv 98]) (by with_unfolding_all rfl) (by with_unfolding_all rfl) (by with_unfolding_all rfl) (by decide) (by simp [bv, Value.cells]) ?_)
                                      intro w11 g11 hF11 hz11
                                      refine hK.out _ _ (trivial) (fun _ => ?_)
                                      clear hK K
                                      (try simp only [Act.put, List.setIfInBounds_toArray, List.set_cons_zero, List.set_cons_succ])
                                      refine rdy1 8 (fun K hK => ?_)
                                      refine stp (by with_unfolding_all rfl) (wp_fapp T_u8 hF11 (i := 1) (l := (O ++ [92, 117, 48, 48])) rfl (Nat.le_refl _) (((hF11.rdOwn (i := 0) rfl : Rd _ _ _ 1 2 (([48, 98] : List UInt8).map bv)))) (by with_unfolding_all exact ⟨_, _, rfl, rfl, rfl⟩) (by rw [List.length_append]; simp only [List.length_cons, List.length_nil]; omega) ?_)
                                      intro v12 w12 hF12 hz12
                                      (try simp only [List.set_cons_zero, List.set_cons_succ] at hF12)
                                      refine hK.out _ _ (trivial) (fun _ => ?_)
                                      clear hK K
                                      (try simp only [Act.put, List.setIfInBounds_toArray, List.set_cons_zero, List.set_cons_succ])
                                      refine tkp 9 trivial ?_
                                      (try simp only [Act.put, List.setIfInBounds_toArray, List.set_cons_zero, List.set_cons_succ])
                                      refine wpAnyH_done (by kernel_rfl) ?_ _
                                      go_wp2_with fail
                                      go_roundg (s.size - (j + 1))
                                      case rel => exact ⟨j + 1, O ++ [92, 117, 48, 48, 48, 98], by omega, box rfl, by go_num, hO2.out, hgo, by have h5 := hF12.tail; rw [List.append_assoc] at h5; exact h5⟩
                                      case measure => have := hkf.out; omega
                                    · have n11 : ((y.toNat : Int) == 11) = false := u8_ne hy11
                                      by_cases hy14 : y = 14
                                      · subst hy14
                                        replace hgo : Box (out ++ jQuote s.data.toList = O ++ [92, 117, 48, 48, 48, 101] ++ (s.data.toList.drop (j + 1)).flatMap jQc ++ [34]) := hgo
                                        replace hO2 : Box ((O ++ [92, 117, 48, 48, 48, 101]).length ≤ out.length + 1 + 6 * (j + 1)) := hO2
                                        go_wp2_with (first | ((with_reducible refine lst (by with_unfolding_all rfl) (wp_fappS T_u8 Tryd.underlying9 hF (i := 0) rfl (Nat.le_refl _) (by with_unfolding_all exact ⟨_, _, rfl, rfl, rfl⟩) (by rw [show (⟨#[92, 117, 48, 48]⟩ : ByteArray).size = 4 from rfl]; omega) ?_)); intro v2 w2 hF2 hz2; simp only [List.set_cons_zero, List.set_cons_succ] at hF2))
                                        have hFd := hF2.drew
                                        have hbk : bits BinOp.and IntKind.u8 14 15 = 14 := by rfl
                                        refine wp_region_held (S := fun _ => True) (by kernel_rfl) ?_
                                        change wpAnyH _ _ _ _ _ _ _ _ (World.drew _)
                                        refine tkp 0 trivial ?_
                                        (try simp only [Act.put, List.setIfInBounds_toArray, List.set_cons_zero, List.set_cons_succ])
                                        refine tkp 1 trivial ?_
                                        (try simp only [Act.put, List.setIfInBounds_toArray, List.set_cons_zero, List.set_cons_succ])
                                        refine tkp 2 trivial ?_
                                        (try simp only [Act.put, List.setIfInBounds_toArray, List.set_cons_zero, List.set_cons_succ])
                                        refine tkp 3 trivial ?_
                                        (try simp only [Act.put, List.setIfInBounds_toArray, List.set_cons_zero, List.set_cons_succ])
                                        refine tkp 4 trivial ?_
                                        (try simp only [Act.put, List.setIfInBounds_toArray, List.set_cons_zero, List.set_cons_succ])
                                        refine tkp 5 trivial ?_
                                        (try simp only [Act.put, List.setIfInBounds_toArray, List.set_cons_zero, List.set_cons_succ])
                                        refine tkp 6 trivial ?_
                                        (try simp only [Act.put, List.setIfInBounds_toArray, List.set_cons_zero, List.set_cons_succ])
                                        refine rdy1 7 (fun K hK => ?_)
                                        refine stp (by with_unfolding_all rfl) (wp_fbsl T_u8 hFd (vs := [bv 48, bv 101]) (by with_unfolding_all rfl) (by with_unfolding_all rfl) (by with_unfolding_all rfl) (by decide) (by simp [bv, Value.cells]) ?_)
                                        intro w11 g11 hF11 hz11
                                        refine hK.out _ _ (trivial) (fun _ => ?_)
                                        clear hK K
                                        (try simp only [Act.put, List.setIfInBounds_toArray, List.set_cons_zero, List.set_cons_succ])
                                        refine rdy1 8 (fun K hK => ?_)
                                        refine stp (by with_unfolding_all rfl) (wp_fapp T_u8 hF11 (i := 1) (l := (O ++ [92, 117, 48, 48])) rfl (Nat.le_refl _) (((hF11.rdOwn (i := 0) rfl : Rd _ _ _ 1 2 (([48, 101] : List UInt8).map bv)))) (by with_unfolding_all exact ⟨_, _, rfl, rfl, rfl⟩) (by rw [List.length_append]; simp only [List.length_cons, List.length_nil]; omega) ?_)
                                        intro v12 w12 hF12 hz12
                                        (try simp only [List.set_cons_zero, List.set_cons_succ] at hF12)
                                        refine hK.out _ _ (trivial) (fun _ => ?_)
                                        clear hK K
                                        (try simp only [Act.put, List.setIfInBounds_toArray, List.set_cons_zero, List.set_cons_succ])
                                        refine tkp 9 trivial ?_
                                        (try simp only [Act.put, List.setIfInBounds_toArray, List.set_cons_zero, List.set_cons_succ])
                                        refine wpAnyH_done (by kernel_rfl) ?_ _
                                        go_wp2_with fail
                                        go_roundg (s.size - (j + 1))
                                        case rel => exact ⟨j + 1, O ++ [92, 117, 48, 48, 48, 101], by omega, box rfl, by go_num, hO2.out, hgo, by have h5 := hF12.tail; rw [List.append_assoc] at h5; exact h5⟩
                                        case measure => have := hkf.out; omega
                                      · have n14 : ((y.toNat : Int) == 14) = false := u8_ne hy14
                                        by_cases hy15 : y = 15
                                        · subst hy15
                                          replace hgo : Box (out ++ jQuote s.data.toList = O ++ [92, 117, 48, 48, 48, 102] ++ (s.data.toList.drop (j + 1)).flatMap jQc ++ [34]) := hgo
                                          replace hO2 : Box ((O ++ [92, 117, 48, 48, 48, 102]).length ≤ out.length + 1 + 6 * (j + 1)) := hO2
                                          go_wp2_with (first | ((with_reducible refine lst (by with_unfolding_all rfl) (wp_fappS T_u8 Tryd.underlying9 hF (i := 0) rfl (Nat.le_refl _) (by with_unfolding_all exact ⟨_, _, rfl, rfl, rfl⟩) (by rw [show (⟨#[92, 117, 48, 48]⟩ : ByteArray).size = 4 from rfl]; omega) ?_)); intro v2 w2 hF2 hz2; simp only [List.set_cons_zero, List.set_cons_succ] at hF2))
                                          have hFd := hF2.drew
                                          have hbk : bits BinOp.and IntKind.u8 15 15 = 15 := by rfl
                                          refine wp_region_held (S := fun _ => True) (by kernel_rfl) ?_
                                          change wpAnyH _ _ _ _ _ _ _ _ (World.drew _)
                                          refine tkp 0 trivial ?_
                                          (try simp only [Act.put, List.setIfInBounds_toArray, List.set_cons_zero, List.set_cons_succ])
                                          refine tkp 1 trivial ?_
                                          (try simp only [Act.put, List.setIfInBounds_toArray, List.set_cons_zero, List.set_cons_succ])
                                          refine tkp 2 trivial ?_
                                          (try simp only [Act.put, List.setIfInBounds_toArray, List.set_cons_zero, List.set_cons_succ])
                                          refine tkp 3 trivial ?_
                                          (try simp only [Act.put, List.setIfInBounds_toArray, List.set_cons_zero, List.set_cons_succ])
                                          refine tkp 4 trivial ?_
                                          (try simp only [Act.put, List.setIfInBounds_toArray, List.set_cons_zero, List.set_cons_succ])
                                          refine tkp 5 trivial ?_
                                          (try simp only [Act.put, List.setIfInBounds_toArray, List.set_cons_zero, List.set_cons_succ])
                                          refine tkp 6 trivial ?_
                                          (try simp only [Act.put, List.setIfInBounds_toArray, List.set_cons_zero, List.set_cons_succ])
                                          refine rdy1 7 (fun K hK => ?_)
                                          refine stp (by with_unfolding_all rfl) (wp_fbsl T_u8 hFd (vs := [bv 48, bv 102]) (by with_unfolding_all rfl) (by with_unfolding_all rfl) (by with_unfolding_all rfl) (by decide) (by simp [bv, Value.cells]) ?_)
                                          intro w11 g11 hF11 hz11
                                          refine hK.out _ _ (trivial) (fun _ => ?_)
                                          clear hK K
                                          (try simp only [Act.put, List.setIfInBounds_toArray, List.set_cons_zero, List.set_cons_succ])
                                          refine rdy1 8 (fun K hK => ?_)
                                          refine stp (by with_unfolding_all rfl) (wp_fapp T_u8 hF11 (i := 1) (l := (O ++ [92, 117, 48, 48])) rfl (Nat.le_refl _) (((hF11.rdOwn (i := 0) rfl : Rd _ _ _ 1 2 (([48, 102] : List UInt8).map bv)))) (by with_unfolding_all exact ⟨_, _, rfl, rfl, rfl⟩) (by rw [List.length_append]; simp only [List.length_cons, List.length_nil]; omega) ?_)
                                          intro v12 w12 hF12 hz12
                                          (try simp only [List.set_cons_zero, List.set_cons_succ] at hF12)
                                          refine hK.out _ _ (trivial) (fun _ => ?_)
                                          clear hK K
                                          (try simp only [Act.put, List.setIfInBounds_toArray, List.set_cons_zero, List.set_cons_succ])
                                          refine tkp 9 trivial ?_
                                          (try simp only [Act.put, List.setIfInBounds_toArray, List.set_cons_zero, List.set_cons_succ])
                                          refine wpAnyH_done (by kernel_rfl) ?_ _
                                          go_wp2_with fail
                                          go_roundg (s.size - (j + 1))
                                          case rel => exact ⟨j + 1, O ++ [92, 117, 48, 48, 48, 102], by omega, box rfl, by go_num, hO2.out, hgo, by have h5 := hF12.tail; rw [List.append_assoc] at h5; exact h5⟩
                                          case measure => have := hkf.out; omega
                                        · have n15 : ((y.toNat : Int) == 15) = false := u8_ne hy15
                                          by_cases hy16 : y = 16
                                          · subst hy16
                                            replace hgo : Box (out ++ jQuote s.data.toList = O ++ [92, 117, 48, 48, 49, 48] ++ (s.data.toList.drop (j + 1)).flatMap jQc ++ [34]) := hgo
                                            replace hO2 : Box ((O ++ [92, 117, 48, 48, 49, 48]).length ≤ out.length + 1 + 6 * (j + 1)) := hO2
                                            go_wp2_with (first | ((with_reducible refine lst (by with_unfolding_all rfl) (wp_fappS T_u8 Tryd.underlying9 hF (i := 0) rfl (Nat.le_refl _) (by with_unfolding_all exact ⟨_, _, rfl, rfl, rfl⟩) (by rw [show (⟨#[92, 117, 48, 48]⟩ : ByteArray).size = 4 from rfl]; omega) ?_)); intro v2 w2 hF2 hz2; simp only [List.set_cons_zero, List.set_cons_succ] at hF2))
                                            have hFd := hF2.drew
                                            have hbk : bits BinOp.and IntKind.u8 16 15 = 0 := by rfl
                                            refine wp_region_held (S := fun _ => True) (by kernel_rfl) ?_
                                            change wpAnyH _ _ _ _ _ _ _ _ (World.drew _)
                                            refine tkp 0 trivial ?_
                                            (try simp only [Act.put, List.setIfInBounds_toArray, List.set_cons_zero, List.set_cons_succ])
                                            refine tkp 1 trivial ?_
                                            (try simp only [Act.put, List.setIfInBounds_toArray, List.set_cons_zero, List.set_cons_succ])
                                            refine tkp 2 trivial ?_
                                            (try simp only [Act.put, List.setIfInBounds_toArray, List.set_cons_zero, List.set_cons_succ])
                                            refine tkp 3 trivial ?_
                                            (try simp only [Act.put, List.setIfInBounds_toArray, List.set_cons_zero, List.set_cons_succ])
                                            refine tkp 4 trivial ?_
                                            (try simp only [Act.put, List.setIfInBounds_toArray, List.set_cons_zero, List.set_cons_succ])
                                            refine tkp 5 trivial ?_
                                            (try simp only [Act.put, List.setIfInBounds_toArray, List.set_cons_zero, List.set_cons_succ])
                                            refine tkp 6 trivial ?_
                                            (try simp only [Act.put, List.setIfInBounds_toArray, List.set_cons_zero, List.set_cons_succ])
                                            refine rdy1 7 (fun K hK => ?_)
                                            refine stp (by with_unfolding_all rfl) (wp_fbsl T_u8 hFd (vs := [bv 49, bv 48]) (by with_unfolding_all rfl) (by with_unfolding_all rfl) (by with_unfolding_all rfl) (by decide) (by simp [bv, Value.cells]) ?_)
                                            intro w11 g11 hF11 hz11
                                            refine hK.out _ _ (trivial) (fun _ => ?_)
                                            clear hK K
                                            (try simp only [Act.put, List.setIfInBounds_toArray, List.set_cons_zero, List.set_cons_succ])
                                            refine rdy1 8 (fun K hK => ?_)
                                            refine stp (by with_unfolding_all rfl) (wp_fapp T_u8 hF11 (i := 1) (l := (O ++ [92, 117, 48, 48])) rfl (Nat.le_refl _) (((hF11.rdOwn (i := 0) rfl : Rd _ _ _ 1 2 (([49, 48] : List UInt8).map bv)))) (by with_unfolding_all exact ⟨_, _, rfl, rfl, rfl⟩) (by rw [List.length_append]; simp only [List.length_cons, List.length_nil]; omega) ?_)
                                            intro v12 w12 hF12 hz12
                                            (try simp only [List.set_cons_zero, List.set_cons_succ] at hF12)
                                            refine hK.out _ _ (trivial) (fun _ => ?_)
                                            clear hK K
                                            (try simp only [Act.put, List.setIfInBounds_toArray, List.set_cons_zero, List.set_cons_succ])
                                            refine tkp 9 trivial ?_
                                            (try simp only [Act.put, List.setIfInBounds_toArray, List.set_cons_zero, List.set_cons_succ])
                                            refine wpAnyH_done (by kernel_rfl) ?_ _
                                            go_wp2_with fail
                                            go_roundg (s.size - (j + 1))
                                            case rel => exact ⟨j + 1, O ++ [92, 117, 48, 48, 49, 48], by omega, box rfl, by go_num, hO2.out, hgo, by have h5 := hF12.tail; rw [List.append_assoc] at h5; exact h5⟩
                                            case measure => have := hkf.out; omega
                                          · have n16 : ((y.toNat : Int) == 16) = false := u8_ne hy16
                                            by_cases hy17 : y = 17
                                            · subst hy17
                                              replace hgo : Box (out ++ jQuote s.data.toList = O ++ [92, 117, 48, 48, 49, 49] ++ (s.data.toList.drop (j + 1)).flatMap jQc ++ [34]) := hgo
                                              replace hO2 : Box ((O ++ [92, 117, 48, 48, 49, 49]).length ≤ out.length + 1 + 6 * (j + 1)) := hO2
                                              go_wp2_with (first | ((with_reducible refine lst (by with_unfolding_all rfl) (wp_fappS T_u8 Tryd.underlying9 hF (i := 0) rfl (Nat.le_refl _) (by with_unfolding_all exact ⟨_, _, rfl, rfl, rfl⟩) (by rw [show (⟨#[92, 117, 48, 48]⟩ : ByteArray).size = 4 from rfl]; omega) ?_)); intro v2 w2 hF2 hz2; simp only [List.set_cons_zero, List.set_cons_succ] at hF2))
                                              have hFd := hF2.drew
                                              have hbk : bits BinOp.and IntKind.u8 17 15 = 1 := by rfl
                                              refine wp_region_held (S := fun _ => True) (by kernel_rfl) ?_
                                              change wpAnyH _ _ _ _ _ _ _ _ (World.drew _)
                                              refine tkp 0 trivial ?_
                                              (try simp only [Act.put, List.setIfInBounds_toArray, List.set_cons_zero, List.set_cons_succ])
                                              refine tkp 1 trivial ?_
                                              (try simp only [Act.put, List.setIfInBounds_toArray, List.set_cons_zero, List.set_cons_succ])
                                              refine tkp 2 trivial ?_
                                              (try simp only [Act.put, List.setIfInBounds_toArray, List.set_cons_zero, List.set_cons_succ])
                                              refine tkp 3 trivial ?_
                                              (try simp only [Act.put, List.setIfInBounds_toArray, List.set_cons_zero, List.set_cons_succ])
                                              refine tkp 4 trivial ?_
                                              (try simp only [Act.put, List.setIfInBounds_toArray, List.set_cons_zero, List.set_cons_succ])
                                              refine tkp 5 trivial ?_
                                              (try simp only [Act.put, List.setIfInBounds_toArray, List.set_cons_zero, List.set_cons_succ])
                                              refine tkp 6 trivial ?_
                                              (try simp only [Act.put, List.setIfInBounds_toArray, List.set_cons_zero, List.set_cons_succ])
                                              refine rdy1 7 (fun K hK => ?_)
                                              refine stp (by with_unfolding_all rfl) (wp_fbsl T_u8 hFd (vs := [bv 49, bv 49]) (by with_unfolding_all rfl) (by with_unfolding_all rfl) (by with_unfolding_all rfl) (by decide) (by simp [bv, Value.cells]) ?_)
                                              intro w11 g11 hF11 hz11
                                              refine hK.out _ _ (trivial) (fun _ => ?_)
                                              clear hK K
                                              (try simp only [Act.put, List.setIfInBounds_toArray, List.set_cons_zero, List.set_cons_succ])
                                              refine rdy1 8 (fun K hK => ?_)
                                              refine stp (by with_unfolding_all rfl) (wp_fapp T_u8 hF11 (i := 1) (l := (O ++ [92, 117, 48, 48])) rfl (Nat.le_refl _) (((hF11.rdOwn (i := 0) rfl : Rd _ _ _ 1 2 (([49, 49] : List UInt8).map bv)))) (by with_unfolding_all exact ⟨_, _, rfl, rfl, rfl⟩) (by rw [List.length_append]; simp only [List.length_cons, List.length_nil]; omega) ?_)
                                              intro v12 w12 hF12 hz12
                                              (try simp only [List.set_cons_zero, List.set_cons_succ] at hF12)
                                              refine hK.out _ _ (trivial) (fun _ => ?_)
                                              clear hK K
                                              (try simp only [Act.put, List.setIfInBounds_toArray, List.set_cons_zero, List.set_cons_succ])
                                              refine tkp 9 trivial ?_
                                              (try simp only [Act.put, List.setIfInBounds_toArray, List.set_cons_zero, List.set_cons_succ])
                                              refine wpAnyH_done (by kernel_rfl) ?_ _
                                              go_wp2_with fail
                                              go_roundg (s.size - (j + 1))
                                              case rel => exact ⟨j + 1, O ++ [92, 117, 48, 48, 49, 49], by omega, box rfl, by go_num, hO2.out, hgo, by have h5 := hF12.tail; rw [List.append_assoc] at h5; exact h5⟩
                                              case measure => have := hkf.out; omega
                                            · have n17 : ((y.toNat : Int) == 17) = false := u8_ne hy17
                                              by_cases hy18 : y = 18
                                              · subst hy18
                                                replace hgo : Box (out ++ jQuote s.data.toList = O ++ [92, 117, 48, 48, 49, 50] ++ (s.data.toList.drop (j + 1)).flatMap jQc ++ [34]) := hgo
                                                replace hO2 : Box ((O ++ [92, 117, 48, 48, 49, 50]).length ≤ out.length + 1 + 6 * (j + 1)) := hO2
                                                go_wp2_with (first | ((with_reducible refine lst (by with_unfolding_all rfl) (wp_fappS T_u8 Tryd.underlying9 hF (i := 0) rfl (Nat.le_refl _) (by with_unfolding_all exact ⟨_, _, rfl, rfl, rfl⟩) (by rw [show (⟨#[92, 117, 48, 48]⟩ : ByteArray).size = 4 from rfl]; omega) ?_)); intro v2 w2 hF2 hz2; simp only [List.set_cons_zero, List.set_cons_succ] at hF2))
                                                have hFd := hF2.drew
                                                have hbk : bits BinOp.and IntKind.u8 18 15 = 2 := by rfl
                                                refine wp_region_held (S := fun _ => True) (by kernel_rfl) ?_
                                                change wpAnyH _ _ _ _ _ _ _ _ (World.drew _)
                                                refine tkp 0 trivial ?_
                                                (try simp only [Act.put, List.setIfInBounds_toArray, List.set_cons_zero, List.set_cons_succ])
                                                refine tkp 1 trivial ?_
                                                (try simp only [Act.put, List.setIfInBounds_toArray, List.set_cons_zero, List.set_cons_succ])
                                                refine tkp 2 trivial ?_
                                                (try simp only [Act.put, List.setIfInBounds_toArray, List.set_cons_zero, List.set_cons_succ])
                                                refine tkp 3 trivial ?_
                                                (try simp only [Act.put, List.setIfInBounds_toArray, List.set_cons_zero, List.set_cons_succ])
                                                refine tkp 4 trivial ?_
                                                (try simp only [Act.put, List.setIfInBounds_toArray, List.set_cons_zero, List.set_cons_succ])
                                                refine tkp 5 trivial ?_
                                                (try simp only [Act.put, List.setIfInBounds_toArray, List.set_cons_zero, List.set_cons_succ])
                                                refine tkp 6 trivial ?_
                                                (try simp only [Act.put, List.setIfInBounds_toArray, List.set_cons_zero, List.set_cons_succ])
                                                refine rdy1 7 (fun K hK => ?_)
                                                refine stp (by with_unfolding_all rfl) (wp_fbsl T_u8 hFd (vs := [bv 49, bv 50]) (by with_unfolding_all rfl) (by with_unfolding_all rfl) (by with_unfolding_all rfl) (by decide) (by simp [bv, Value.cells]) ?_)
                                                intro w11 g11 hF11 hz11
                                                refine hK.out _ _ (trivial) (fun _ => ?_)
                                                clear hK K
                                                (try simp only [Act.put, List.setIfInBounds_toArray, List.set_cons_zero, List.set_cons_succ])
                                                refine rdy1 8 (fun K hK => ?_)
                                                refine stp (by with_unfolding_all rfl) (wp_fapp T_u8 hF11 (i := 1) (l := (O ++ [92, 117, 48, 48])) rfl (Nat.le_refl _) (((hF11.rdOwn (i := 0) rfl : Rd _ _ _ 1 2 (([49, 50] : List UInt8).map bv)))) (by with_unfolding_all exact ⟨_, _, rfl, rfl, rfl⟩) (by rw [List.length_append]; simp only [List.length_cons, List.length_nil]; omega) ?_)
                                                intro v12 w12 hF12 hz12
                                                (try simp only [List.set_cons_zero, List.set_cons_succ] at hF12)
                                                refine hK.out _ _ (trivial) (fun _ => ?_)
                                                clear hK K
                                                (try simp only [Act.put, List.setIfInBounds_toArray, List.set_cons_zero, List.set_cons_succ])
                                                refine tkp 9 trivial ?_
                                                (try simp only [Act.put, List.setIfInBounds_toArray, List.set_cons_zero, List.set_cons_succ])
                                                refine wpAnyH_done (by kernel_rfl) ?_ _
                                                go_wp2_with fail
                                                go_roundg (s.size - (j + 1))
                                                case rel => exact ⟨j + 1, O ++ [92, 117, 48, 48, 49, 50], by omega, box rfl, by go_num, hO2.out, hgo, by have h5 := hF12.tail; rw [List.append_assoc] at h5; exact h5⟩
                                                case measure => have := hkf.out; omega
                                              · have n18 : ((y.toNat : Int) == 18) = false := u8_ne hy18
                                                by_cases hy19 : y = 19
                                                · subst hy19
                                                  replace hgo : Box (out ++ jQuote s.data.toList = O ++ [92, 117, 48, 48, 49, 51] ++ (s.data.toList.drop (j + 1)).flatMap jQc ++ [34]) := hgo
                                                  replace hO2 : Box ((O ++ [92, 117, 48, 48, 49, 51]).length ≤ out.length + 1 + 6 * (j + 1)) := hO2
                                                  go_wp2_with (first | ((with_reducible refine lst (by with_unfolding_all rfl) (wp_fappS T_u8 Tryd.underlying9 hF (i := 0) rfl (Nat.le_refl _) (by with_unfolding_all exact ⟨_, _, rfl, rfl, rfl⟩) (by rw [show (⟨#[92, 117, 48, 48]⟩ : ByteArray).size = 4 from rfl]; omega) ?_)); intro v2 w2 hF2 hz2; simp only [List.set_cons_zero, List.set_cons_succ] at hF2))
                                                  have hFd := hF2.drew
                                                  have hbk : bits BinOp.and IntKind.u8 19 15 = 3 := by rfl
                                                  refine wp_region_held (S := fun _ => True) (by kernel_rfl) ?_
                                                  change wpAnyH _ _ _ _ _ _ _ _ (World.drew _)
                                                  refine tkp 0 trivial ?_
                                                  (try simp only [Act.put, List.setIfInBounds_toArray, List.set_cons_zero, List.set_cons_succ])
                                                  refine tkp 1 trivial ?_
                                                  (try simp only [Act.put, List.setIfInBounds_toArray, List.set_cons_zero, List.set_cons_succ])
                                                  refine tkp 2 trivial ?_
                                                  (try simp only [Act.put, List.setIfInBounds_toArray, List.set_cons_zero, List.set_cons_succ])
                                                  refine tkp 3 trivial ?_
                                                  (try simp only [Act.put, List.setIfInBounds_toArray, List.set_cons_zero, List.set_cons_succ])
                                                  refine tkp 4 trivial ?_
                                                  (try simp only [Act.put, List.setIfInBounds_toArray, List.set_cons_zero, List.set_cons_succ])
                                                  refine tkp 5 trivial ?_
                                                  (try simp only [Act.put, List.setIfInBounds_toArray, List.set_cons_zero, List.set_cons_succ])
                                                  refine tkp 6 trivial ?_
                                                  (try simp only [Act.put, List.setIfInBounds_toArray, List.set_cons_zero, List.set_cons_succ])
                                                  refine rdy1 7 (fun K hK => ?_)
                                                  refine stp (by with_unfolding_all rfl) (wp_fbsl T_u8 hFd (vs := [bv 49, bv 51]) (by with_unfolding_all rfl) (by with_unfolding_all rfl) (by with_unfolding_all rfl) (by decide) (by simp [bv, Value.cells]) ?_)
                                                  intro w11 g11 hF11 hz11
                                                  refine hK.out _ _ (trivial) (fun _ => ?_)
                                                  clear hK K
                                                  (try simp only [Act.put, List.setIfInBounds_toArray, List.set_cons_zero, List.set_cons_succ])
                                                  refine rdy1 8 (fun K hK => ?_)
                                                  refine stp (by with_unfolding_all rfl) (wp_fapp T_u8 hF11 (i := 1) (l := (O ++ [92, 117, 48, 48])) rfl (Nat.le_refl _) (((hF11.rdOwn (i := 0) rfl : Rd _ _ _ 1 2 (([49, 51] : List UInt8).map bv)))) (by with_unfolding_all exact ⟨_, _, rfl, rfl, rfl⟩) (by rw [List.length_append]; simp only [List.length_cons, List.length_nil]; omega) ?_)
                                                  intro v12 w12 hF12 hz12
                                                  (try simp only [List.set_cons_zero, List.set_cons_succ] at hF12)
                                                  refine hK.out _ _ (trivial) (fun _ => ?_)
                                                  clear hK K
                                                  (try simp only [Act.put, List.setIfInBounds_toArray, List.set_cons_zero, List.set_cons_succ])
                                                  refine tkp 9 trivial ?_
                                                  (try simp only [Act.put, List.setIfInBounds_toArray, List.set_cons_zero, List.set_cons_succ])
                                                  refine wpAnyH_done (by kernel_rfl) ?_ _
                                                  go_wp2_with fail
                                                  go_roundg (s.size - (j + 1))
                                                  case rel => exact ⟨j + 1, O ++ [92, 117, 48, 48, 49, 51], by omega, box rfl, by go_num, hO2.out, hgo, by have h5 := hF12.tail; rw [List.append_assoc] at h5; exact h5⟩
                                                  case measure => have := hkf.out; omega
                                                · have n19 : ((y.toNat : Int) == 19) = false := u8_ne hy19
                                                  by_cases hy20 : y = 20
                                                  · subst hy20
                                                    replace hgo : Box (out ++ jQuote s.data.toList = O ++ [92, 117, 48, 48, 49, 52] ++ (s.data.toList.drop (j + 1)).flatMap jQc ++ [34]) := hgo
                                                    replace hO2 : Box ((O ++ [92, 117, 48, 48, 49, 52]).length ≤ out.length + 1 + 6 * (j + 1)) := hO2
                                                    go_wp2_with (first | ((with_reducible refine lst (by with_unfolding_all rfl) (wp_fappS T_u8 Tryd.underlying9 hF (i := 0) rfl (Nat.le_refl _) (by with_unfolding_all exact ⟨_, _, rfl, rfl, rfl⟩) (by rw [show (⟨#[92, 117, 48, 48]⟩ : ByteArray).size = 4 from rfl]; omega) ?_)); intro v2 w2 hF2 hz2; simp only [List.set_cons_zero, List.set_cons_succ] at hF2))
                                                    have hFd := hF2.drew
                                                    have hbk : bits BinOp.and IntKind.u8 20 15 = 4 := by rfl
                                                    refine wp_region_held (S := fun _ => True) (by kernel_rfl) ?_
                                                    change wpAnyH _ _ _ _ _ _ _ _ (World.drew _)
                                                    refine tkp 0 trivial ?_
                                                    (try simp only [Act.put, List.setIfInBounds_toArray, List.set_cons_zero, List.set_cons_succ])
                                                    refine tkp 1 trivial ?_
                                                    (try simp only [Act.put, List.setIfInBounds_toArray, List.set_cons_zero, List.set_cons_succ])
                                                    refine tkp 2 trivial ?_
                                                    (try simp only [Act.put, List.setIfInBounds_toArray, List.set_cons_zero, List.set_cons_succ])
                                                    refine tkp 3 trivial ?_
                                                    (try simp only [Act.put, List.setIfInBounds_toArray, List.set_cons_zero, List.set_cons_succ])
                                                    refine tkp 4 trivial ?_
                                                    (try simp only [Act.put, List.setIfInBounds_toArray, List.set_cons_zero, List.set_cons_succ])
                                                    refine tkp 5 trivial ?_
                                                    (try simp only [Act.put, List.setIfInBounds_toArray, List.set_cons_zero, List.set_cons_succ])
                                                    refine tkp 6 trivial ?_
                                                    (try simp only [Act.put, List.setIfInBounds_toArray, List.set_cons_zero, List.set_cons_succ])
                                                    refine rdy1 7 (fun K hK => ?_)
                                                    refine stp (by with_unfolding_all rfl) (wp_fbsl T_u8 hFd (vs := [bv 49, bv 52]) (by with_unfolding_all rfl) (by with_unfolding_all rfl) (by with_unfolding_all rfl) (by decide) (by simp [bv, Value.cells]) ?_)
                                                    intro w11 g11 hF11 hz11
                                                    refine hK.out _ _ (trivial) (fun _ => ?_)
                                                    clear hK K
                                                    (try simp only [Act.put, List.setIfInBounds_toArray, List.set_cons_zero, List.set_cons_succ])
                                                    refine rdy1 8 (fun K hK => ?_)
                                                    refine stp (by with_unfolding_all rfl) (wp_fapp T_u8 hF11 (i := 1) (l := (O ++ [92, 117, 48, 48])) rfl (Nat.le_refl _) (((hF11.rdOwn (i := 0) rfl : Rd _ _ _ 1 2 (([49, 52] : List UInt8).map bv)))) (by with_unfolding_all exact ⟨_, _, rfl, rfl, rfl⟩) (by rw [List.length_append]; simp only [List.length_cons, List.length_nil]; omega) ?_)
                                                    intro v12 w12 hF12 hz12
                                                    (try simp only [List.set_cons_zero, List.set_cons_succ] at hF12)
                                                    refine hK.out _ _ (trivial) (fun _ => ?_)
                                                    clear hK K
                                                    (try simp only [Act.put, List.setIfInBounds_toArray, List.set_cons_zero, List.set_cons_succ])
                                                    refine tkp 9 trivial ?_
                                                    (try simp only [Act.put, List.setIfInBounds_toArray, List.set_cons_zero, List.set_cons_succ])
                                                    refine wpAnyH_done (by kernel_rfl) ?_ _
                                                    go_wp2_with fail
                                                    go_roundg (s.size - (j + 1))
                                                    case rel => exact ⟨j + 1, O ++ [92, 117, 48, 48, 49, 52], by omega, box rfl, by go_num, hO2.out, hgo, by have h5 := hF12.tail; rw [List.append_assoc] at h5; exact h5⟩
                                                    case measure => have := hkf.out; omega
                                                  · have n20 : ((y.toNat : Int) == 20) = false := u8_ne hy20
                                                    by_cases hy21 : y = 21
                                                    · subst hy21
                                                      replace hgo : Box (out ++ jQuote s.data.toList = O ++ [92, 117, 48, 48, 49, 53] ++ (s.data.toList.drop (j + 1)).flatMap jQc ++ [34]) := hgo
                                                      replace hO2 : Box ((O ++ [92, 117, 48, 48, 49, 53]).length ≤ out.length + 1 + 6 * (j + 1)) := hO2
                                                      go_wp2_with (first | ((with_reducible refine lst (by with_unfolding_all rfl) (wp_fappS T_u8 Tryd.underlying9 hF (i := 0) rfl (Nat.le_refl _) (by with_unfolding_all exact ⟨_, _, rfl, rfl, rfl⟩) (by rw [show (⟨#[92, 117, 48, 48]⟩ : ByteArray).size = 4 from rfl]; omega) ?_)); intro v2 w2 hF2 hz2; simp only [List.set_cons_zero, List.set_cons_succ] at hF2))
                                                      have hFd := hF2.drew
                                                      have hbk : bits BinOp.and IntKind.u8 21 15 = 5 := by rfl
                                                      refine wp_region_held (S := fun _ => True) (by kernel_rfl) ?_
                                                      change wpAnyH _ _ _ _ _ _ _ _ (World.drew _)
                                                      refine tkp 0 trivial ?_
                                                      (try simp only [Act.put, List.setIfInBounds_toArray, List.set_cons_zero, List.set_cons_succ])
                                                      refine tkp 1 trivial ?_
                                                      (try simp only [Act.put, List.setIfInBounds_toArray, List.set_cons_zero, List.set_cons_succ])
                                                      refine tkp 2 trivial ?_
                                                      (try simp only [Act.put, List.setIfInBounds_toArray, List.set_cons_zero, List.set_cons_succ])
                                                      refine tkp 3 trivial ?_
                                                      (try simp only [Act.put, List.setIfInBounds_toArray, List.set_cons_zero, List.set_cons_succ])
                                                      refine tkp 4 trivial ?_
                                                      (try simp only [Act.put, List.setIfInBounds_toArray, List.set_cons_zero, List.set_cons_succ])
                                                      refine tkp 5 trivial ?_
                                                      (try simp only [Act.put, List.setIfInBounds_toArray, List.set_cons_zero, List.set_cons_succ])
                                                      refine tkp 6 trivial ?_
                                                      (try simp only [Act.put, List.setIfInBounds_toArray, List.set_cons_zero, List.set_cons_succ])
                                                      refine rdy1 7 (fun K hK => ?_)
                                                      refine stp (by with_unfolding_all rfl) (wp_fbsl T_u8 hFd (vs := [bv 49, bv 53]) (by with_unfolding_all rfl) (by with_unfolding_all rfl) (by with_unfolding_all rfl) (by decide) (by simp [bv, Value.cells]) ?_)
                                                      intro w11 g11 hF11 hz11
                                                      refine hK.out _ _ (trivial) (fun _ => ?_)
                                                      clear hK K
                                                      (try simp only [Act.put, List.setIfInBounds_toArray, List.set_cons_zero, List.set_cons_succ])
                                                      refine rdy1 8 (fun K hK => ?_)
                                                      refine stp (by with_unfolding_all rfl) (wp_fapp T_u8 hF11 (i := 1) (l := (O ++ [92, 117, 48, 48])) rfl (Nat.le_refl _) (((hF11.rdOwn (i := 0) rfl : Rd _ _ _ 1 2 (([49, 53] : List UInt8).map bv)))) (by with_unfolding_all exact ⟨_, _, rfl, rfl, rfl⟩) (by rw [List.length_append]; simp only [List.length_cons, List.length_nil]; omega) ?_)
                                                      intro v12 w12 hF12 hz12
                                                      (try simp only [List.set_cons_zero, List.set_cons_succ] at hF12)
                                                      refine hK.out _ _ (trivial) (fun _ => ?_)
                                                      clear hK K
                                                      (try simp only [Act.put, List.setIfInBounds_toArray, List.set_cons_zero, List.set_cons_succ])
                                                      refine tkp 9 trivial ?_
                                                      (try simp only [Act.put, List.setIfInBounds_toArray, List.set_cons_zero, List.set_cons_succ])
                                                      refine wpAnyH_done (by kernel_rfl) ?_ _
                                                      go_wp2_with fail
                                                      go_roundg (s.size - (j + 1))
                                                      case rel => exact ⟨j + 1, O ++ [92, 117, 48, 48, 49, 53], by omega, box rfl, by go_num, hO2.out, hgo, by have h5 := hF12.tail; rw [List.append_assoc] at h5; exact h5⟩
                                                      case measure => have := hkf.out; omega
                                                    · have n21 : ((y.toNat : Int) == 21) = false := u8_ne hy21
                                                      by_cases hy22 : y = 22
                                                      · subst hy22
                                                        replace hgo : Box (out ++ jQuote s.data.toList = O ++ [92, 117, 48, 48, 49, 54] ++ (s.data.toList.drop (j + 1)).flatMap jQc ++ [34]) := hgo
                                                        replace hO2 : Box ((O ++ [92, 117, 48, 48, 49, 54]).length ≤ out.length + 1 + 6 * (j + 1)) := hO2
                                                        go_wp2_with (first | ((with_reducible refine lst (by with_unfolding_all rfl) (wp_fappS T_u8 Tryd.underlying9 hF (i := 0) rfl (Nat.le_refl _) (by with_unfolding_all exact ⟨_, _, rfl, rfl, rfl⟩) (by rw [show (⟨#[92, 117, 48, 48]⟩ : ByteArray).size = 4 from rfl]; omega) ?_)); intro v2 w2 hF2 hz2; simp only [List.set_cons_zero, List.set_cons_succ] at hF2))
                                                        have hFd := hF2.drew
                                                        have hbk : bits BinOp.and IntKind.u8 22 15 = 6 := by rfl
                                                        refine wp_region_held (S := fun _ => True) (by kernel_rfl) ?_
                                                        change wpAnyH _ _ _ _ _ _ _ _ (World.drew _)
                                                        refine tkp 0 trivial ?_
                                                        (try simp only [Act.put, List.setIfInBounds_toArray, List.set_cons_zero, List.set_cons_succ])
                                                        refine tkp 1 trivial ?_
                                                        (try simp only [Act.put, List.setIfInBounds_toArray, List.set_cons_zero, List.set_cons_succ])
                                                        refine tkp 2 trivial ?_
                                                        (try simp only [Act.put, List.setIfInBounds_toArray, List.set_cons_zero, List.set_cons_succ])
                                                        refine tkp 3 trivial ?_
                                                        (try simp only [Act.put, List.setIfInBounds_toArray, List.set_cons_zero, List.set_cons_succ])
                                                        refine tkp 4 trivial ?_
                                                        (try simp only [Act.put, List.setIfInBounds_toArray, List.set_cons_zero, List.set_cons_succ])
                                                        refine tkp 5 trivial ?_
                                                        (try simp only [Act.put, List.setIfInBounds_toArray, List.set_cons_zero, List.set_cons_succ])
                                                        refine tkp 6 trivial ?_
                                                        (try simp only [Act.put, List.setIfInBounds_toArray, List.set_cons_zero, List.set_cons_succ])
                                                        refine rdy1 7 (fun K hK => ?_)
                                                        refine stp (by with_unfolding_all rfl) (wp_fbsl T_u8 hFd (vs := [bv 49, bv 54]) (by with_unfolding_all rfl) (by with_unfolding_all rfl) (by with_unfolding_all rfl) (by decide) (by simp [bv, Value.cells]) ?_)
                                                        intro w11 g11 hF11 hz11
                                                        refine hK.out _ _ (trivial) (fun _ => ?_)
                                                        clear hK K
                                                        (try simp only [Act.put, List.setIfInBounds_toArray, List.set_cons_zero, List.set_cons_succ])
                                                        refine rdy1 8 (fun K hK => ?_)
                                                        refine stp (by with_unfolding_all rfl) (wp_fapp T_u8 hF11 (i := 1) (l := (O ++ [92, 117, 48, 48])) rfl (Nat.le_refl _) (((hF11.rdOwn (i := 0) rfl : Rd _ _ _ 1 2 (([49, 54] : List UInt8).map bv)))) (by with_unfolding_all exact ⟨_, _, rfl, rfl, rfl⟩) (by rw [List.length_append]; simp only [List.length_cons, List.length_nil]; omega) ?_)
                                                        intro v12 w12 hF12 hz12
                                                        (try simp only [List.set_cons_zero, List.set_cons_succ] at hF12)
                                                        refine hK.out _ _ (trivial) (fun _ => ?_)
                                                        clear hK K
                                                        (try simp only [Act.put, List.setIfInBounds_toArray, List.set_cons_zero, List.set_cons_succ])
                                                        refine tkp 9 trivial ?_
                                                        (try simp only [Act.put, List.setIfInBounds_toArray, List.set_cons_zero, List.set_cons_succ])
                                                        refine wpAnyH_done (by kernel_rfl) ?_ _
                                                        go_wp2_with fail
                                                        go_roundg (s.size - (j + 1))
                                                        case rel => exact ⟨j + 1, O ++ [92, 117, 48, 48, 49, 54], by omega, box rfl, by go_num, hO2.out, hgo, by have h5 := hF12.tail; rw [List.append_assoc] at h5; exact h5⟩
                                                        case measure => have := hkf.out; omega
                                                      · have n22 : ((y.toNat : Int) == 22) = false := u8_ne hy22
                                                        by_cases hy23 : y = 23
                                                        · subst hy23
                                                          replace hgo : Box (out ++ jQuote s.data.toList = O ++ [92, 117, 48, 48, 49, 55] ++ (s.data.toList.drop (j + 1)).flatMap jQc ++ [34]) := hgo
                                                          replace hO2 : Box ((O ++ [92, 117, 48, 48, 49, 55]).length ≤ out.length + 1 + 6 * (j + 1)) := hO2
                                                          go_wp2_with (first | ((with_reducible refine lst (by with_unfolding_all rfl) (wp_fappS T_u8 Tryd.underlying9 hF (i := 0) rfl (Nat.le_refl _) (by with_unfolding_all exact ⟨_, _, rfl, rfl, rfl⟩) (by rw [show (⟨#[92, 117, 48, 48]⟩ : ByteArray).size = 4 from rfl]; omega) ?_)); intro v2 w2 hF2 hz2; simp only [List.set_cons_zero, List.set_cons_succ] at hF2))
                                                          have hFd := hF2.drew
                                                          have hbk : bits BinOp.and IntKind.u8 23 15 = 7 := by rfl
                                                          refine wp_region_held (S := fun _ => True) (by kernel_rfl) ?_
                                                          change wpAnyH _ _ _ _ _ _ _ _ (World.drew _)
                                                          refine tkp 0 trivial ?_
                                                          (try simp only [Act.put, List.setIfInBounds_toArray, List.set_cons_zero, List.set_cons_succ])
                                                          refine tkp 1 trivial ?_
                                                          (try simp only [Act.put, List.setIfInBounds_toArray, List.set_cons_zero, List.set_cons_succ])
                                                          refine tkp 2 trivial ?_
                                                          (try simp only [Act.put, List.setIfInBounds_toArray, List.set_cons_zero, List.set_cons_succ])
                                                          refine tkp 3 trivial ?_
                                                          (try simp only [Act.put, List.setIfInBounds_toArray, List.set_cons_zero, List.set_cons_succ])
                                                          refine tkp 4 trivial ?_
                                                          (try simp only [Act.put, List.setIfInBounds_toArray, List.set_cons_zero, List.set_cons_succ])
                                                          refine tkp 5 trivial ?_
                                                          (try simp only [Act.put, List.setIfInBounds_toArray, List.set_cons_zero, List.set_cons_succ])
                                                          refine tkp 6 trivial ?_
                                                          (try simp only [Act.put, List.setIfInBounds_toArray, List.set_cons_zero, List.set_cons_succ])
                                                          refine rdy1 7 (fun K hK => ?_)
                                                          refine stp (by with_unfolding_all rfl) (wp_fbsl T_u8 hFd (vs := [bv 49, bv 55]) (by with_unfolding_all rfl) (by with_unfolding_all rfl) (by with_unfolding_all rfl) (by decide) (by simp [bv, Value.cells]) ?_)
                                                          intro w11 g11 hF11 hz11
                                                          refine hK.out _ _ (trivial) (fun _ => ?_)
                                                          clear hK K
                                                          (try simp only [Act.put, List.setIfInBounds_toArray, List.set_cons_zero, List.set_cons_succ])
                                                          refine rdy1 8 (fun K hK => ?_)
                                                          refine stp (by with_unfolding_all rfl) (wp_fapp T_u8 hF11 (i := 1) (l := (O ++ [92, 117, 48, 48])) rfl (Nat.le_refl _) (((hF11.rdOwn (i := 0) rfl : Rd _ _ _ 1 2 (([49, 55] : List UInt8).map bv)))) (by with_unfolding_all exact ⟨_, _, rfl, rfl, rfl⟩) (by rw [List.length_append]; simp only [List.length_cons, List.length_nil]; omega) ?_)
                                                          intro v12 w12 hF12 hz12
                                                          (try simp only [List.set_cons_zero, List.set_cons_succ] at hF12)
                                                          refine hK.out _ _ (trivial) (fun _ => ?_)
                                                          clear hK K
                                                          (try simp only [Act.put, List.setIfInBounds_toArray, List.set_cons_zero, List.set_cons_succ])
                                                          refine tkp 9 trivial ?_
                                                          (try simp only [Act.put, List.setIfInBounds_toArray, List.set_cons_zero, List.set_cons_succ])
                                                          refine wpAnyH_done (by kernel_rfl) ?_ _
                                                          go_wp2_with fail
                                                          go_roundg (s.size - (j + 1))
                                                          case rel => exact ⟨j + 1, O ++ [92, 117, 48, 48, 49, 55], by omega, box rfl, by go_num, hO2.out, hgo, by have h5 := hF12.tail; rw [List.append_assoc] at h5; exact h5⟩
                                                          case measure => have := hkf.out; omega
                                                        · have n23 : ((y.toNat : Int) == 23) = false := u8_ne hy23
                                                          by_cases hy24 : y = 24
                                                          · subst hy24
                                                            replace hgo : Box (out ++ jQuote s.data.toList = O ++ [92, 117, 48, 48, 49, 56] ++ (s.data.toList.drop (j + 1)).flatMap jQc ++ [34]) := hgo
                                                            replace hO2 : Box ((O ++ [92, 117, 48, 48, 49, 56]).length ≤ out.length + 1 + 6 * (j + 1)) := hO2
                                                            go_wp2_with (first | ((with_reducible refine lst (by with_unfolding_all rfl) (wp_fappS T_u8 Tryd.underlying9 hF (i := 0) rfl (Nat.le_refl _) (by with_unfolding_all exact ⟨_, _, rfl, rfl, rfl⟩) (by rw [show (⟨#[92, 117, 48, 48]⟩ : ByteArray).size = 4 from rfl]; omega) ?_)); intro v2 w2 hF2 hz2; simp only [List.set_cons_zero, List.set_cons_succ] at hF2))
                                                            have hFd := hF2.drew
                                                            have hbk : bits BinOp.and IntKind.u8 24 15 = 8 := by rfl
                                                            refine wp_region_held (S := fun _ => True) (by kernel_rfl) ?_
                                                            change wpAnyH _ _ _ _ _ _ _ _ (World.drew _)
                                                            refine tkp 0 trivial ?_
                                                            (try simp only [Act.put, List.setIfInBounds_toArray, List.set_cons_zero, List.set_cons_succ])
                                                            refine tkp 1 trivial ?_
                                                            (try simp only [Act.put, List.setIfInBounds_toArray, List.set_cons_zero, List.set_cons_succ])
                                                            refine tkp 2 trivial ?_
                                                            (try simp only [Act.put, List.setIfInBounds_toArray, List.set_cons_zero, List.set_cons_succ])
                                                            refine tkp 3 trivial ?_
                                                            (try simp only [Act.put, List.setIfInBounds_toArray, List.set_cons_zero, List.set_cons_succ])
                                                            refine tkp 4 trivial ?_
                                                            (try simp only [Act.put, List.setIfInBounds_toArray, List.set_cons_zero, List.set_cons_succ])
                                                            refine tkp 5 trivial ?_
                                                            (try simp only [Act.put, List.setIfInBounds_toArray, List.set_cons_zero, List.set_cons_succ])
                                                            refine tkp 6 trivial ?_
                                                            (try simp only [Act.put, List.setIfInBounds_toArray, List.set_cons_zero, List.set_cons_succ])
                                                            refine rdy1 7 (fun K hK => ?_)
                                                            refine stp (by with_unfolding_all rfl) (wp_fbsl T_u8 hFd (vs := [bv 49, bv 56]) (by with_unfolding_all rfl) (by with_unfolding_all rfl) (by with_unfolding_all rfl) (by decide) (by simp [bv, Value.cells]) ?_)
                                                            intro w11 g11 hF11 hz11
                                                            refine hK.out _ _ (trivial) (fun _ => ?_)
                                                            clear hK K
                                                            (try simp only [Act.put, List.setIfInBounds_toArray, List.set_cons_zero, List.set_cons_succ])
                                                            refine rdy1 8 (fun K hK => ?_)
                                                            refine stp (by with_unfolding_all rfl) (wp_fapp T_u8 hF11 (i := 1) (l := (O ++ [92, 117, 48, 48])) rfl (Nat.le_refl _) (((hF11.rdOwn (i := 0) rfl : Rd _ _ _ 1 2 (([49, 56] : List UInt8).map bv)))) (by with_unfolding_all exact ⟨_, _, rfl, rfl, rfl⟩) (by rw [List.length_append]; simp only [List.length_cons, List.length_nil]; omega) ?_)
                                                            intro v12 w12 hF12 hz12
                                                            (try simp only [List.set_cons_zero, List.set_cons_succ] at hF12)
                                                            refine hK.out _ _ (trivial) (fun _ => ?_)
                                                            clear hK K
                                                            (try simp only [Act.put, List.setIfInBounds_toArray, List.set_cons_zero, List.set_cons_succ])
                                                            refine tkp 9 trivial ?_
                                                            (try simp only [Act.put, List.setIfInBounds_toArray, List.set_cons_zero, List.set_cons_succ])
                                                            refine wpAnyH_done (by kernel_rfl) ?_ _
                                                            go_wp2_with fail
                                                            go_roundg (s.size - (j + 1))
                                                            case rel => exact ⟨j + 1, O ++ [92, 117, 48, 48, 49, 56], by omega, box rfl, by go_num, hO2.out, hgo, by have h5 := hF12.tail; rw [List.append_assoc] at h5; exact h5⟩
                                                            case measure => have := hkf.out; omega
                                                          · have n24 : ((y.toNat : Int) == 24) = false := u8_ne hy24
                                                            by_cases hy25 : y = 25
                                                            · subst hy25
                                                              replace hgo : Box (out ++ jQuote s.data.toList = O ++ [92, 117, 48, 48, 49, 57] ++ (s.data.toList.drop (j + 1)).flatMap jQc ++ [34]) := hgo
                                                              replace hO2 : Box ((O ++ [92, 117, 48, 48, 49, 57]).length ≤ out.length + 1 + 6 * (j + 1)) := hO2
                                                              go_wp2_with (first | ((with_reducible refine lst (by with_unfolding_all rfl) (wp_fappS T_u8 Tryd.underlying9 hF (i := 0) rfl (Nat.le_refl _) (by with_unfolding_all exact ⟨_, _, rfl, rfl, rfl⟩) (by rw [show (⟨#[92, 117, 48, 48]⟩ : ByteArray).size = 4 from rfl]; omega) ?_)); intro v2 w2 hF2 hz2; simp only [List.set_cons_zero, List.set_cons_succ] at hF2))
                                                              have hFd := hF2.drew
                                                              have hbk : bits BinOp.and IntKind.u8 25 15 = 9 := by rfl
                                                              refine wp_region_held (S := fun _ => True) (by kernel_rfl) ?_
                                                              change wpAnyH _ _ _ _ _ _ _ _ (World.drew _)
                                                              refine tkp 0 trivial ?_
                                                              (try simp only [Act.put, List.setIfInBounds_toArray, List.set_cons_zero, List.set_cons_succ])
                                                              refine tkp 1 trivial ?_
                                                              (try simp only [Act.put, List.setIfInBounds_toArray, List.set_cons_zero, List.set_cons_succ])
                                                              refine tkp 2 trivial ?_
                                                              (try simp only [Act.put, List.setIfInBounds_toArray, List.set_cons_zero, List.set_cons_succ])
                                                              refine tkp 3 trivial ?_
                                                              (try simp only [Act.put, List.setIfInBounds_toArray, List.set_cons_zero, List.set_cons_succ])
                                                              refine tkp 4 trivial ?_
                                                              (try simp only [Act.put, List.setIfInBounds_toArray, List.set_cons_zero, List.set_cons_succ])
                                                              refine tkp 5 trivial ?_
                                                              (try simp only [Act.put, List.setIfInBounds_toArray, List.set_cons_zero, List.set_cons_succ])
                                                              refine tkp 6 trivial ?_
                                                              (try simp only [Act.put, List.setIfInBounds_toArray, List.set_cons_zero, List.set_cons_succ])
                                                              refine rdy1 7 (fun K hK => ?_)
                                                              refine stp (by with_unfolding_all rfl) (wp_fbsl T_u8 hFd (vs := [bv 49, bv 57]) (by with_unfolding_all rfl) (by with_unfolding_all rfl) (by with_unfolding_all rfl) (by decide) (by simp [bv, Value.cells]) ?_)
                                                              intro w11 g11 hF11 hz11
                                                              refine hK.out _ _ (trivial) (fun _ => ?_)
                                                              clear hK K
                                                              (try simp only [Act.put, List.setIfInBounds_toArray, List.set_cons_zero, List.set_cons_succ])
                                                              refine rdy1 8 (fun K hK => ?_)
                                                              refine stp (by with_unfolding_all rfl) (wp_fapp T_u8 hF11 (i := 1) (l := (O ++ [92, 117, 48, 48])) rfl (Nat.le_refl _) (((hF11.rdOwn (i := 0) rfl : Rd _ _ _ 1 2 (([49, 57] : List UInt8).map bv)))) (by with_unfolding_all exact ⟨_, _, rfl, rfl, rfl⟩) (by rw [List.length_append]; simp only [List.length_cons, List.length_nil]; omega) ?_)
                                                              intro v12 w12 hF12 hz12
                                                              (try simp only [List.set_cons_zero, List.set_cons_succ] at hF12)
                                                              refine hK.out _ _ (trivial) (fun _ => ?_)
                                                              clear hK K
                                                              (try simp only [Act.put, List.setIfInBounds_toArray, List.set_cons_zero, List.set_cons_succ])
                                                              refine tkp 9 trivial ?_
                                                              (try simp only [Act.put, List.setIfInBounds_toArray, List.set_cons_zero, List.set_cons_succ])
                                                              refine wpAnyH_done (by kernel_rfl) ?_ _
                                                              go_wp2_with fail
                                                              go_roundg (s.size - (j + 1))
                                                              case rel => exact ⟨j + 1, O ++ [92, 117, 48, 48, 49, 57], by omega, box rfl, by go_num, hO2.out, hgo, by have h5 := hF12.tail; rw [List.append_assoc] at h5; exact h5⟩
                                                              case measure => have := hkf.out; omega
                                                            · have n25 : ((y.toNat : Int) == 25) = false := u8_ne hy25
                                                              by_cases hy26 : y = 26
                                                              · subst hy26
                                                                replace hgo : Box (out ++ jQuote s.data.toList = O ++ [92, 117, 48, 48, 49, 97] ++ (s.data.toList.drop (j + 1)).flatMap jQc ++ [34]) := hgo
                                                                replace hO2 : Box ((O ++ [92, 117, 48, 48, 49, 97]).length ≤ out.length + 1 + 6 * (j + 1)) := hO2
                                                                go_wp2_with (first | ((with_reducible refine lst (by with_unfolding_all rfl) (wp_fappS T_u8 Tryd.underlying9 hF (i := 0) rfl (Nat.le_refl _) (by with_unfolding_all exact ⟨_, _, rfl, rfl, rfl⟩) (by rw [show (⟨#[92, 117, 48, 48]⟩ : ByteArray).size = 4 from rfl]; omega) ?_)); intro v2 w2 hF2 hz2; simp only [List.set_cons_zero, List.set_cons_succ] at hF2))
                                                                have hFd := hF2.drew
                                                                have hbk : bits BinOp.and IntKind.u8 26 15 = 10 := by rfl
                                                                refine wp_region_held (S := fun _ => True) (by kernel_rfl) ?_
                                                                change wpAnyH _ _ _ _ _ _ _ _ (World.drew _)
                                                                refine tkp 0 trivial ?_
                                                                (try simp only [Act.put, List.setIfInBounds_toArray, List.set_cons_zero, List.set_cons_succ])
                                                                refine tkp 1 trivial ?_
                                                                (try simp only [Act.put, List.setIfInBounds_toArray, List.set_cons_zero, List.set_cons_succ])
                                                                refine tkp 2 trivial ?_
                                                                (try simp only [Act.put, List.setIfInBounds_toArray, List.set_cons_zero, List.set_cons_succ])
                                                                refine tkp 3 trivial ?_
                                                                (try simp only [Act.put, List.setIfInBounds_toArray, List.set_cons_zero, List.set_cons_succ])
                                                                refine tkp 4 trivial ?_
                                                                (try simp only [Act.put, List.setIfInBounds_toArray, List.set_cons_zero, List.set_cons_succ])
                                                                refine tkp 5 trivial ?_
                                                                (try simp only [Act.put, List.setIfInBounds_toArray, List.set_cons_zero, List.set_cons_succ])
                                                                refine tkp 6 trivial ?_
                                                                (try simp only [Act.put, List.setIfInBounds_toArray, List.set_cons_zero, List.set_cons_succ])
                                                                refine rdy1 7 (fun K hK => ?_)
                                                                refine stp (by with_unfolding_all rfl) (wp_fbsl T_u8 hFd (vs := [bv 49, bv 97]) (by with_unfolding_all rfl) (by with_unfolding_all rfl) (by with_unfolding_all rfl) (by decide) (by simp [bv, Value.cells]) ?_)
                                                                intro w11 g11 hF11 hz11
                                                                refine hK.out _ _ (trivial) (fun _ => ?_)
                                                                clear hK K
                                                                (try simp only [Act.put, List.setIfInBounds_toArray, List.set_cons_zero, List.set_cons_succ])
                                                                refine rdy1 8 (fun K hK => ?_)
                                                                refine stp (by with_unfolding_all rfl) (wp_fapp T_u8 hF11 (i := 1) (l := (O ++ [92, 117, 48, 48])) rfl (Nat.le_refl _) (((hF11.rdOwn (i := 0) rfl : Rd _ _ _ 1 2 (([49, 97] : List UInt8).map bv)))) (by with_unfolding_all exact ⟨_, _, rfl, rfl, rfl⟩) (by rw [List.length_append]; simp only [List.length_cons, List.length_nil]; omega) ?_)
                                                                intro v12 w12 hF12 hz12
                                                                (try simp only [List.set_cons_zero, List.set_cons_succ] at hF12)
                                                                refine hK.out _ _ (trivial) (fun _ => ?_)
                                                                clear hK K
                                                                (try simp only [Act.put, List.setIfInBounds_toArray, List.set_cons_zero, List.set_cons_succ])
                                                                refine tkp 9 trivial ?_
                                                                (try simp only [Act.put, List.setIfInBounds_toArray, List.set_cons_zero, List.set_cons_succ])
                                                                refine wpAnyH_done (by kernel_rfl) ?_ _
                                                                go_wp2_with fail
                                                                go_roundg (s.size - (j + 1))
                                                                case rel => exact ⟨j + 1, O ++ [92, 117, 48, 48, 49, 97], by omega, box rfl, by go_num, hO2.out, hgo, by have h5 := hF12.tail; rw [List.append_assoc] at h5; exact h5⟩
                                                                case measure => have := hkf.out; omega
                                                              · have n26 : ((y.toNat : Int) == 26) = false := u8_ne hy26
                                                                by_cases hy27 : y = 27
                                                                · subst hy27
                                                                  replace hgo : Box (out ++ jQuote s.data.toList = O ++ [92, 117, 48, 48, 49, 98] ++ (s.data.toList.drop (j + 1)).flatMap jQc ++ [34]) := hgo
                                                                  replace hO2 : Box ((O ++ [92, 117, 48, 48, 49, 98]).length ≤ out.length + 1 + 6 * (j + 1)) := hO2
                                                                  go_wp2_with (first | ((with_reducible refine lst (by with_unfolding_all rfl) (wp_fappS T_u8 Tryd.underlying9 hF (i := 0) rfl (Nat.le_refl _) (by with_unfolding_all exact ⟨_, _, rfl, rfl, rfl⟩) (by rw [show (⟨#[92, 117, 48, 48]⟩ : ByteArray).size = 4 from rfl]; omega) ?_)); intro v2 w2 hF2 hz2; simp only [List.set_cons_zero, List.set_cons_succ] at hF2))
                                                                  have hFd := hF2.drew
                                                                  have hbk : bits BinOp.and IntKind.u8 27 15 = 11 := by rfl
                                                                  refine wp_region_held (S := fun _ => True) (by kernel_rfl) ?_
                                                                  change wpAnyH _ _ _ _ _ _ _ _ (World.drew _)
                                                                  refine tkp 0 trivial ?_
                                                                  (try simp only [Act.put, List.setIfInBounds_toArray, List.set_cons_zero, List.set_cons_succ])
                                                                  refine tkp 1 trivial ?_
                                                                  (try simp only [Act.put, List.setIfInBounds_toArray, List.set_cons_zero, List.set_cons_succ])
                                                                  refine tkp 2 trivial ?_
                                                                  (try simp only [Act.put, List.setIfInBounds_toArray, List.set_cons_zero, List.set_cons_succ])
                                                                  refine tkp 3 trivial ?_
                                                                  (try simp only [Act.put, List.setIfInBounds_toArray, List.set_cons_zero, List.set_cons_succ])
                                                                  refine tkp 4 trivial ?_
                                                                  (try simp only [Act.put, List.setIfInBounds_toArray, List.set_cons_zero, List.set_cons_succ])
                                                                  refine tkp 5 trivial ?_
                                                                  (try simp only [Act.put, List.setIfInBounds_toArray, List.set_cons_zero, List.set_cons_succ])
                                                                  refine tkp 6 trivial ?_
                                                                  (try simp only [Act.put, List.setIfInBounds_toArray, List.set_cons_zero, List.set_cons_succ])
                                                                  refine rdy1 7 (fun K hK => ?_)
                                                                  refine stp (by with_unfolding_all rfl) (wp_fbsl T_u8 hFd (vs := [bv 49, bv 98]) (by with_unfolding_all rfl) (by with_unfolding_all rfl) (by with_unfolding_all rfl) (by decide) (by simp [bv, Value.cells]) ?_)
                                                                  intro w11 g11 hF11 hz11
                                                                  refine hK.out _ _ (trivial) (fun _ => ?_)
                                                                  clear hK K
                                                                  (try simp only [Act.put, List.setIfInBounds_toArray, List.set_cons_zero, List.set_cons_succ])
                                                                  refine rdy1 8 (fun K hK => ?_)
                                                                  refine stp (by with_unfolding_all rfl) (wp_fapp T_u8 hF11 (i := 1) (l := (O ++ [92, 117, 48, 48])) rfl (Nat.le_refl _) (((hF11.rdOwn (i := 0) rfl : Rd _ _ _ 1 2 (([49, 98] : List UInt8).map bv)))) (by with_unfolding_all exact ⟨_, _, rfl, rfl, rfl⟩) (by rw [List.length_append]; simp only [List.length_cons, List.length_nil]; omega) ?_)
                                                                  intro v12 w12 hF12 hz12
                                                                  (try simp only [List.set_cons_zero, List.set_cons_succ] at hF12)
                                                                  refine hK.out _ _ (trivial) (fun _ => ?_)
                                                                  clear hK K
                                                                  (try simp only [Act.put, List.setIfInBounds_toArray, List.set_cons_zero, List.set_cons_succ])
                                                                  refine tkp 9 trivial ?_
                                                                  (try simp only [Act.put, List.setIfInBounds_toArray, List.set_cons_zero, List.set_cons_succ])
                                                                  refine wpAnyH_done (by kernel_rfl) ?_ _
                                                                  go_wp2_with fail
                                                                  go_roundg (s.size - (j + 1))
                                                                  case rel => exact ⟨j + 1, O ++ [92, 117, 48, 48, 49, 98], by omega, box rfl, by go_num, hO2.out, hgo, by have h5 := hF12.tail; rw [List.append_assoc] at h5; exact h5⟩
                                                                  case measure => have := hkf.out; omega
                                                                · have n27 : ((y.toNat : Int) == 27) = false := u8_ne hy27
                                                                  by_cases hy28 : y = 28
                                                                  · subst hy28
                                                                    replace hgo : Box (out ++ jQuote s.data.toList = O ++ [92, 117, 48, 48, 49, 99] ++ (s.data.toList.drop (j + 1)).flatMap jQc ++ [34]) := hgo
                                                                    replace hO2 : Box ((O ++ [92, 117, 48, 48, 49, 99]).length ≤ out.length + 1 + 6 * (j + 1)) := hO2
                                                                    go_wp2_with (first | ((with_reducible refine lst (by with_unfolding_all rfl) (wp_fappS T_u8 Tryd.underlying9 hF (i := 0) rfl (Nat.le_refl _) (by with_unfolding_all exact ⟨_, _, rfl, rfl, rfl⟩) (by rw [show (⟨#[92, 117, 48, 48]⟩ : ByteArray).size = 4 from rfl]; omega) ?_)); intro v2 w2 hF2 hz2; simp only [List.set_cons_zero, List.set_cons_succ] at hF2))
                                                                    have hFd := hF2.drew
                                                                    have hbk : bits BinOp.and IntKind.u8 28 15 = 12 := by rfl
                                                                    refine wp_region_held (S := fun _ => True) (by kernel_rfl) ?_
                                                                    change wpAnyH _ _ _ _ _ _ _ _ (World.drew _)
                                                                    refine tkp 0 trivial ?_
                                                                    (try simp only [Act.put, List.setIfInBounds_toArray, List.set_cons_zero, List.set_cons_succ])
                                                                    refine tkp 1 trivial ?_
                                                                    (try simp only [Act.put, List.setIfInBounds_toArray, List.set_cons_zero, List.set_cons_succ])
                                                                    refine tkp 2 trivial ?_
                                                                    (try simp only [Act.put, List.setIfInBounds_toArray, List.set_cons_zero, List.set_cons_succ])
                                                                    refine tkp 3 trivial ?_
                                                                    (try simp only [Act.put, List.setIfInBounds_toArray, List.set_cons_zero, List.set_cons_succ])
                                                                    refine tkp 4 trivial ?_
                                                                    (try simp only [Act.put, List.setIfInBounds_toArray, List.set_cons_zero, List.set_cons_succ])
                                                                    refine tkp 5 trivial ?_
                                                                    (try simp only [Act.put, List.setIfInBounds_toArray, List.set_cons_zero, List.set_cons_succ])
                                                                    refine tkp 6 trivial ?_
                                                                    (try simp only [Act.put, List.setIfInBounds_toArray, List.set_cons_zero, List.set_cons_succ])
                                                                    refine rdy1 7 (fun K hK => ?_)
                                                                    refine stp (by with_unfolding_all rfl) (wp_fbsl T_u8 hFd (vs := [bv 49, bv 99]) (by with_unfolding_all rfl) (by with_unfolding_all rfl) (by with_unfolding_all rfl) (by decide) (by simp [bv, Value.cells]) ?_)
                                                                    intro w11 g11 hF11 hz11
                                                                    refine hK.out _ _ (trivial) (fun _ => ?_)
                                                                    clear hK K
                                                                    (try simp only [Act.put, List.setIfInBounds_toArray, List.set_cons_zero, List.set_cons_succ])
                                                                    refine rdy1 8 (fun K hK => ?_)
                                                                    refine stp (by with_unfolding_all rfl) (wp_fapp T_u8 hF11 (i := 1) (l := (O ++ [92, 117, 48, 48])) rfl (Nat.le_refl _) (((hF11.rdOwn (i := 0) rfl : Rd _ _ _ 1 2 (([49, 99] : List UInt8).map bv)))) (by with_unfolding_all exact ⟨_, _, rfl, rfl, rfl⟩) (by rw [List.length_append]; simp only [List.length_cons, List.length_nil]; omega) ?_)
                                                                    intro v12 w12 hF12 hz12
                                                                    (try simp only [List.set_cons_zero, List.set_cons_succ] at hF12)
                                                                    refine hK.out _ _ (trivial) (fun _ => ?_)
                                                                    clear hK K
                                                                    (try simp only [Act.put, List.setIfInBounds_toArray, List.set_cons_zero, List.set_cons_succ])
                                                                    refine tkp 9 trivial ?_
                                                                    (try simp only [Act.put, List.setIfInBounds_toArray, List.set_cons_zero, List.set_cons_succ])
                                                                    refine wpAnyH_done (by kernel_rfl) ?_ _
                                                                    go_wp2_with fail
                                                                    go_roundg (s.size - (j + 1))
                                                                    case rel => exact ⟨j + 1, O ++ [92, 117, 48, 48, 49, 99], by omega, box rfl, by go_num, hO2.out, hgo, by have h5 := hF12.tail; rw [List.append_assoc] at h5; exact h5⟩
                                                                    case measure => have := hkf.out; omega
                                                                  · have n28 : ((y.toNat : Int) == 28) = false := u8_ne hy28
                                                                    by_cases hy29 : y = 29
                                                                    · subst hy29
                                                                      replace hgo : Box (out ++ jQuote s.data.toList = O ++ [92, 117, 48, 48, 49, 100] ++ (s.data.toList.drop (j + 1)).flatMap jQc ++ [34]) := hgo
                                                                      replace hO2 : Box ((O ++ [92, 117, 48, 48, 49, 100]).length ≤ out.length + 1 + 6 * (j + 1)) := hO2
                                                                      go_wp2_with (first | ((with_reducible refine lst (by with_unfolding_all rfl) (wp_fappS T_u8 Tryd.underlying9 hF (i := 0) rfl (Nat.le_refl _) (by with_unfolding_all exact ⟨_, _, rfl, rfl, rfl⟩) (by rw [show (⟨#[92, 117, 48, 48]⟩ : ByteArray).size = 4 from rfl]; omega) ?_)); intro v2 w2 hF2 hz2; simp only [List.set_cons_zero, List.set_cons_succ] at hF2))
                                                                      have hFd := hF2.drew
                                                                      have hbk : bits BinOp.and IntKind.u8 29 15 = 13 := by rfl
                                                                      refine wp_region_held (S := fun _ => True) (by kernel_rfl) ?_
                                                                      change wpAnyH _ _ _ _ _ _ _ _ (World.drew _)
                                                                      refine tkp 0 trivial ?_
                                                                      (try simp only [Act.put, List.setIfInBounds_toArray, List.set_cons_zero, List.set_cons_succ])
                                                                      refine tkp 1 trivial ?_
                                                                      (try simp only [Act.put, List.setIfInBounds_toArray, List.set_cons_zero, List.set_cons_succ])
                                                                      refine tkp 2 trivial ?_
                                                                      (try simp only [Act.put, List.setIfInBounds_toArray, List.set_cons_zero, List.set_cons_succ])
                                                                      refine tkp 3 trivial ?_
                                                                      (try simp only [Act.put, List.setIfInBounds_toArray, List.set_cons_zero, List.set_cons_succ])
                                                                      refine tkp 4 trivial ?_
                                                                      (try simp only [Act.put, List.setIfInBounds_toArray, List.set_cons_zero, List.set_cons_succ])
                                                                      refine tkp 5 trivial ?_
                                                                      (try simp only [Act.put, List.setIfInBounds_toArray, List.set_cons_zero, List.set_cons_succ])
                                                                      refine tkp 6 trivial ?_
                                                                      (try simp only [Act.put, List.setIfInBounds_toArray, List.set_cons_zero, List.set_cons_succ])
                                                                      refine rdy1 7 (fun K hK => ?_)
                                                                      refine stp (by with_unfolding_all rfl) (wp_fbsl T_u8 hFd (vs := [bv 49, bv 100]) (by with_unfolding_all rfl) (by with_unfolding_all rfl) (by with_unfolding_all rfl) (by decide) (by simp [bv, Value.cells]) ?_)
                                                                      intro w11 g11 hF11 hz11
                                                                      refine hK.out _ _ (trivial) (fun _ => ?_)
                                                                      clear hK K
                                                                      (try simp only [Act.put, List.setIfInBounds_toArray, List.set_cons_zero, List.set_cons_succ])
                                                                      refine rdy1 8 (fun K hK => ?_)
                                                                      refine stp (by with_unfolding_all rfl) (wp_fapp T_u8 hF11 (i := 1) (l := (O ++ [92, 117, 48, 48])) rfl (Nat.le_refl _) (((hF11.rdOwn (i := 0) rfl : Rd _ _ _ 1 2 (([49, 100] : List UInt8).map bv)))) (by with_unfolding_all exact ⟨_, _, rfl, rfl, rfl⟩) (by rw [List.length_append]; simp only [List.length_cons, List.length_nil]; omega) ?_)
                                                                      intro v12 w12 hF12 hz12
                                                                      (try simp only [List.set_cons_zero, List.set_cons_succ] at hF12)
                                                                      refine hK.out _ _ (trivial) (fun _ => ?_)
                                                                      clear hK K
                                                                      (try simp only [Act.put, List.setIfInBounds_toArray, List.set_cons_zero, List.set_cons_succ])
                                                                      refine tkp 9 trivial ?_
                                                                      (try simp only [Act.put, List.setIfInBounds_toArray, List.set_cons_zero, List.set_cons_succ])
                                                                      refine wpAnyH_done (by kernel_rfl) ?_ _
                                                                      go_wp2_with fail
                                                                      go_roundg (s.size - (j + 1))
                                                                      case rel => exact ⟨j + 1, O ++ [92, 117, 48, 48, 49, 100], by omega, box rfl, by go_num, hO2.out, hgo, by have h5 := hF12.tail; rw [List.append_assoc] at h5; exact h5⟩
                                                                      case measure => have := hkf.out; omega
                                                                    · have n29 : ((y.toNat : Int) == 29) = false := u8_ne hy29
                                                                      by_cases hy30 : y = 30
                                                                      · subst hy30
                                                                        replace hgo : Box (out ++ jQuote s.data.toList = O ++ [92, 117, 48, 48, 49, 101] ++ (s.data.toList.drop (j + 1)).flatMap jQc ++ [34]) := hgo
                                                                        replace hO2 : Box ((O ++ [92, 117, 48, 48, 49, 101]).length ≤ out.length + 1 + 6 * (j + 1)) := hO2
                                                                        go_wp2_with (first | ((with_reducible refine lst (by with_unfolding_all rfl) (wp_fappS T_u8 Tryd.underlying9 hF (i := 0) rfl (Nat.le_refl _) (by with_unfolding_all exact ⟨_, _, rfl, rfl, rfl⟩) (by rw [show (⟨#[92, 117, 48, 48]⟩ : ByteArray).size = 4 from rfl]; omega) ?_)); intro v2 w2 hF2 hz2; simp only [List.set_cons_zero, List.set_cons_succ] at hF2))
                                                                        have hFd := hF2.drew
                                                                        have hbk : bits BinOp.and IntKind.u8 30 15 = 14 := by rfl
                                                                        refine wp_region_held (S := fun _ => True) (by kernel_rfl) ?_
                                                                        change wpAnyH _ _ _ _ _ _ _ _ (World.drew _)
                                                                        refine tkp 0 trivial ?_
                                                                        (try simp only [Act.put, List.setIfInBounds_toArray, List.set_cons_zero, List.set_cons_succ])
                                                                        refine tkp 1 trivial ?_
                                                                        (try simp only [Act.put, List.setIfInBounds_toArray, List.set_cons_zero, List.set_cons_succ])
                                                                        refine tkp 2 trivial ?_
                                                                        (try simp only [Act.put, List.setIfInBounds_toArray, List.set_cons_zero, List.set_cons_succ])
                                                                        refine tkp 3 trivial ?_
                                                                        (try simp only [Act.put, List.setIfInBounds_toArray, List.set_cons_zero, List.set_cons_succ])
                                                                        refine tkp 4 trivial ?_
                                                                        (try simp only [Act.put, List.setIfInBounds_toArray, List.set_cons_zero, List.set_cons_succ])
                                                                        refine tkp 5 trivial ?_
                                                                        (try simp only [Act.put, List.setIfInBounds_toArray, List.set_cons_zero, List.set_cons_succ])
                                                                        refine tkp 6 trivial ?_
                                                                        (try simp only [Act.put, List.setIfInBounds_toArray, List.set_cons_zero, List.set_cons_succ])
                                                                        refine rdy1 7 (fun K hK => ?_)
                                                                        refine stp (by with_unfolding_all rfl) (wp_fbsl T_u8 hFd (vs := [bv 49, bv 101]) (by with_unfolding_all rfl) (by with_unfolding_all rfl) (by with_unfolding_all rfl) (by decide) (by simp [bv, Value.cells]) ?_)
                                                                        intro w11 g11 hF11 hz11
                                                                        refine hK.out _ _ (trivial) (fun _ => ?_)
                                                                        clear hK K
                                                                        (try simp only [Act.put, List.setIfInBounds_toArray, List.set_cons_zero, List.set_cons_succ])
                                                                        refine rdy1 8 (fun K hK => ?_)
                                                                        refine stp (by with_unfolding_all rfl) (wp_fapp T_u8 hF11 (i := 1) (l := (O ++ [92, 117, 48, 48])) rfl (Nat.le_refl _) (((hF11.rdOwn (i := 0) rfl : Rd _ _ _ 1 2 (([49, 101] : List UInt8).map bv)))) (by with_unfolding_all exact ⟨_, _, rfl, rfl, rfl⟩) (by rw [List.length_append]; simp only [List.length_cons, List.length_nil]; omega) ?_)
                                                                        intro v12 w12 hF12 hz12
                                                                        (try simp only [List.set_cons_zero, List.set_cons_succ] at hF12)
                                                                        refine hK.out _ _ (trivial) (fun _ => ?_)
                                                                        clear hK K
                                                                        (try simp only [Act.put, List.setIfInBounds_toArray, List.set_cons_zero, List.set_cons_succ])
                                                                        refine tkp 9 trivial ?_
                                                                        (try simp only [Act.put, List.setIfInBounds_toArray, List.set_cons_zero, List.set_cons_succ])
                                                                        refine wpAnyH_done (by kernel_rfl) ?_ _
                                                                        go_wp2_with fail
                                                                        go_roundg (s.size - (j + 1))
                                                                        case rel => exact ⟨j + 1, O ++ [92, 117, 48, 48, 49, 101], by omega, box rfl, by go_num, hO2.out, hgo, by have h5 := hF12.tail; rw [List.append_assoc] at h5; exact h5⟩
                                                                        case measure => have := hkf.out; omega
                                                                      · have n30 : ((y.toNat : Int) == 30) = false := u8_ne hy30
                                                                        by_cases hy31 : y = 31
                                                                        · subst hy31
                                                                          replace hgo : Box (out ++ jQuote s.data.toList = O ++ [92, 117, 48, 48, 49, 102] ++ (s.data.toList.drop (j + 1)).flatMap jQc ++ [34]) := hgo
                                                                          replace hO2 : Box ((O ++ [92, 117, 48, 48, 49, 102]).length ≤ out.length + 1 + 6 * (j + 1)) := hO2
                                                                          go_wp2_with (first | ((with_reducible refine lst (by with_unfolding_all rfl) (wp_fappS T_u8 Tryd.underlying9 hF (i := 0) rfl (Nat.le_refl _) (by with_unfolding_all exact ⟨_, _, rfl, rfl, rfl⟩) (by rw [show (⟨#[92, 117, 48, 48]⟩ : ByteArray).size = 4 from rfl]; omega) ?_)); intro v2 w2 hF2 hz2; simp only [List.set_cons_zero, List.set_cons_succ] at hF2))
                                                                          have hFd := hF2.drew
                                                                          have hbk : bits BinOp.and IntKind.u8 31 15 = 15 := by rfl
                                                                          refine wp_region_held (S := fun _ => True) (by kernel_rfl) ?_
                                                                          change wpAnyH _ _ _ _ _ _ _ _ (World.drew _)
                                                                          refine tkp 0 trivial ?_
                                                                          (try simp only [Act.put, List.setIfInBounds_toArray, List.set_cons_zero, List.set_cons_succ])
                                                                          refine tkp 1 trivial ?_
                                                                          (try simp only [Act.put, List.setIfInBounds_toArray, List.set_cons_zero, List.set_cons_succ])
                                                                          refine tkp 2 trivial ?_
                                                                          (try simp only [Act.put, List.setIfInBounds_toArray, List.set_cons_zero, List.set_cons_succ])
                                                                          refine tkp 3 trivial ?_
                                                                          (try simp only [Act.put, List.setIfInBounds_toArray, List.set_cons_zero, List.set_cons_succ])
                                                                          refine tkp 4 trivial ?_
                                                                          (try simp only [Act.put, List.setIfInBounds_toArray, List.set_cons_zero, List.set_cons_succ])
                                                                          refine tkp 5 trivial ?_
                                                                          (try simp only [Act.put, List.setIfInBounds_toArray, List.set_cons_zero, List.set_cons_succ])
                                                                          refine tkp 6 trivial ?_
                                                                          (try simp only [Act.put, List.setIfInBounds_toArray, List.set_cons_zero, List.set_cons_succ])
                                                                          refine rdy1 7 (fun K hK => ?_)
                                                                          refine stp (by with_unfolding_all rfl) (wp_fbsl T_u8 hFd (vs := [bv 49, bv 102]) (by with_unfolding_all rfl) (by with_unfolding_all rfl) (by with_unfolding_all rfl) (by decide) (by simp [bv, Value.cells]) ?_)
                                                                          intro w11 g11 hF11 hz11
                                                                          refine hK.out _ _ (trivial) (fun _ => ?_)
                                                                          clear hK K
                                                                          (try simp only [Act.put, List.setIfInBounds_toArray, List.set_cons_zero, List.set_cons_succ])
                                                                          refine rdy1 8 (fun K hK => ?_)
                                                                          refine stp (by with_unfolding_all rfl) (wp_fapp T_u8 hF11 (i := 1) (l := (O ++ [92, 117, 48, 48])) rfl (Nat.le_refl _) (((hF11.rdOwn (i := 0) rfl : Rd _ _ _ 1 2 (([49, 102] : List UInt8).map bv)))) (by with_unfolding_all exact ⟨_, _, rfl, rfl, rfl⟩) (by rw [List.length_append]; simp only [List.length_cons, List.length_nil]; omega) ?_)
                                                                          intro v12 w12 hF12 hz12
                                                                          (try simp only [List.set_cons_zero, List.set_cons_succ] at hF12)
                                                                          refine hK.out _ _ (trivial) (fun _ => ?_)
                                                                          clear hK K
                                                                          (try simp only [Act.put, List.setIfInBounds_toArray, List.set_cons_zero, List.set_cons_succ])
                                                                          refine tkp 9 trivial ?_
                                                                          (try simp only [Act.put, List.setIfInBounds_toArray, List.set_cons_zero, List.set_cons_succ])
                                                                          refine wpAnyH_done (by kernel_rfl) ?_ _
                                                                          go_wp2_with fail
                                                                          go_roundg (s.size - (j + 1))
                                                                          case rel => exact ⟨j + 1, O ++ [92, 117, 48, 48, 49, 102], by omega, box rfl, by go_num, hO2.out, hgo, by have h5 := hF12.tail; rw [List.append_assoc] at h5; exact h5⟩
                                                                          case measure => have := hkf.out; omega
                                                                        · have n31 : ((y.toNat : Int) == 31) = false := u8_ne hy31
                                                                          have hge : 32 ≤ y.toNat := by
                                                                            rcases Nat.lt_or_ge y.toNat 32 with h | h
                                                                            · exfalso
                                                                              have m8 : y.toNat ≠ 8 := fun h => hy8 (UInt8.toNat_inj.1 h)
                                                                              have m9 : y.toNat ≠ 9 := fun h => hy9 (UInt8.toNat_inj.1 h)
                                                                              have m10 : y.toNat ≠ 10 := fun h => hy10 (UInt8.toNat_inj.1 h)
                                                                              have m12 : y.toNat ≠ 12 := fun h => hy12 (UInt8.toNat_inj.1 h)
                                                                              have m13 : y.toNat ≠ 13 := fun h => hy13 (UInt8.toNat_inj.1 h)
                                                                              have m0 : y.toNat ≠ 0 := fun h => hy0 (UInt8.toNat_inj.1 h)
                                                                              have m1 : y.toNat ≠ 1 := fun h => hy1 (UInt8.toNat_inj.1 h)
                                                                              have m2 : y.toNat ≠ 2 := fun h => hy2 (UInt8.toNat_inj.1 h)
                                                                              have m3 : y.toNat ≠ 3 := fun h => hy3 (UInt8.toNat_inj.1 h)
                                                                              have m4 : y.toNat ≠ 4 := fun h => hy4 (UInt8.toNat_inj.1 h)
                                                                              have m5 : y.toNat ≠ 5 := fun h => hy5 (UInt8.toNat_inj.1 h)
                                                                              have m6 : y.toNat ≠ 6 := fun h => hy6 (UInt8.toNat_inj.1 h)
                                                                              have m7 : y.toNat ≠ 7 := fun h => hy7 (UInt8.toNat_inj.1 h)
                                                                              have m11 : y.toNat ≠ 11 := fun h => hy11 (UInt8.toNat_inj.1 h)
                                                                              have m14 : y.toNat ≠ 14 := fun h => hy14 (UInt8.toNat_inj.1 h)
                                                                              have m15 : y.toNat ≠ 15 := fun h => hy15 (UInt8.toNat_inj.1 h)
                                                                              have m16 : y.toNat ≠ 16 := fun h => hy16 (UInt8.toNat_inj.1 h)
                                                                              have m17 : y.toNat ≠ 17 := fun h => hy17 (UInt8.toNat_inj.1 h)
                                                                              have m18 : y.toNat ≠ 18 := fun h => hy18 (UInt8.toNat_inj.1 h)
                                                                              have m19 : y.toNat ≠ 19 := fun h => hy19 (UInt8.toNat_inj.1 h)
                                                                              have m20 : y.toNat ≠ 20 := fun h => hy20 (UInt8.toNat_inj.1 h)
                                                                              have m21 : y.toNat ≠ 21 := fun h => hy21 (UInt8.toNat_inj.1 h)
                                                                              have m22 : y.toNat ≠ 22 := fun h => hy22 (UInt8.toNat_inj.1 h)
                                                                              have m23 : y.toNat ≠ 23 := fun h => hy23 (UInt8.toNat_inj.1 h)
                                                                              have m24 : y.toNat ≠ 24 := fun h => hy24 (UInt8.toNat_inj.1 h)
                                                                              have m25 : y.toNat ≠ 25 := fun h => hy25 (UInt8.toNat_inj.1 h)
                                                                              have m26 : y.toNat ≠ 26 := fun h => hy26 (UInt8.toNat_inj.1 h)
                                                                              have m27 : y.toNat ≠ 27 := fun h => hy27 (UInt8.toNat_inj.1 h)
                                                                              have m28 : y.toNat ≠ 28 := fun h => hy28 (UInt8.toNat_inj.1 h)
                                                                              have m29 : y.toNat ≠ 29 := fun h => hy29 (UInt8.toNat_inj.1 h)
                                                                              have m30 : y.toNat ≠ 30 := fun h => hy30 (UInt8.toNat_inj.1 h)
                                                                              have m31 : y.toNat ≠ 31 := fun h => hy31 (UInt8.toNat_inj.1 h)
                                                                              omega
                                                                            · exact h
                                                                          have hqy : jQc y = [y] := by unfold jQc; rw [if_neg (by simp [hy34, hy92]), if_neg hy8, if_neg hy9, if_neg hy10, if_neg hy12, if_neg hy13, if_neg (by omega)]
                                                                          rw [hqy] at hgo hO2
                                                                          have d32 : decide ((y.toNat : Int) < 32) = false := decide_eq_false (by omega)
                                                                          clear hy34 hy92 hy8 hy9 hy10 hy12 hy13 hy0 hy1 hy2 hy3 hy4 hy5 hy6 hy7 hy11 hy14 hy15 hy16 hy17 hy18 hy19 hy20 hy21 hy22 hy23 hy24 hy25 hy26 hy27 hy28 hy29 hy30 hy31 hqy n0 n1 n2 n3 n4 n5 n6 n7 n11 n14 n15 n16 n17 n18 n19 n20 n21 n22 n23 n24 n25 n26 n27 n28 n29 n30 n31
                                                                          replace hge := box hge
                                                                          go_wp2_with (first | ((with_reducible refine lst (by with_unfolding_all rfl) (wp_fbsl T_u8 hF (vs := [bv y]) (by with_unfolding_all rfl) (by with_unfolding_all rfl) (by with_unfolding_all rfl) (by decide) (by simp [bv, Value.cells]) ?_)); intro w1 g1 hF1 hz1; have hr1 : Rd w1 (· < w1.heap.size) (some ⟨g1, 0, none⟩) 1 1 ([y].map bv) := hF1.rdOwn0; replace hF1 : Fr _ _ w1 (Ent.bytes _ 5 (.slice (some ⟨g1, 0, none⟩) 1 1) [y] :: _) := hF1) | ((with_reducible refine lst (by with_unfolding_all rfl) (wp_fapp1 T_u8 hF1 (Nat.le_refl _) hr1 (by with_unfolding_all exact ⟨_, _, rfl, rfl, rfl⟩) (by omega) ?_)); intro v2 w2 hF2 hz2))
                                                                          go_roundg (s.size - (j + 1))
                                                                          case rel => exact ⟨j + 1, O ++ [y], by omega, box rfl, by go_num, hO2.out, hgo, hF2.tail⟩
                                                                          case measure => have := hkf.out; omega
    · have hjs : s.size = j := by omega
      have hend : Box (out ++ jQuote s.data.toList = O ++ [34]) := box (by rw [hQ.out, List.drop_of_length_le (by rw [hsl.out]; omega)]; simp)
      clear hQ hkf
      go_wp2_with (first | ((with_reducible refine lst (by with_unfolding_all rfl) (wp_fbsl T_u8 hF (vs := [bv 34]) (by with_unfolding_all rfl) (by with_unfolding_all rfl) (by with_unfolding_all rfl) (by decide) (by simp [bv, Value.cells]) ?_)); intro w1 g1 hF1 hz1; have hr1 : Rd w1 (· < w1.heap.size) (some ⟨g1, 0, none⟩) 1 1 ([34].map bv) := hF1.rdOwn0; replace hF1 : Fr _ _ w1 (Ent.bytes _ 5 (.slice (some ⟨g1, 0, none⟩) 1 1) [34] :: _) := hF1) | ((with_reducible refine lst (by with_unfolding_all rfl) (wp_fapp1 T_u8 hF1 (Nat.le_refl _) hr1 (by with_unfolding_all exact ⟨_, _, rfl, rfl, rfl⟩) (by omega) ?_)); intro v2 w2 hF2 hz2))
      go_ret
      exact ⟨_, rfl, by rw [hend.out]; exact hF2.tail⟩
end Go.Proofs.YtdekogmegdhjoaaDoor
