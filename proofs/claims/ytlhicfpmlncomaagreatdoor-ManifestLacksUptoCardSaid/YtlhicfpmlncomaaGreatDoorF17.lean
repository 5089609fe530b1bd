/-
 Layer 6: the document's quote, walked.
 Layer 6: the document's lay, walked.
 Layer 6: the document's Count, walked.
-/
import Derived.Test.YtlhicfpmlncomaaGreatDoorF16
import Derived.Test.YtlhicfpmlncomaaGreatDoorF02
import Derived.Test.YtlhicfpmlncomaaGreatDoorF07
import Derived.Test.YtlhicfpmlncomaaGreatDoorF11
import Derived.Test.YtlhicfpmlncomaaGreatDoorF00
set_option linter.unusedSimpArgs false
set_option linter.unusedVariables false
namespace Go.Proofs.YtlhicfpmlncomaaGreatDoor
open Go.RowKit
def qPairs : List (UInt8 × UInt8) := [(34, 34), (92, 92), (8, 98), (12, 102), (10, 110), (13, 114), (9, 116)]
def qSt (y : UInt8) (O : List UInt8) (q : Nat) : List UInt8 × Bool := (qPairs.take q).foldl (fun st p => if y = p.1 then (st.1 ++ [92, p.2], true) else st) (O, false)
theorem qPairs_at : ∀ q, q < 7 → ∃ a b, ([34, 92, 8, 12, 10, 13, 9] : List UInt8)[q]? = some a ∧ ([34, 92, 98, 102, 110, 114, 116] : List UInt8)[q]? = some b ∧ qPairs[q]? = some (a, b) := by
 intro q hq
 match q, hq with
 | 0, _ => exact ⟨_, _, rfl, rfl, rfl⟩
 | 1, _ => exact ⟨_, _, rfl, rfl, rfl⟩
 | 2, _ => exact ⟨_, _, rfl, rfl, rfl⟩
 | 3, _ => exact ⟨_, _, rfl, rfl, rfl⟩
 | 4, _ => exact ⟨_, _, rfl, rfl, rfl⟩
 | 5, _ => exact ⟨_, _, rfl, rfl, rfl⟩
 | 6, _ => exact ⟨_, _, rfl, rfl, rfl⟩
theorem qSt_step {y a b : UInt8} {O : List UInt8} {q : Nat} (h : qPairs[q]? = some (a, b)) : qSt y O (q + 1) = if y = a then ((qSt y O q).1 ++ [92, b], true) else qSt y O q := by
 unfold qSt
 rw [List.take_add_one, h, Option.toList_some, List.foldl_append]
 rfl
theorem qSt_end {y : UInt8} {O : List UInt8} : (qSt y O 7).2 = true ∧ (qSt y O 7).1 = O ++ jQc y ∨ (qSt y O 7).2 = false ∧ (qSt y O 7).1 = O ∧ (y.toNat < 32 ∧ jQc y = [92, 117, 48, 48, jHexD (y.toNat / 16), jHexD (y.toNat % 16)] ∨ ¬ y.toNat < 32 ∧ jQc y = [y]) := by
 unfold qSt qPairs jQc
 simp only [List.take_succ_cons, List.take_zero, List.foldl_cons, List.foldl_nil]
 by_cases h1 : y = 34
 ·subst h1; left; exact ⟨by simp, by simp⟩
 by_cases h2 : y = 92
 ·subst h2; left; exact ⟨by simp, by simp⟩
 by_cases h3 : y = 8
 ·subst h3; left; exact ⟨by simp, by simp⟩
 by_cases h4 : y = 12
 ·subst h4; left; exact ⟨by simp, by simp⟩
 by_cases h5 : y = 10
 ·subst h5; left; exact ⟨by simp, by simp⟩
 by_cases h6 : y = 13
 ·subst h6; left; exact ⟨by simp, by simp⟩
 by_cases h7 : y = 9
 ·subst h7; left; exact ⟨by simp, by simp⟩
 right
 simp only [h1, h2, h3, h4, h5, h6, h7, if_false, or_self, true_and]
 by_cases h : y.toNat < 32
 ·left; exact ⟨h, by rw [if_pos h]⟩
 ·right; exact ⟨h, by rw [if_neg h]⟩
theorem hex_at : ∀ n, n < 16 → ([48, 49, 50, 51, 52, 53, 54, 55, 56, 57, 97, 98, 99, 100, 101, 102] : List UInt8)[n]? = some (jHexD n) := by decide +kernel
theorem u8_div (y : UInt8) : (y.toNat : Int) / 16 = ((y.toNat / 16 : Nat) : Int) := by omega
theorem u8_rem (y : UInt8) : (y.toNat : Int) % 16 = ((y.toNat % 16 : Nat) : Int) := by omega
set_option maxRecDepth 20000 in
set_option maxHeartbeats 12800000 in
theorem rquote_any (X : List Nat) (w0 w : World) (A : Option Addr) (c : Nat) (out : List UInt8) (rest : List Ent) (s : ByteArray) (hroom : out.length + 6 * s.size ≤ 140737488000000)
  (hF : Fr X w0 w (Ent.bytes w0.heap.size 5 (.slice A out.length c) out :: rest)) :
  Calls Tryz.prog 106 #[.slice A out.length c, .string s] w fun e w' => ∃ v, e = .returned v ∧ Fr X w0 w' (Ent.bytes w0.heap.size 5 v (out ++ jQuote s.data.toList) :: rest) := by
 have hsl : s.data.toList.length = s.size := str_len s
 replace hsl := box hsl
 go_enter Tryz.func106, Tryz.ntmps106
 go_wp2_with (first | ((with_reducible refine lsx (wp_fbsl T_u8 hF (vs := [bv 34]) (by with_unfolding_all rfl) (by with_unfolding_all rfl) (by with_unfolding_all rfl) (by decide) (by simp [bv, Value.cells]) ?_)); intro w1 g1 hF1 hz1; have hr1 : Rd w1 (· < w1.heap.size) (some ⟨g1, 0, none⟩) 1 1 ([34].map bv) := hF1.rdOwn0; replace hF1 : Fr _ _ w1 (Ent.bytes _ 5 (.slice (some ⟨g1, 0, none⟩) 1 1) [34] :: _) := hF1) | ((with_reducible refine lsx (wp_fapp1 T_u8 hF1 (Nat.le_refl _) hr1 (by with_unfolding_all exact ⟨_, _, rfl, rfl, rfl⟩) (by omega) ?_)); intro v2 w2 hF2 hz2))
 have hF3 := hF2.tail
 clear hF hF1 hF2
 go_loopg [0, 8] s.size (fun k v i wr => ∃ (j : Nat) (O : List UInt8), j ≤ s.size ∧ Box (k = s.size - j) ∧ i = .int .i64 (j : Int) ∧ O.length ≤ out.length + 1 + 6 * j ∧ Box (out ++ jQuote s.data.toList = O ++ (s.data.toList.drop j).flatMap jQc ++ [34]) ∧ Fr X w0 wr (Ent.bytes w0.heap.size 5 v O :: rest))
 case atStart => exact ⟨0, _, by omega, box rfl, rfl, by simp, box (by simp [jQuote]), hF3⟩
 case round =>
  clear hF3
  obtain ⟨j, O, hj, hk, rfl, hO, hQ, hF⟩ := hrel
  have hkf : Box (gk = s.size - j) := hk
  clear hk
  by_cases hlt : j < s.size
  ·obtain ⟨y, hy'⟩ : ∃ y, s.data.toList[j]? = some y := ⟨s.data.toList[j]'(by rw [hsl.out]; exact hlt), by simp⟩
   have hdr : s.data.toList.drop j = y :: s.data.toList.drop (j + 1) := by
    rw [List.drop_eq_getElem_cons (by rw [hsl.out]; exact hlt), (List.getElem?_eq_some_iff.1 hy').2]
   have hgo : Box (out ++ jQuote s.data.toList = O ++ jQc y ++ (s.data.toList.drop (j + 1)).flatMap jQc ++ [34]) := box (by rw [hQ.out, hdr, List.flatMap_cons]; simp)
   have hql := jQc_len y
   have hO2 : Box ((O ++ jQc y).length ≤ out.length + 1 + 6 * (j + 1)) := box (by rw [List.length_append]; omega)
   have hyb := y.toNat_lt
   replace hql := box hql
   have hy := box hy'
   clear hy' hdr hQ
   go_wp2_with fail
   go_loopg [0, 9, 10] 7 (fun gq v d k wr => ∃ (q : Nat) (U : List UInt8) (b : Bool), q ≤ 7 ∧ Box (gq = 7 - q) ∧ k = .int .i64 (q : Int) ∧ d = .bool b ∧ Box (qSt y O q = (U, b)) ∧ U.length ≤ O.length + 2 * q ∧ Fr X w0 wr (Ent.bytes w0.heap.size 5 v U :: rest))
   case atStart => exact ⟨0, O, false, by omega, box rfl, rfl, rfl, box rfl, by omega, hF⟩
   case round =>
    clear hF
    obtain ⟨q, U, d, hq, hk, rfl, rfl, hS, hUl, hF⟩ := hrel
    have hkq : Box (_ = 7 - q) := hk
    clear hk
    obtain ⟨Ao, co, rfl, hco, hro⟩ := (hF.own (i := 0) rfl).arg
    by_cases hq7 : q < 7
    ·obtain ⟨a, b, ha', hb', hp⟩ := qPairs_at q hq7
     have hst' := qSt_step (y := y) (O := O) hp
     rw [hS.out] at hst'
     have ha := box ha'
     have hb := box hb'
     clear ha' hb' hp
     by_cases hya : y = a
     ·subst hya
      rw [if_pos rfl] at hst'
      have hst := box hst'
      clear hst'
      go_upto_region 12 with fail
      have hFd := hF.drew
      refine wp_region_held (S := fun _ => True) (by kernel_rfl) ?_
      change wpAnyH _ _ _ _ _ _ _ _ (World.drew _)
      refine tkp 0 trivial ?_
      (try simp only [zP, zQ, zS, zZ, zN])
      refine tkp 1 trivial ?_
      (try simp only [zP, zQ, zS, zZ, zN])
      refine tky 2 (y := yi_sidx (by with_unfolding_all rfl) uq9 rfl hy.out (by with_unfolding_all exact ⟨_, _, _, rfl, rfl, rfl⟩)) (s := trivial) (h := ?_)
      (try simp only [zP, zQ, zS, zZ, zN])
      refine tkp 3 trivial ?_
      (try simp only [zP, zQ, zS, zZ, zN])
      refine tkp 4 trivial ?_
      (try simp only [zP, zQ, zS, zZ, zN])
      refine tky 5 (y := yi_sidx (by with_unfolding_all rfl) uq9 rfl ha.out (by with_unfolding_all exact ⟨_, _, _, rfl, rfl, rfl⟩)) (s := trivial) (h := ?_)
      (try simp only [zP, zQ, zS, zZ, zN])
      refine tkp 6 trivial ?_
      (try simp only [zP, zQ, zS, zZ, zN])
      refine wpAnyH_done (by kernel_rfl) ?_ _
      go_wp2_with (first | ((with_reducible refine lsx (wp_fbsl T_u8 hFd (vs := [bv 92]) (by with_unfolding_all rfl) (by with_unfolding_all rfl) (by with_unfolding_all rfl) (by decide) (by simp [bv, Value.cells]) ?_)); intro w2 g2 hF2 hz2; have hr2 : Rd w2 (· < w2.heap.size) (some ⟨g2, 0, none⟩) 1 1 ([92].map bv) := hF2.rdOwn0; replace hF2 : Fr _ _ w2 (Ent.bytes _ 5 (.slice (some ⟨g2, 0, none⟩) 1 1) [92] :: _) := hF2) | ((with_reducible refine lsx (wp_fapp1 T_u8 hF2 (Nat.le_refl _) hr2 (by with_unfolding_all exact ⟨_, _, rfl, rfl, rfl⟩) (by omega) ?_)); intro v3 w3 hF3 hz3) | ((with_reducible refine lsx (wp_sidx uq9 (k := q) rfl hb.out (by with_unfolding_all exact ⟨_, _, _, rfl, rfl, rfl⟩) ?_))) | ((with_reducible refine lsx (wp_fbsl T_u8 hF3 (vs := [bv b]) (by with_unfolding_all rfl) (by with_unfolding_all rfl) (by with_unfolding_all rfl) (by decide) (by simp [bv, Value.cells]) ?_)); intro w4 g4 hF4 hz4; have hr4 : Rd w4 (· < w4.heap.size) (some ⟨g4, 0, none⟩) 1 1 ([b].map bv) := hF4.rdOwn0; replace hF4 : Fr _ _ w4 (Ent.bytes _ 5 (.slice (some ⟨g4, 0, none⟩) 1 1) [b] :: _) := hF4) | ((with_reducible refine lsx (wp_fapp2 T_u8 hF4 (Nat.le_refl _) hr4 (by with_unfolding_all exact ⟨_, _, rfl, rfl, rfl⟩) (by simp; omega) ?_)); intro v5 w5 hF5 hz5))
      go_roundg (7 - (q + 1))
      case rel => exact ⟨q + 1, U ++ [92] ++ [b], true, by omega, box rfl, by go_num, rfl, box (by rw [hst.out, List.append_assoc]; rfl), by simp only [List.length_append, List.length_cons, List.length_nil]; omega, hF5.tail.tail⟩
      case measure => have := hkq.out; omega
     ·rw [if_neg hya] at hst'
      have hst := box hst'
      have hne : ((y.toNat : Int) == (a.toNat : Int)) = false := u8_ne hya
      clear hst'
      replace hya := box hya
      go_upto_region 12 with fail
      have hFd := hF.drew
      refine wp_region_held (S := fun _ => True) (by kernel_rfl) ?_
      change wpAnyH _ _ _ _ _ _ _ _ (World.drew _)
      refine tkp 0 trivial ?_
      (try simp only [zP, zQ, zS, zZ, zN])
      refine tkp 1 trivial ?_
      (try simp only [zP, zQ, zS, zZ, zN])
      refine tky 2 (y := yi_sidx (by with_unfolding_all rfl) uq9 rfl hy.out (by with_unfolding_all exact ⟨_, _, _, rfl, rfl, rfl⟩)) (s := trivial) (h := ?_)
      (try simp only [zP, zQ, zS, zZ, zN])
      refine tkp 3 trivial ?_
      (try simp only [zP, zQ, zS, zZ, zN])
      refine tkp 4 trivial ?_
      (try simp only [zP, zQ, zS, zZ, zN])
      refine tky 5 (y := yi_sidx (by with_unfolding_all rfl) uq9 rfl ha.out (by with_unfolding_all exact ⟨_, _, _, rfl, rfl, rfl⟩)) (s := trivial) (h := ?_)
      (try simp only [zP, zQ, zS, zZ, zN])
      refine tkp 6 trivial ?_
      (try simp only [zP, zQ, zS, zZ, zN])
      refine wpAnyH_done (by kernel_rfl) ?_ _
      go_wp2_with fail
      go_roundg (7 - (q + 1))
      case rel => exact ⟨q + 1, U, d, by omega, box rfl, by go_num, rfl, hst, by omega, hFd⟩
      case measure => have := hkq.out; omega
    ·obtain rfl : q = 7 := by omega
     have hE := @qSt_end y O
     rw [hS.out] at hE
     simp only [] at hE
     clear hq7 hq
     rcases hE with ⟨hd, hU⟩ | ⟨hd, hU, hc⟩
     ·subst hd
      replace hU := box hU
      go_wp2_with fail
      go_roundg (s.size - (j + 1))
      case rel => exact ⟨j + 1, U, by omega, box rfl, by go_num, by rw [hU.out]; exact hO2.out, box (by rw [hU.out]; exact hgo.out), hF⟩
      case measure => have := hkf.out; omega
     ·subst hd
      subst hU
      rcases hc with ⟨h32, hc⟩ | ⟨h32, hc⟩
      ·rw [hc] at hgo hO2
       have d32 : decide ((y.toNat : Int) < 32) = true := decide_eq_true (by omega)
       have hx1 := box (hex_at (y.toNat / 16) (by omega))
       have hx2 := box (hex_at (y.toNat % 16) (by omega))
       obtain ⟨p, hp⟩ : ∃ p, p = jHexD (y.toNat / 16) := ⟨_, rfl⟩
       obtain ⟨r, hr⟩ : ∃ r, r = jHexD (y.toNat % 16) := ⟨_, rfl⟩
       rw [← hp] at hgo hO2 hx1
       rw [← hr] at hgo hO2 hx2
       have hj1 := box (u8_div y)
       have hj2 := box (u8_rem y)
       clear hp hr hc
       replace h32 := box h32
       go_wp2_with (first | ((with_reducible refine lsx (wp_sidx uq9 (k := j) rfl hy.out (by with_unfolding_all exact ⟨_, _, _, rfl, rfl, rfl⟩) ?_))) | ((with_reducible refine lsx (wp_fbsl T_u8 hF (vs := [bv 92, bv 117, bv 48, bv 48]) (by with_unfolding_all rfl) (by with_unfolding_all rfl) (by with_unfolding_all rfl) (by decide) (by simp [bv, Value.cells]) ?_)); intro w2 g2 hF2 hz2; have hr2 : Rd w2 (· < w2.heap.size) (some ⟨g2, 0, none⟩) 1 4 (([92,117,48,48] : List UInt8).map bv) := hF2.rdOwn (i := 0) rfl) | ((with_reducible refine lsx (wp_fmark T_u8 uq5 hF2 (by with_unfolding_all exact ⟨_, rfl, rfl⟩) ?_)); intro w3 hF3 hz3) | ((with_reducible refine lsx (wp_fapp1 T_u8 hF3 (Nat.le_refl _) (hF3.rd (i := 0) rfl : Rd _ _ _ 1 4 (([92,117,48,48] : List UInt8).map bv)) (by with_unfolding_all exact ⟨_, _, rfl, rfl, rfl⟩) (by simp; omega) ?_)); intro v4 w4 hF4 hz4) | ((with_reducible refine lsx (wp_sidx uq9 (k := y.toNat / 16) (by first | exact hj1.out | exact hj2.out | omega) hx1.out (by with_unfolding_all exact ⟨_, _, _, rfl, rfl, rfl⟩) ?_))) | ((with_reducible refine lsx (wp_sidx uq9 (k := y.toNat % 16) (by first | exact hj2.out | omega) hx2.out (by with_unfolding_all exact ⟨_, _, _, rfl, rfl, rfl⟩) ?_))) | ((with_reducible refine lsx (wp_fbsl T_u8 hF4 (vs := [bv p]) (by with_unfolding_all rfl) (by with_unfolding_all rfl) (by with_unfolding_all rfl) (by decide) (by simp [bv, Value.cells]) ?_)); intro w5 g5 hF5 hz5; have hr5 : Rd w5 (· < w5.heap.size) (some ⟨g5, 0, none⟩) 1 1 ([p].map bv) := hF5.rdOwn0; replace hF5 : Fr _ _ w5 (Ent.bytes _ 5 (.slice (some ⟨g5, 0, none⟩) 1 1) [p] :: _) := hF5) | ((with_reducible refine lsx (wp_fapp2 T_u8 hF5 (Nat.le_refl _) hr5 (by with_unfolding_all exact ⟨_, _, rfl, rfl, rfl⟩) (by simp; omega) ?_)); intro v6 w6 hF6 hz6) | ((with_reducible refine lsx (wp_fbsl T_u8 hF6 (vs := [bv r]) (by with_unfolding_all rfl) (by with_unfolding_all rfl) (by with_unfolding_all rfl) (by decide) (by simp [bv, Value.cells]) ?_)); intro w7 g7 hF7 hz7; have hr7 : Rd w7 (· < w7.heap.size) (some ⟨g7, 0, none⟩) 1 1 ([r].map bv) := hF7.rdOwn0; replace hF7 : Fr _ _ w7 (Ent.bytes _ 5 (.slice (some ⟨g7, 0, none⟩) 1 1) [r] :: _) := hF7) | ((with_reducible refine lsx (wp_fapp3 T_u8 hF7 (Nat.le_refl _) hr7 (by with_unfolding_all exact ⟨_, _, rfl, rfl, rfl⟩) (by simp; omega) ?_)); intro v8 w8 hF8 hz8))
       go_roundg (s.size - (j + 1))
       case rel => exact ⟨j + 1, U ++ [92, 117, 48, 48, p, r], by omega, box rfl, by go_num, hO2.out, hgo, by have h5 := hF8.tail.tail.tail; simp only [List.append_assoc, List.cons_append, List.nil_append] at h5; exact h5⟩
       case measure => have := hkf.out; omega
      ·rw [hc] at hgo hO2
       have d32 : decide ((y.toNat : Int) < 32) = false := decide_eq_false (by omega)
       replace h32 := box h32
       clear hc
       go_wp2_with (first | ((with_reducible refine lsx (wp_sidx uq9 (k := j) rfl hy.out (by with_unfolding_all exact ⟨_, _, _, rfl, rfl, rfl⟩) ?_))) | ((with_reducible refine lsx (wp_fbsl T_u8 hF (vs := [bv y]) (by with_unfolding_all rfl) (by with_unfolding_all rfl) (by with_unfolding_all rfl) (by decide) (by simp [bv, Value.cells]) ?_)); intro w2 g2 hF2 hz2; have hr2 : Rd w2 (· < w2.heap.size) (some ⟨g2, 0, none⟩) 1 1 ([y].map bv) := hF2.rdOwn0; replace hF2 : Fr _ _ w2 (Ent.bytes _ 5 (.slice (some ⟨g2, 0, none⟩) 1 1) [y] :: _) := hF2) | ((with_reducible refine lsx (wp_fapp1 T_u8 hF2 (Nat.le_refl _) hr2 (by with_unfolding_all exact ⟨_, _, rfl, rfl, rfl⟩) (by omega) ?_)); intro v3 w3 hF3 hz3))
       go_roundg (s.size - (j + 1))
       case rel => exact ⟨j + 1, U ++ [y], by omega, box rfl, by go_num, hO2.out, hgo, hF3.tail⟩
       case measure => have := hkf.out; omega
  ·have hjs : s.size = j := by omega
   have hend : Box (out ++ jQuote s.data.toList = O ++ [34]) := box (by rw [hQ.out, List.drop_of_length_le (by rw [hsl.out]; omega)]; simp)
   obtain ⟨Ao, co, rfl, hco, hro⟩ := (hF.own (i := 0) rfl).arg
   clear hQ hkf
   go_wp2_with (first | ((with_reducible refine lsx (wp_fbsl T_u8 hF (vs := [bv 34]) (by with_unfolding_all rfl) (by with_unfolding_all rfl) (by with_unfolding_all rfl) (by decide) (by simp [bv, Value.cells]) ?_)); intro w1 g1 hF1 hz1; have hr1 : Rd w1 (· < w1.heap.size) (some ⟨g1, 0, none⟩) 1 1 ([34].map bv) := hF1.rdOwn0; replace hF1 : Fr _ _ w1 (Ent.bytes _ 5 (.slice (some ⟨g1, 0, none⟩) 1 1) [34] :: _) := hF1) | ((with_reducible refine lsx (wp_fapp1 T_u8 hF1 (Nat.le_refl _) hr1 (by with_unfolding_all exact ⟨_, _, rfl, rfl, rfl⟩) (by omega) ?_)); intro v2 w2 hF2 hz2))
   go_ret
   exact ⟨_, rfl, by rw [hend.out]; exact hF2.tail⟩
end Go.Proofs.YtlhicfpmlncomaaGreatDoor

namespace Go.Proofs.YtlhicfpmlncomaaGreatDoor
open Go.RowKit
mutual
def JOk2 : JV → Prop
 | .mk k n _ ns ks => (k = 0 ∨ k = 1 ∨ k = 2 ∨ (k = 3 ∧ -9007199254740991 ≤ n ∧ n ≤ 9007199254740991) ∨ k = 4) ∨ (k = 5 ∧ JOk2L ks) ∨ (k = 6 ∧ ns.length = ks.length ∧ JOk2L ks)
def JOk2L : List JV → Prop
 | [] => True
 | v :: vs => JOk2 v ∧ JOk2L vs
end
theorem JOk2L.at : ∀ {ks : List JV} {i : Nat} {v : JV}, JOk2L ks → ks[i]? = some v → JOk2 v
 | [], _, _, _, hv => by cases hv
 | k :: ks, i, v, h, hv => by
  rw [JOk2L] at h
  cases i with
  | zero => injection hv with hv; subst hv; exact h.1
  | succ i => exact JOk2L.at h.2 (by simpa using hv)
set_option maxRecDepth 20000 in
set_option maxHeartbeats 12800000 in
theorem rlay_leaf (w0 w : World) (k n : Int) (t : List UInt8) (ns : List (List UInt8)) (ks : List JV) (An : Option Addr) (nn cn : Nat) (Ak : Option Addr) (nk ck : Nat) (A : Option Addr) (c : Nat) (out : List UInt8) (rest : List Ent) (hk4 : k = 0 ∨ k = 1 ∨ k = 2 ∨ (k = 3 ∧ -9007199254740991 ≤ n ∧ n ≤ 9007199254740991) ∨ k = 4)
  (hroom : out.length + 6 * (jFull (.mk k n t ns ks)).length ≤ 140737480000000) (hF : Fr [] w0 w (Ent.bytes w0.heap.size 5 (.slice A out.length c) out :: rest)) :
  Calls Tryz.prog 75 #[.slice A out.length c, .agg (vlL k n ⟨t.toArray⟩ (.slice An nn cn) (.slice Ak nk ck)).toArray] w (WrPost w0 rest (out ++ jFull (.mk k n t ns ks))) := by
  rcases hk4 with hk | hk | hk | ⟨hk, hn0, hn1⟩ | hk
  ·subst hk
   have hfu : Box (jFull (.mk 0 n t ns ks) = [110, 117, 108, 108]) := box (by rw [jFull]; rfl)
   rw [hfu.out] at hroom
   have hwd : Box (([.string ⟨#[110, 117, 108, 108]⟩, .string ⟨#[102, 97, 108, 115, 101]⟩, .string ⟨#[116, 114, 117, 101]⟩] : List Value)[0]? = some (.string ⟨#[110, 117, 108, 108]⟩)) := box rfl
   go_enter Tryz.func75, Tryz.ntmps75
   go_wp2_with (first | ((with_reducible refine lsx (wp_fbox hF (cs := (vlL 0 n ⟨t.toArray⟩ (.slice An nn cn) (.slice Ak nk ck))) rfl (by with_unfolding_all rfl) (by with_unfolding_all rfl) ?_)); intro w1 g1 hF1 hz1) | ((with_reducible refine lsx (wp_fbsl T_strs hF1 (vs := [.string ⟨#[110, 117, 108, 108]⟩, .string ⟨#[102, 97, 108, 115, 101]⟩, .string ⟨#[116, 114, 117, 101]⟩]) (by with_unfolding_all rfl) (by with_unfolding_all rfl) (by with_unfolding_all rfl) (by decide) (by simp [Value.cells]) ?_)); intro w2 g2 hF2 hz2) | (with_reducible refine lsx (wp_fld1 hF2 uq3 rfl (by with_unfolding_all exact ⟨_, rfl, rfl⟩) rfl ?_)) | (with_reducible refine lsx (wp_indexAddr T_strs (hF2.rdOwn (i := 0) rfl) (by with_unfolding_all exact ⟨_, _, _, _, rfl, rfl, rfl⟩) (by omega) (by omega) ?_)) | (with_reducible refine lsx (wp_load1C (hF2.rdOwn (i := 0) rfl) hwd uq9 rfl (by with_unfolding_all exact ⟨_, rfl, rfl⟩) (by first | (simp; done) | (simp; omega) | omega) ?_)) | ((with_reducible refine lsx (wp_fs2b T_u8 uq5 uq9 hF2 (by with_unfolding_all exact ⟨_, rfl, rfl⟩) ?_)); intro w3 g3 c3 hF3 hz3 hc3) | ((with_reducible refine lsx (wp_fapp3 T_u8 hF3 (Nat.le_refl _) (hF3.rd (i := 0) rfl : Rd _ _ _ 1 4 (([110, 117, 108, 108] : List UInt8).map bv)) (by with_unfolding_all exact ⟨_, _, rfl, rfl, rfl⟩) (by simp at hroom; omega) ?_)); intro v4 w4 hF4 hz4))
   go_ret
   refine ⟨_, _, rfl, box ⟨Nat.le_refl _, .inl rfl⟩, ?_⟩
   rw [hfu.out]
   exact hF4.tail.tail.tail
  ·subst hk
   have hfu : Box (jFull (.mk 1 n t ns ks) = [102, 97, 108, 115, 101]) := box (by rw [jFull]; rfl)
   rw [hfu.out] at hroom
   have hwd : Box (([.string ⟨#[110, 117, 108, 108]⟩, .string ⟨#[102, 97, 108, 115, 101]⟩, .string ⟨#[116, 114, 117, 101]⟩] : List Value)[1]? = some (.string ⟨#[102, 97, 108, 115, 101]⟩)) := box rfl
   go_enter Tryz.func75, Tryz.ntmps75
   go_wp2_with (first | ((with_reducible refine lsx (wp_fbox hF (cs := (vlL 1 n ⟨t.toArray⟩ (.slice An nn cn) (.slice Ak nk ck))) rfl (by with_unfolding_all rfl) (by with_unfolding_all rfl) ?_)); intro w1 g1 hF1 hz1) | ((with_reducible refine lsx (wp_fbsl T_strs hF1 (vs := [.string ⟨#[110, 117, 108, 108]⟩, .string ⟨#[102, 97, 108, 115, 101]⟩, .string ⟨#[116, 114, 117, 101]⟩]) (by with_unfolding_all rfl) (by with_unfolding_all rfl) (by with_unfolding_all rfl) (by decide) (by simp [Value.cells]) ?_)); intro w2 g2 hF2 hz2) | (with_reducible refine lsx (wp_fld1 hF2 uq3 rfl (by with_unfolding_all exact ⟨_, rfl, rfl⟩) rfl ?_)) | (with_reducible refine lsx (wp_indexAddr T_strs (hF2.rdOwn (i := 0) rfl) (by with_unfolding_all exact ⟨_, _, _, _, rfl, rfl, rfl⟩) (by omega) (by omega) ?_)) | (with_reducible refine lsx (wp_load1C (hF2.rdOwn (i := 0) rfl) hwd uq9 rfl (by with_unfolding_all exact ⟨_, rfl, rfl⟩) (by first | (simp; done) | (simp; omega) | omega) ?_)) | ((with_reducible refine lsx (wp_fs2b T_u8 uq5 uq9 hF2 (by with_unfolding_all exact ⟨_, rfl, rfl⟩) ?_)); intro w3 g3 c3 hF3 hz3 hc3) | ((with_reducible refine lsx (wp_fapp3 T_u8 hF3 (Nat.le_refl _) (hF3.rd (i := 0) rfl : Rd _ _ _ 1 5 (([102, 97, 108, 115, 101] : List UInt8).map bv)) (by with_unfolding_all exact ⟨_, _, rfl, rfl, rfl⟩) (by simp at hroom; omega) ?_)); intro v4 w4 hF4 hz4))
   go_ret
   refine ⟨_, _, rfl, box ⟨Nat.le_refl _, .inl rfl⟩, ?_⟩
   rw [hfu.out]
   exact hF4.tail.tail.tail
  ·subst hk
   have hfu : Box (jFull (.mk 2 n t ns ks) = [116, 114, 117, 101]) := box (by rw [jFull]; rfl)
   rw [hfu.out] at hroom
   have hwd : Box (([.string ⟨#[110, 117, 108, 108]⟩, .string ⟨#[102, 97, 108, 115, 101]⟩, .string ⟨#[116, 114, 117, 101]⟩] : List Value)[2]? = some (.string ⟨#[116, 114, 117, 101]⟩)) := box rfl
   go_enter Tryz.func75, Tryz.ntmps75
   go_wp2_with (first | ((with_reducible refine lsx (wp_fbox hF (cs := (vlL 2 n ⟨t.toArray⟩ (.slice An nn cn) (.slice Ak nk ck))) rfl (by with_unfolding_all rfl) (by with_unfolding_all rfl) ?_)); intro w1 g1 hF1 hz1) | ((with_reducible refine lsx (wp_fbsl T_strs hF1 (vs := [.string ⟨#[110, 117, 108, 108]⟩, .string ⟨#[102, 97, 108, 115, 101]⟩, .string ⟨#[116, 114, 117, 101]⟩]) (by with_unfolding_all rfl) (by with_unfolding_all rfl) (by with_unfolding_all rfl) (by decide) (by simp [Value.cells]) ?_)); intro w2 g2 hF2 hz2) | (with_reducible refine lsx (wp_fld1 hF2 uq3 rfl (by with_unfolding_all exact ⟨_, rfl, rfl⟩) rfl ?_)) | (with_reducible refine lsx (wp_indexAddr T_strs (hF2.rdOwn (i := 0) rfl) (by with_unfolding_all exact ⟨_, _, _, _, rfl, rfl, rfl⟩) (by omega) (by omega) ?_)) | (with_reducible refine lsx (wp_load1C (hF2.rdOwn (i := 0) rfl) hwd uq9 rfl (by with_unfolding_all exact ⟨_, rfl, rfl⟩) (by first | (simp; done) | (simp; omega) | omega) ?_)) | ((with_reducible refine lsx (wp_fs2b T_u8 uq5 uq9 hF2 (by with_unfolding_all exact ⟨_, rfl, rfl⟩) ?_)); intro w3 g3 c3 hF3 hz3 hc3) | ((with_reducible refine lsx (wp_fapp3 T_u8 hF3 (Nat.le_refl _) (hF3.rd (i := 0) rfl : Rd _ _ _ 1 4 (([116, 114, 117, 101] : List UInt8).map bv)) (by with_unfolding_all exact ⟨_, _, rfl, rfl, rfl⟩) (by simp at hroom; omega) ?_)); intro v4 w4 hF4 hz4))
   go_ret
   refine ⟨_, _, rfl, box ⟨Nat.le_refl _, .inl rfl⟩, ?_⟩
   rw [hfu.out]
   exact hF4.tail.tail.tail
  ·subst hk
   have hfu : Box (jFull (.mk 3 n t ns ks) = Lib.itoa n) := box (by rw [jFull]; rfl)
   rw [hfu.out] at hroom
   have hil := itoa_len (n := n) (by omega) (by omega)
   have hde := box (fun w' => rdec_any n w' hn0 hn1)
   replace hn0 := box hn0
   replace hn1 := box hn1
   go_enter Tryz.func75, Tryz.ntmps75
   go_wp2_with (first | ((with_reducible refine lsx (wp_fbox hF (cs := (vlL 3 n ⟨t.toArray⟩ (.slice An nn cn) (.slice Ak nk ck))) rfl (by with_unfolding_all rfl) (by with_unfolding_all rfl) ?_)); intro w1 g1 hF1 hz1) | ((with_reducible refine lsx (wp_fbsl T_strs hF1 (vs := [.string ⟨#[110, 117, 108, 108]⟩, .string ⟨#[102, 97, 108, 115, 101]⟩, .string ⟨#[116, 114, 117, 101]⟩]) (by with_unfolding_all rfl) (by with_unfolding_all rfl) (by with_unfolding_all rfl) (by decide) (by simp [Value.cells]) ?_)); intro w2 g2 hF2 hz2) | (with_reducible refine lsx (wp_fld1 hF2 uq3 rfl (by with_unfolding_all exact ⟨_, rfl, rfl⟩) rfl ?_)))
   refine (hde.out _).mono ?_
   rintro e w3 ⟨rfl, hb3⟩
   have hF3 := hF2.call hb3
   obtain ⟨I, hI⟩ : ∃ I, I = Lib.itoa n := ⟨_, rfl⟩
   rw [← hI] at hil hfu hroom
   rw [← hI]
   replace hI := box hI
   go_wp2_with (first | ((with_reducible refine lsx (wp_fs2b T_u8 uq5 uq9 hF3 (by with_unfolding_all exact ⟨_, rfl, rfl⟩) ?_)); intro w4 g4 c4 hF4 hz4 hc4) | ((with_reducible refine lsx (wp_fapp3 T_u8 hF4 (Nat.le_refl _) (by have h := hF4.rd (i := 0) rfl; rw [str_mk_size] at h; exact (h : Rd _ _ _ 1 I.length (I.map bv))) (by with_unfolding_all exact ⟨_, _, rfl, rfl, rfl⟩) (by omega) ?_)); intro v5 w5 hF5 hz5))
   go_ret
   refine ⟨_, _, rfl, box ⟨Nat.le_refl _, .inl rfl⟩, ?_⟩
   rw [hfu.out]
   exact hF5.tail.tail.tail
  ·subst hk
   have hfu : Box (jFull (.mk 4 n t ns ks) = jQuote t) := box (by rw [jFull]; rfl)
   rw [hfu.out] at hroom
   have hqg := jQuote_ge t
   go_enter Tryz.func75, Tryz.ntmps75
   go_wp2_with (first | ((with_reducible refine lsx (wp_fbox hF (cs := (vlL 4 n ⟨t.toArray⟩ (.slice An nn cn) (.slice Ak nk ck))) rfl (by with_unfolding_all rfl) (by with_unfolding_all rfl) ?_)); intro w1 g1 hF1 hz1) | ((with_reducible refine lsx (wp_fbsl T_strs hF1 (vs := [.string ⟨#[110, 117, 108, 108]⟩, .string ⟨#[102, 97, 108, 115, 101]⟩, .string ⟨#[116, 114, 117, 101]⟩]) (by with_unfolding_all rfl) (by with_unfolding_all rfl) (by with_unfolding_all rfl) (by decide) (by simp [Value.cells]) ?_)); intro w2 g2 hF2 hz2) | (with_reducible refine lsx (wp_fld1 hF2 uq3 rfl (by with_unfolding_all exact ⟨_, rfl, rfl⟩) rfl ?_)) | (with_reducible refine lsx (wp_fld1 hF2 uq9 rfl (by with_unfolding_all exact ⟨_, rfl, rfl⟩) rfl ?_)))
   have hF3 := hF2.perm ((List.Perm.swap _ _ _).trans ((List.Perm.swap _ _ _).cons _) |>.trans (List.Perm.swap _ _ _))
   have hq := rquote_any [] w0 w2 A c out _ ⟨t.toArray⟩ (by rw [str_mk_size]; omega) hF3
   refine hq.mono ?_
   rintro e w4 ⟨v4, rfl, hF4⟩
   clear hq
   go_wp2_with fail
   go_ret
   refine ⟨_, _, rfl, box ⟨Nat.le_refl _, .inl rfl⟩, ?_⟩
   rw [hfu.out]
   exact hF4.drop1.drop1
set_option maxRecDepth 20000 in
set_option maxHeartbeats 25600000 in
theorem rlay_any (N : Nat) : ∀ (v : JV) (cs : List Value) (w0 w : World) (A : Option Addr) (c : Nat) (out : List UInt8) (rest : List Ent), SizeOf.sizeOf v ≤ N → VRd w0 (· < w0.heap.size) v cs → JSm v → JOk2 v → out.length + 6 * (jFull v).length ≤ 140737480000000 →
  Fr [] w0 w (Ent.bytes w0.heap.size 5 (.slice A out.length c) out :: rest) →
  Calls Tryz.prog 75 #[.slice A out.length c, .agg cs.toArray] w (WrPost w0 rest (out ++ jFull v)) := by
 induction N with
 | zero => intro v _ _ _ _ _ _ _ h; cases v; simp only [JV.mk.sizeOf_spec] at h; omega
 | succ N ih =>
  intro v cs w0 w A c out rest hN hv hsm hok hroom hF
  obtain ⟨k, n, t, ns, ks⟩ := v
  rw [VRd] at hv
  obtain ⟨An, nn, cn, Ak, nk, ck, xk, hcn, hck, rfl, hrn, hrk, hvk⟩ := hv
  rw [JSm] at hsm
  obtain ⟨hs1, hs2, hs3⟩ := hsm
  have hnk : ks.length = nk := by have := hrk.len; rw [hvk.len] at this; omega
  rw [hnk] at hs2
  replace hnk := box hnk
  replace hvk := box hvk
  replace hs3 := box hs3
  replace hN := box hN
  replace hrn := box hrn
  replace hrk := box hrk
  have hnn : ns.length = nn := by have := hrn.out.len; simpa using this
  rw [hnn] at hs1
  replace hnn := box hnn
  rw [JOk2] at hok
  rcases hok with hk | hk | hk
  ·exact rlay_leaf w0 w k n t ns ks An nn cn Ak nk ck A c out rest hk hroom hF
  ·obtain ⟨rfl, hok⟩ := hk
   replace hok := box hok
   have hfu : Box (jFull (.mk 5 n t ns ks) = [91] ++ jFullL false false ns ks ++ [93]) := box (by rw [jFull]; rfl)
   obtain ⟨FU, hFU⟩ : ∃ FU, FU = jFull (.mk 5 n t ns ks) := ⟨_, rfl⟩
   rw [← hFU] at hroom hfu
   rw [← hFU]
   have hFl1 : 1 ≤ FU.length := by rw [hfu.out]; simp
   clear hFU
   go_enter Tryz.func75, Tryz.ntmps75
   go_wp2_with (first | ((with_reducible refine lsx (wp_fbox hF (cs := (vlL 5 n ⟨t.toArray⟩ (.slice An nn cn) (.slice Ak nk ck))) rfl (by with_unfolding_all rfl) (by with_unfolding_all rfl) ?_)); intro w1 g1 hF1 hz1) | ((with_reducible refine lsx (wp_fbsl T_strs hF1 (vs := [.string ⟨#[110, 117, 108, 108]⟩, .string ⟨#[102, 97, 108, 115, 101]⟩, .string ⟨#[116, 114, 117, 101]⟩]) (by with_unfolding_all rfl) (by with_unfolding_all rfl) (by with_unfolding_all rfl) (by decide) (by simp [Value.cells]) ?_)); intro w2 g2 hF2 hz2) | (with_reducible refine lsx (wp_fld1 hF2 uq3 rfl (by with_unfolding_all exact ⟨_, rfl, rfl⟩) rfl ?_)) | ((with_reducible refine lsx (wp_fbsl T_u8 hF2 (vs := [bv 91]) (by with_unfolding_all rfl) (by with_unfolding_all rfl) (by with_unfolding_all rfl) (by decide) (by simp [bv, Value.cells]) ?_)); intro w3 g3 hF3 hz3; have hr3 : Rd w3 (· < w3.heap.size) (some ⟨g3, 0, none⟩) 1 1 ([91].map bv) := hF3.rdOwn0; replace hF3 : Fr _ _ w3 (Ent.bytes _ 5 (.slice (some ⟨g3, 0, none⟩) 1 1) [91] :: _) := hF3) | ((with_reducible refine lsx (wp_fapp3 T_u8 hF3 (Nat.le_refl _) hr3 (by with_unfolding_all exact ⟨_, _, rfl, rfl, rfl⟩) (by omega) ?_)); intro v4 w4 hF4 hz4))
   have hF5 := hF4.tail.tail.perm (List.Perm.swap _ _ _)
   clear hF hF1 hF2 hF3 hF4
   go_loopg [0, 8] nk (fun gk v s wr => ∃ (i : Nat) (P O : List UInt8), i ≤ nk ∧ Box (gk = nk - i) ∧ s = .int .i64 (i : Int) ∧ Box (out ++ FU = P ++ jFullL false (decide (0 < i)) (ns.drop i) (ks.drop i) ++ [93]) ∧ out.length ≤ P.length ∧ Box (O.length ≤ P.length ∧ (O = P ∨ 65536 < O.length)) ∧ Fr [] w0 wr (Ent.bytes w0.heap.size 5 v O :: .blk g1 51 (vlL 5 n ⟨t.toArray⟩ (.slice An nn cn) (.slice Ak nk ck)) :: rest))
   case atStart => exact ⟨0, out ++ [91], out ++ [91], by omega, box rfl, rfl, box (by rw [hfu.out]; simp), by simp, box ⟨Nat.le_refl _, .inl rfl⟩, hF5⟩
   case round =>
    clear hF5
    obtain ⟨i, P, O, hi, hk, rfl, hfull, hoP, hO, hF⟩ := hrel
    have hkf : Box (gk = nk - i) := hk
    clear hk
    obtain ⟨Ao, co, rfl, hco, hro⟩ := (hF.own (i := 0) rfl).arg
    have hPl : P.length + 1 ≤ out.length + FU.length := by have := congrArg List.length hfull.out; simp only [List.length_append, List.length_cons, List.length_nil] at this; omega
    have hOl : O.length ≤ P.length := hO.out.1
    by_cases hlt : i < nk
    ·by_cases hbig : 65536 < O.length
     ·have d1 : decide ((O.length : Int) ≤ 65536) = false := decide_eq_false (by omega)
      have hkl : Box (jFullL false (decide (0 < i)) (ns.drop i) (ks.drop i) ≠ [] ∨ True) := box (.inr trivial)
      replace hbig := box hbig
      go_wp2_with (first | (with_reducible refine lsx (wp_fld1 hF uq3 rfl (by with_unfolding_all exact ⟨_, rfl, rfl⟩) rfl ?_)) | (with_reducible refine lsx (wp_fld1 hF uq48 rfl (by with_unfolding_all exact ⟨_, rfl, rfl⟩) rfl ?_)) | (with_reducible refine lsx (wp_fld1 hF uq49 rfl (by with_unfolding_all exact ⟨_, rfl, rfl⟩) rfl ?_)) | ((with_reducible refine lsx (wp_fbsl T_u8 hF (vs := [bv 93]) (by with_unfolding_all rfl) (by with_unfolding_all rfl) (by with_unfolding_all rfl) (by decide) (by simp [bv, Value.cells]) ?_)); intro w6 g6 hF6 hz6; have hr6 : Rd w6 (· < w6.heap.size) (some ⟨g6, 0, none⟩) 1 1 ([93].map bv) := hF6.rdOwn0; replace hF6 : Fr _ _ w6 (Ent.bytes _ 5 (.slice (some ⟨g6, 0, none⟩) 1 1) [93] :: _) := hF6) | ((with_reducible refine lsx (wp_fapp1 T_u8 hF6 (Nat.le_refl _) hr6 (by with_unfolding_all exact ⟨_, _, rfl, rfl, rfl⟩) (by omega) ?_)); intro v7 w7 hF7 hz7))
      go_ret
      refine ⟨_, _, rfl, box ⟨?_, .inr (by have := hbig.out; simp only [List.length_append, List.length_cons, List.length_nil]; omega)⟩, hF7.tail.drop1⟩
      simp only [List.length_append, List.length_cons, List.length_nil]
      omega
     ·obtain ⟨vi, hvi⟩ : ∃ vi, ks[i]? = some vi := ⟨ks[i]'(by rw [hnk.out]; exact hlt), by simp⟩
      obtain ⟨ci, hci, hvri⟩ := hvk.out.at hvi
      have hcil := box hvri.len
      replace hci := box hci
      have hsi := box (hs3.out.at hvi)
      have hoki := box (hok.out.at hvi)
      have hsz : Box (SizeOf.sizeOf vi ≤ N) := box (by have := JV.size_kid (k := 5) (n := n) (t := t) (ns := ns) hvi; have := hN.out; omega)
      have hstep := box (hfull.out.trans (by rw [jFullL_drop hvi]))
      replace hvi := box hvi
      replace hvri := box hvri
      have hOP : O = P := hO.out.2.resolve_right hbig
      subst hOP
      have d1 : decide ((O.length : Int) ≤ 65536) = true := decide_eq_true (by omega)
      replace hbig := box hbig
      clear hO hfull
      by_cases h0 : 0 < i
      ·have hz : decide (0 < i) = true := decide_eq_true h0
       rw [hz] at hstep
       clear hz
       replace hstep : Box (out ++ FU = (O ++ [44]) ++ jFull vi ++ jFullL false true (ns.drop (i + 1)) (ks.drop (i + 1)) ++ [93]) := box (hstep.out.trans (by simp))
       have hrl : (O ++ [44]).length + (jFull vi).length + 1 ≤ out.length + FU.length := by have := congrArg List.length hstep.out; simp only [List.length_append, List.length_cons, List.length_nil] at this ⊢; omega
       have hbo : out.length ≤ (O ++ [44]).length := by first | omega | (simp only [List.length_append]; omega)
       go_wp2_with (first | (with_reducible refine lsx (wp_fld1 hF uq3 rfl (by with_unfolding_all exact ⟨_, rfl, rfl⟩) rfl ?_)) | (with_reducible refine lsx (wp_fld1 hF uq48 rfl (by with_unfolding_all exact ⟨_, rfl, rfl⟩) rfl ?_)) | (with_reducible refine lsx (wp_fld1 hF uq49 rfl (by with_unfolding_all exact ⟨_, rfl, rfl⟩) rfl ?_)) | ((with_reducible refine lsx (wp_fbsl T_u8 hF (vs := [bv 44]) (by with_unfolding_all rfl) (by with_unfolding_all rfl) (by with_unfolding_all rfl) (by decide) (by simp [bv, Value.cells]) ?_)); intro w8 g8 hF8 hz8; have hr8 : Rd w8 (· < w8.heap.size) (some ⟨g8, 0, none⟩) 1 1 ([44].map bv) := hF8.rdOwn0; replace hF8 : Fr _ _ w8 (Ent.bytes _ 5 (.slice (some ⟨g8, 0, none⟩) 1 1) [44] :: _) := hF8) | ((with_reducible refine lsx (wp_fapp1 T_u8 hF8 (Nat.le_refl _) hr8 (by with_unfolding_all exact ⟨_, _, rfl, rfl, rfl⟩) (by omega) ?_)); intro v9 w9 hF9 hz9) | (with_reducible refine lsx (wp_fld2 hF9 uq3 rfl (by with_unfolding_all exact ⟨_, rfl, rfl⟩) rfl ?_)) | (with_reducible refine lsx (wp_fld2 hF9 uq48 rfl (by with_unfolding_all exact ⟨_, rfl, rfl⟩) rfl ?_)) | (with_reducible refine lsx (wp_fld2 hF9 uq49 rfl (by with_unfolding_all exact ⟨_, rfl, rfl⟩) rfl ?_)) | (with_reducible refine lsx (wp_fld2 hF9 uq3 rfl (by with_unfolding_all exact ⟨_, rfl, rfl⟩) rfl ?_)) | (with_reducible refine lsx (wp_fld2 hF9 uq48 rfl (by with_unfolding_all exact ⟨_, rfl, rfl⟩) rfl ?_)) | (with_reducible refine lsx (wp_fld2 hF9 uq49 rfl (by with_unfolding_all exact ⟨_, rfl, rfl⟩) rfl ?_)) | (with_reducible refine lsx (wp_indexAddr T_rvals (hrk.out.below hF9.below) (by with_unfolding_all exact ⟨_, _, _, _, rfl, rfl, rfl⟩) (by omega) (by omega) ?_)) | (with_reducible refine lsx (wp_loadA (hrk.out.below hF9.below) uq51 rfl (by with_unfolding_all exact ⟨_, rfl, rfl⟩) (ds := ci) (by rw [hcil.out]; kernel_rfl) (by rw [hcil.out]; with_unfolding_all exact hci.out) ?_)))
       have hF14 := hF9.tail
       obtain ⟨A14, c14, hv14, hc14, hr14⟩ := (hF14.own (i := 0) rfl).arg
       subst hv14
       have hwr := ih vi ci w0 _ _ _ (O ++ [44]) _ hsz.out hvri.out hsi.out hoki.out (by omega) hF14
       refine hwr.mono ?_
       rintro e w15 ⟨v15, l15, rfl, hl15, hF15⟩
       clear hwr
       go_wp2_with fail
       go_roundg (nk - (i + 1))
       case rel => exact ⟨i + 1, (O ++ [44]) ++ jFull vi, l15, by omega, box rfl, by go_num, box (by rw [hstep.out, decide_eq_true (Nat.succ_pos _)]), by rw [List.length_append]; omega, hl15, hF15⟩
       case measure => have := hkf.out; omega
      ·obtain rfl : i = 0 := by omega
       replace hstep : Box (out ++ FU = (O) ++ jFull vi ++ jFullL false true (ns.drop (0 + 1)) (ks.drop (0 + 1)) ++ [93]) := box (hstep.out.trans (by simp))
       have hrl : (O).length + (jFull vi).length + 1 ≤ out.length + FU.length := by have := congrArg List.length hstep.out; simp only [List.length_append, List.length_cons, List.length_nil] at this ⊢; omega
       have hbo : out.length ≤ (O).length := by first | omega | (simp only [List.length_append]; omega)
       go_wp2_with (first | (with_reducible refine lsx (wp_fld1 hF uq3 rfl (by with_unfolding_all exact ⟨_, rfl, rfl⟩) rfl ?_)) | (with_reducible refine lsx (wp_fld1 hF uq48 rfl (by with_unfolding_all exact ⟨_, rfl, rfl⟩) rfl ?_)) | (with_reducible refine lsx (wp_fld1 hF uq49 rfl (by with_unfolding_all exact ⟨_, rfl, rfl⟩) rfl ?_)) | (with_reducible refine lsx (wp_fld1 hF uq3 rfl (by with_unfolding_all exact ⟨_, rfl, rfl⟩) rfl ?_)) | (with_reducible refine lsx (wp_fld1 hF uq48 rfl (by with_unfolding_all exact ⟨_, rfl, rfl⟩) rfl ?_)) | (with_reducible refine lsx (wp_fld1 hF uq49 rfl (by with_unfolding_all exact ⟨_, rfl, rfl⟩) rfl ?_)) | (with_reducible refine lsx (wp_indexAddr T_rvals (hrk.out.below hF.below) (by with_unfolding_all exact ⟨_, _, _, _, rfl, rfl, rfl⟩) (by omega) (by omega) ?_)) | (with_reducible refine lsx (wp_loadA (hrk.out.below hF.below) uq51 rfl (by with_unfolding_all exact ⟨_, rfl, rfl⟩) (ds := ci) (by rw [hcil.out]; kernel_rfl) (by rw [hcil.out]; with_unfolding_all exact hci.out) ?_)))
       have hF14 := hF
       have hwr := ih vi ci w0 _ _ _ (O) _ hsz.out hvri.out hsi.out hoki.out (by omega) hF14
       refine hwr.mono ?_
       rintro e w15 ⟨v15, l15, rfl, hl15, hF15⟩
       clear hwr
       go_wp2_with fail
       go_roundg (nk - (0 + 1))
       case rel => exact ⟨0 + 1, (O) ++ jFull vi, l15, by omega, box rfl, by go_num, box (by rw [hstep.out, decide_eq_true (Nat.succ_pos _)]), by rw [List.length_append]; omega, hl15, hF15⟩
       case measure => have := hkf.out; omega
    ·have hin : nk = i := by omega
     subst hin
     have hend : Box (out ++ FU = P ++ [93]) := box (by
      rw [hfull.out, List.drop_of_length_le (l := ks) (by rw [hnk.out]; exact Nat.le_refl _), jFullL, List.append_nil])
     clear hfull hkf
     go_wp2_with (first | (with_reducible refine lsx (wp_fld1 hF uq3 rfl (by with_unfolding_all exact ⟨_, rfl, rfl⟩) rfl ?_)) | (with_reducible refine lsx (wp_fld1 hF uq48 rfl (by with_unfolding_all exact ⟨_, rfl, rfl⟩) rfl ?_)) | (with_reducible refine lsx (wp_fld1 hF uq49 rfl (by with_unfolding_all exact ⟨_, rfl, rfl⟩) rfl ?_)) | ((with_reducible refine lsx (wp_fbsl T_u8 hF (vs := [bv 93]) (by with_unfolding_all rfl) (by with_unfolding_all rfl) (by with_unfolding_all rfl) (by decide) (by simp [bv, Value.cells]) ?_)); intro w5 g5 hF5 hz5; have hr5 : Rd w5 (· < w5.heap.size) (some ⟨g5, 0, none⟩) 1 1 ([93].map bv) := hF5.rdOwn0; replace hF5 : Fr _ _ w5 (Ent.bytes _ 5 (.slice (some ⟨g5, 0, none⟩) 1 1) [93] :: _) := hF5) | ((with_reducible refine lsx (wp_fapp1 T_u8 hF5 (Nat.le_refl _) hr5 (by with_unfolding_all exact ⟨_, _, rfl, rfl, rfl⟩) (by omega) ?_)); intro v6 w6 hF6 hz6))
     go_ret
     refine ⟨_, _, rfl, box ⟨?_, ?_⟩, hF6.tail.drop1⟩
     ·rw [hend.out]; simp only [List.length_append, List.length_cons, List.length_nil]; omega
     ·rcases hO.out.2 with h | h
      ·left; rw [hend.out, h]
      ·right; simp only [List.length_append, List.length_cons, List.length_nil]; omega
  ·obtain ⟨rfl, hnk5, hok⟩ := hk
   replace hok := box hok
   have hnn5 := hnn.out
   rw [hnn5] at hnk5
   rw [hnk.out] at hnk5
   have hnnk : nk ≤ nn := by omega
   replace hnk5 := box hnk5
   clear hnn5
   have hfu : Box (jFull (.mk 6 n t ns ks) = [123] ++ jFullL true false ns ks ++ [125]) := box (by rw [jFull]; rfl)
   obtain ⟨FU, hFU⟩ : ∃ FU, FU = jFull (.mk 6 n t ns ks) := ⟨_, rfl⟩
   rw [← hFU] at hroom hfu
   rw [← hFU]
   have hFl1 : 1 ≤ FU.length := by rw [hfu.out]; simp
   clear hFU
   go_enter Tryz.func75, Tryz.ntmps75
   go_wp2_with (first | ((with_reducible refine lsx (wp_fbox hF (cs := (vlL 6 n ⟨t.toArray⟩ (.slice An nn cn) (.slice Ak nk ck))) rfl (by with_unfolding_all rfl) (by with_unfolding_all rfl) ?_)); intro w1 g1 hF1 hz1) | ((with_reducible refine lsx (wp_fbsl T_strs hF1 (vs := [.string ⟨#[110, 117, 108, 108]⟩, .string ⟨#[102, 97, 108, 115, 101]⟩, .string ⟨#[116, 114, 117, 101]⟩]) (by with_unfolding_all rfl) (by with_unfolding_all rfl) (by with_unfolding_all rfl) (by decide) (by simp [Value.cells]) ?_)); intro w2 g2 hF2 hz2) | (with_reducible refine lsx (wp_fld1 hF2 uq3 rfl (by with_unfolding_all exact ⟨_, rfl, rfl⟩) rfl ?_)) | ((with_reducible refine lsx (wp_fbsl T_u8 hF2 (vs := [bv 123]) (by with_unfolding_all rfl) (by with_unfolding_all rfl) (by with_unfolding_all rfl) (by decide) (by simp [bv, Value.cells]) ?_)); intro w3 g3 hF3 hz3; have hr3 : Rd w3 (· < w3.heap.size) (some ⟨g3, 0, none⟩) 1 1 ([123].map bv) := hF3.rdOwn0; replace hF3 : Fr _ _ w3 (Ent.bytes _ 5 (.slice (some ⟨g3, 0, none⟩) 1 1) [123] :: _) := hF3) | ((with_reducible refine lsx (wp_fapp3 T_u8 hF3 (Nat.le_refl _) hr3 (by with_unfolding_all exact ⟨_, _, rfl, rfl, rfl⟩) (by omega) ?_)); intro v4 w4 hF4 hz4))
   have hF5 := hF4.tail.tail.perm (List.Perm.swap _ _ _)
   clear hF hF1 hF2 hF3 hF4
   go_loopg [0, 8] nk (fun gk v s wr => ∃ (i : Nat) (P O : List UInt8), i ≤ nk ∧ Box (gk = nk - i) ∧ s = .int .i64 (i : Int) ∧ Box (out ++ FU = P ++ jFullL true (decide (0 < i)) (ns.drop i) (ks.drop i) ++ [125]) ∧ out.length ≤ P.length ∧ Box (O.length ≤ P.length ∧ (O = P ∨ 65536 < O.length)) ∧ Fr [] w0 wr (Ent.bytes w0.heap.size 5 v O :: .blk g1 51 (vlL 6 n ⟨t.toArray⟩ (.slice An nn cn) (.slice Ak nk ck)) :: rest))
   case atStart => exact ⟨0, out ++ [123], out ++ [123], by omega, box rfl, rfl, box (by rw [hfu.out]; simp), by simp, box ⟨Nat.le_refl _, .inl rfl⟩, hF5⟩
   case round =>
    clear hF5
    obtain ⟨i, P, O, hi, hk, rfl, hfull, hoP, hO, hF⟩ := hrel
    have hkf : Box (gk = nk - i) := hk
    clear hk
    obtain ⟨Ao, co, rfl, hco, hro⟩ := (hF.own (i := 0) rfl).arg
    have hPl : P.length + 1 ≤ out.length + FU.length := by have := congrArg List.length hfull.out; simp only [List.length_append, List.length_cons, List.length_nil] at this; omega
    have hOl : O.length ≤ P.length := hO.out.1
    by_cases hlt : i < nk
    ·by_cases hbig : 65536 < O.length
     ·have d1 : decide ((O.length : Int) ≤ 65536) = false := decide_eq_false (by omega)
      have hkl : Box (jFullL true (decide (0 < i)) (ns.drop i) (ks.drop i) ≠ [] ∨ True) := box (.inr trivial)
      replace hbig := box hbig
      go_wp2_with (first | (with_reducible refine lsx (wp_fld1 hF uq3 rfl (by with_unfolding_all exact ⟨_, rfl, rfl⟩) rfl ?_)) | (with_reducible refine lsx (wp_fld1 hF uq48 rfl (by with_unfolding_all exact ⟨_, rfl, rfl⟩) rfl ?_)) | (with_reducible refine lsx (wp_fld1 hF uq49 rfl (by with_unfolding_all exact ⟨_, rfl, rfl⟩) rfl ?_)) | ((with_reducible refine lsx (wp_fbsl T_u8 hF (vs := [bv 125]) (by with_unfolding_all rfl) (by with_unfolding_all rfl) (by with_unfolding_all rfl) (by decide) (by simp [bv, Value.cells]) ?_)); intro w6 g6 hF6 hz6; have hr6 : Rd w6 (· < w6.heap.size) (some ⟨g6, 0, none⟩) 1 1 ([125].map bv) := hF6.rdOwn0; replace hF6 : Fr _ _ w6 (Ent.bytes _ 5 (.slice (some ⟨g6, 0, none⟩) 1 1) [125] :: _) := hF6) | ((with_reducible refine lsx (wp_fapp1 T_u8 hF6 (Nat.le_refl _) hr6 (by with_unfolding_all exact ⟨_, _, rfl, rfl, rfl⟩) (by omega) ?_)); intro v7 w7 hF7 hz7))
      go_ret
      refine ⟨_, _, rfl, box ⟨?_, .inr (by have := hbig.out; simp only [List.length_append, List.length_cons, List.length_nil]; omega)⟩, hF7.tail.drop1⟩
      simp only [List.length_append, List.length_cons, List.length_nil]
      omega
     ·obtain ⟨vi, hvi⟩ : ∃ vi, ks[i]? = some vi := ⟨ks[i]'(by rw [hnk.out]; exact hlt), by simp⟩
      obtain ⟨ci, hci, hvri⟩ := hvk.out.at hvi
      have hcil := box hvri.len
      replace hci := box hci
      have hsi := box (hs3.out.at hvi)
      have hoki := box (hok.out.at hvi)
      have hsz : Box (SizeOf.sizeOf vi ≤ N) := box (by have := JV.size_kid (k := 6) (n := n) (t := t) (ns := ns) hvi; have := hN.out; omega)
      have hstep := box (hfull.out.trans (by rw [jFullL_drop hvi]))
      replace hvi := box hvi
      replace hvri := box hvri
      have hOP : O = P := hO.out.2.resolve_right hbig
      subst hOP
      have d1 : decide ((O.length : Int) ≤ 65536) = true := decide_eq_true (by omega)
      replace hbig := box hbig
      clear hO hfull
      by_cases h0 : 0 < i
      ·have hz : decide (0 < i) = true := decide_eq_true h0
       rw [hz] at hstep
       clear hz
       obtain ⟨s, hs⟩ : ∃ s, ns[i]? = some s := ⟨ns[i]'(by rw [hnn.out]; omega), by simp⟩
       have hss : Box ((ns.map strv)[i]? = some (.string ⟨s.toArray⟩)) := box (by rw [List.getElem?_map, hs]; rfl)
       have hhd : (ns.drop i).headD [] = s := by rw [List.drop_eq_getElem_cons (List.getElem?_eq_some_iff.1 hs).1, (List.getElem?_eq_some_iff.1 hs).2]; rfl
       rw [hhd] at hstep
       clear hhd hs
       have hqg := jQuote_ge s
       replace hstep : Box (out ++ FU = (O ++ [44] ++ (jQuote s ++ [58])) ++ jFull vi ++ jFullL true true (ns.drop (i + 1)) (ks.drop (i + 1)) ++ [125]) := box (hstep.out.trans (by simp))
       have hrl : (O ++ [44] ++ (jQuote s ++ [58])).length + (jFull vi).length + 1 ≤ out.length + FU.length := by have := congrArg List.length hstep.out; simp only [List.length_append, List.length_cons, List.length_nil] at this ⊢; omega
       have hbo : out.length ≤ (O ++ [44] ++ (jQuote s ++ [58])).length := by first | omega | (simp only [List.length_append]; omega)
       have hrl3 : ((O ++ [44]) ++ jQuote s).length + 1 ≤ 140737488355328 := by simp only [List.length_append, List.length_cons, List.length_nil] at hrl ⊢; omega
       have hrl2 : O.length + s.length + 4 ≤ out.length + FU.length := by simp only [List.length_append, List.length_cons, List.length_nil] at hrl; omega
       go_wp2_with (first | (with_reducible refine lsx (wp_fld1 hF uq3 rfl (by with_unfolding_all exact ⟨_, rfl, rfl⟩) rfl ?_)) | (with_reducible refine lsx (wp_fld1 hF uq48 rfl (by with_unfolding_all exact ⟨_, rfl, rfl⟩) rfl ?_)) | (with_reducible refine lsx (wp_fld1 hF uq49 rfl (by with_unfolding_all exact ⟨_, rfl, rfl⟩) rfl ?_)) | ((with_reducible refine lsx (wp_fbsl T_u8 hF (vs := [bv 44]) (by with_unfolding_all rfl) (by with_unfolding_all rfl) (by with_unfolding_all rfl) (by decide) (by simp [bv, Value.cells]) ?_)); intro w8 g8 hF8 hz8; have hr8 : Rd w8 (· < w8.heap.size) (some ⟨g8, 0, none⟩) 1 1 ([44].map bv) := hF8.rdOwn0; replace hF8 : Fr _ _ w8 (Ent.bytes _ 5 (.slice (some ⟨g8, 0, none⟩) 1 1) [44] :: _) := hF8) | ((with_reducible refine lsx (wp_fapp1 T_u8 hF8 (Nat.le_refl _) hr8 (by with_unfolding_all exact ⟨_, _, rfl, rfl, rfl⟩) (by omega) ?_)); intro v9 w9 hF9 hz9) | (with_reducible refine lsx (wp_fld2 hF9 uq3 rfl (by with_unfolding_all exact ⟨_, rfl, rfl⟩) rfl ?_)) | (with_reducible refine lsx (wp_fld2 hF9 uq48 rfl (by with_unfolding_all exact ⟨_, rfl, rfl⟩) rfl ?_)) | (with_reducible refine lsx (wp_fld2 hF9 uq49 rfl (by with_unfolding_all exact ⟨_, rfl, rfl⟩) rfl ?_)) | (with_reducible refine lsx (wp_indexAddr T_strs (hrn.out.below hF9.below) (by with_unfolding_all exact ⟨_, _, _, _, rfl, rfl, rfl⟩) (by omega) (by omega) ?_)) | (with_reducible refine lsx (wp_load1C (hrn.out.below hF9.below) hss uq9 rfl (by with_unfolding_all exact ⟨_, rfl, rfl⟩) (by first | (simp; done) | (simp; omega) | omega) ?_)))
       have hF10 := hF9.tail
       obtain ⟨A10, c10, hv10, hc10, hr10⟩ := (hF10.own (i := 0) rfl).arg
       subst hv10
       have hq := rquote_any [] w0 _ _ _ (O ++ [44]) _ ⟨s.toArray⟩ (by rw [str_mk_size]; first | omega | (simp only [List.length_append, List.length_cons, List.length_nil]; omega)) hF10
       refine hq.mono ?_
       rintro e w11 ⟨v11, rfl, hF11⟩
       clear hq
       obtain ⟨Y, hY⟩ : ∃ Y, Y = (O ++ [44]) ++ jQuote (⟨s.toArray⟩ : ByteArray).data.toList := ⟨_, rfl⟩
       rw [← hY] at hF11
       replace hrl3 : Y.length + 1 ≤ 140737488355328 := by rw [hY]; exact hrl3
       replace hY := box hY
       clear hF10
       obtain ⟨A11, c11, rfl, hc11, hr11⟩ := (hF11.own (i := 0) rfl).arg
       go_wp2_with (first | ((with_reducible refine lsx (wp_fbsl T_u8 hF11 (vs := [bv 58]) (by with_unfolding_all rfl) (by with_unfolding_all rfl) (by with_unfolding_all rfl) (by decide) (by simp [bv, Value.cells]) ?_)); intro w12 g12 hF12 hz12; have hr12 : Rd w12 (· < w12.heap.size) (some ⟨g12, 0, none⟩) 1 1 ([58].map bv) := hF12.rdOwn0; replace hF12 : Fr _ _ w12 (Ent.bytes _ 5 (.slice (some ⟨g12, 0, none⟩) 1 1) [58] :: _) := hF12) | ((with_reducible refine lsx (wp_fapp1 T_u8 hF12 (Nat.le_refl _) hr12 (by with_unfolding_all exact ⟨_, _, rfl, rfl, rfl⟩) (by omega) ?_)); intro v13 w13 hF13 hz13) | (with_reducible refine lsx (wp_fld2 hF13 uq3 rfl (by with_unfolding_all exact ⟨_, rfl, rfl⟩) rfl ?_)) | (with_reducible refine lsx (wp_fld2 hF13 uq48 rfl (by with_unfolding_all exact ⟨_, rfl, rfl⟩) rfl ?_)) | (with_reducible refine lsx (wp_fld2 hF13 uq49 rfl (by with_unfolding_all exact ⟨_, rfl, rfl⟩) rfl ?_)) | (with_reducible refine lsx (wp_indexAddr T_rvals (hrk.out.below hF13.below) (by with_unfolding_all exact ⟨_, _, _, _, rfl, rfl, rfl⟩) (by omega) (by omega) ?_)) | (with_reducible refine lsx (wp_loadA (hrk.out.below hF13.below) uq51 rfl (by with_unfolding_all exact ⟨_, rfl, rfl⟩) (ds := ci) (by rw [hcil.out]; kernel_rfl) (by rw [hcil.out]; with_unfolding_all exact hci.out) ?_)))
       have hF14 := hF13.tail
       rw [hY.out, List.append_assoc] at hF14
       obtain ⟨A14, c14, rfl, hc14, hr14⟩ := (hF14.own (i := 0) rfl).arg
       have hwr := ih vi ci w0 _ _ _ (O ++ [44] ++ (jQuote s ++ [58])) _ hsz.out hvri.out hsi.out hoki.out (by omega) hF14
       refine hwr.mono ?_
       rintro e w15 ⟨v15, l15, rfl, hl15, hF15⟩
       clear hwr
       go_wp2_with fail
       go_roundg (nk - (i + 1))
       case rel => exact ⟨i + 1, (O ++ [44] ++ (jQuote s ++ [58])) ++ jFull vi, l15, by omega, box rfl, by go_num, box (by rw [hstep.out, decide_eq_true (Nat.succ_pos _)]), by rw [List.length_append]; omega, hl15, hF15⟩
       case measure => have := hkf.out; omega
      ·obtain rfl : i = 0 := by omega
       obtain ⟨s, hs⟩ : ∃ s, ns[0]? = some s := ⟨ns[0]'(by rw [hnn.out]; omega), by simp⟩
       have hss : Box ((ns.map strv)[0]? = some (.string ⟨s.toArray⟩)) := box (by rw [List.getElem?_map, hs]; rfl)
       have hhd : (ns.drop 0).headD [] = s := by rw [List.drop_eq_getElem_cons (List.getElem?_eq_some_iff.1 hs).1, (List.getElem?_eq_some_iff.1 hs).2]; rfl
       rw [hhd] at hstep
       clear hhd hs
       have hqg := jQuote_ge s
       replace hstep : Box (out ++ FU = (O ++ (jQuote s ++ [58])) ++ jFull vi ++ jFullL true true (ns.drop (0 + 1)) (ks.drop (0 + 1)) ++ [125]) := box (hstep.out.trans (by simp))
       have hrl : (O ++ (jQuote s ++ [58])).length + (jFull vi).length + 1 ≤ out.length + FU.length := by have := congrArg List.length hstep.out; simp only [List.length_append, List.length_cons, List.length_nil] at this ⊢; omega
       have hbo : out.length ≤ (O ++ (jQuote s ++ [58])).length := by first | omega | (simp only [List.length_append]; omega)
       have hrl3 : ((O) ++ jQuote s).length + 1 ≤ 140737488355328 := by simp only [List.length_append, List.length_cons, List.length_nil] at hrl ⊢; omega
       have hrl2 : O.length + s.length + 4 ≤ out.length + FU.length := by simp only [List.length_append, List.length_cons, List.length_nil] at hrl; omega
       go_wp2_with (first | (with_reducible refine lsx (wp_fld1 hF uq3 rfl (by with_unfolding_all exact ⟨_, rfl, rfl⟩) rfl ?_)) | (with_reducible refine lsx (wp_fld1 hF uq48 rfl (by with_unfolding_all exact ⟨_, rfl, rfl⟩) rfl ?_)) | (with_reducible refine lsx (wp_fld1 hF uq49 rfl (by with_unfolding_all exact ⟨_, rfl, rfl⟩) rfl ?_)) | (with_reducible refine lsx (wp_indexAddr T_strs (hrn.out.below hF.below) (by with_unfolding_all exact ⟨_, _, _, _, rfl, rfl, rfl⟩) (by omega) (by omega) ?_)) | (with_reducible refine lsx (wp_load1C (hrn.out.below hF.below) hss uq9 rfl (by with_unfolding_all exact ⟨_, rfl, rfl⟩) (by first | (simp; done) | (simp; omega) | omega) ?_)))
       have hF10 := hF
       have hq := rquote_any [] w0 _ _ _ (O) _ ⟨s.toArray⟩ (by rw [str_mk_size]; first | omega | (simp only [List.length_append, List.length_cons, List.length_nil]; omega)) hF10
       refine hq.mono ?_
       rintro e w11 ⟨v11, rfl, hF11⟩
       clear hq
       obtain ⟨Y, hY⟩ : ∃ Y, Y = (O) ++ jQuote (⟨s.toArray⟩ : ByteArray).data.toList := ⟨_, rfl⟩
       rw [← hY] at hF11
       replace hrl3 : Y.length + 1 ≤ 140737488355328 := by rw [hY]; exact hrl3
       replace hY := box hY
       clear hF10
       obtain ⟨A11, c11, rfl, hc11, hr11⟩ := (hF11.own (i := 0) rfl).arg
       go_wp2_with (first | ((with_reducible refine lsx (wp_fbsl T_u8 hF11 (vs := [bv 58]) (by with_unfolding_all rfl) (by with_unfolding_all rfl) (by with_unfolding_all rfl) (by decide) (by simp [bv, Value.cells]) ?_)); intro w12 g12 hF12 hz12; have hr12 : Rd w12 (· < w12.heap.size) (some ⟨g12, 0, none⟩) 1 1 ([58].map bv) := hF12.rdOwn0; replace hF12 : Fr _ _ w12 (Ent.bytes _ 5 (.slice (some ⟨g12, 0, none⟩) 1 1) [58] :: _) := hF12) | ((with_reducible refine lsx (wp_fapp1 T_u8 hF12 (Nat.le_refl _) hr12 (by with_unfolding_all exact ⟨_, _, rfl, rfl, rfl⟩) (by omega) ?_)); intro v13 w13 hF13 hz13) | (with_reducible refine lsx (wp_fld2 hF13 uq3 rfl (by with_unfolding_all exact ⟨_, rfl, rfl⟩) rfl ?_)) | (with_reducible refine lsx (wp_fld2 hF13 uq48 rfl (by with_unfolding_all exact ⟨_, rfl, rfl⟩) rfl ?_)) | (with_reducible refine lsx (wp_fld2 hF13 uq49 rfl (by with_unfolding_all exact ⟨_, rfl, rfl⟩) rfl ?_)) | (with_reducible refine lsx (wp_indexAddr T_rvals (hrk.out.below hF13.below) (by with_unfolding_all exact ⟨_, _, _, _, rfl, rfl, rfl⟩) (by omega) (by omega) ?_)) | (with_reducible refine lsx (wp_loadA (hrk.out.below hF13.below) uq51 rfl (by with_unfolding_all exact ⟨_, rfl, rfl⟩) (ds := ci) (by rw [hcil.out]; kernel_rfl) (by rw [hcil.out]; with_unfolding_all exact hci.out) ?_)))
       have hF14 := hF13.tail
       rw [hY.out, List.append_assoc] at hF14
       obtain ⟨A14, c14, rfl, hc14, hr14⟩ := (hF14.own (i := 0) rfl).arg
       have hwr := ih vi ci w0 _ _ _ (O ++ (jQuote s ++ [58])) _ hsz.out hvri.out hsi.out hoki.out (by omega) hF14
       refine hwr.mono ?_
       rintro e w15 ⟨v15, l15, rfl, hl15, hF15⟩
       clear hwr
       go_wp2_with fail
       go_roundg (nk - (0 + 1))
       case rel => exact ⟨0 + 1, (O ++ (jQuote s ++ [58])) ++ jFull vi, l15, by omega, box rfl, by go_num, box (by rw [hstep.out, decide_eq_true (Nat.succ_pos _)]), by rw [List.length_append]; omega, hl15, hF15⟩
       case measure => have := hkf.out; omega
    ·have hin : nk = i := by omega
     subst hin
     have hend : Box (out ++ FU = P ++ [125]) := box (by
      rw [hfull.out, List.drop_of_length_le (l := ks) (by rw [hnk.out]; exact Nat.le_refl _), jFullL, List.append_nil])
     clear hfull hkf
     go_wp2_with (first | (with_reducible refine lsx (wp_fld1 hF uq3 rfl (by with_unfolding_all exact ⟨_, rfl, rfl⟩) rfl ?_)) | (with_reducible refine lsx (wp_fld1 hF uq48 rfl (by with_unfolding_all exact ⟨_, rfl, rfl⟩) rfl ?_)) | (with_reducible refine lsx (wp_fld1 hF uq49 rfl (by with_unfolding_all exact ⟨_, rfl, rfl⟩) rfl ?_)) | ((with_reducible refine lsx (wp_fbsl T_u8 hF (vs := [bv 125]) (by with_unfolding_all rfl) (by with_unfolding_all rfl) (by with_unfolding_all rfl) (by decide) (by simp [bv, Value.cells]) ?_)); intro w5 g5 hF5 hz5; have hr5 : Rd w5 (· < w5.heap.size) (some ⟨g5, 0, none⟩) 1 1 ([125].map bv) := hF5.rdOwn0; replace hF5 : Fr _ _ w5 (Ent.bytes _ 5 (.slice (some ⟨g5, 0, none⟩) 1 1) [125] :: _) := hF5) | ((with_reducible refine lsx (wp_fapp1 T_u8 hF5 (Nat.le_refl _) hr5 (by with_unfolding_all exact ⟨_, _, rfl, rfl, rfl⟩) (by omega) ?_)); intro v6 w6 hF6 hz6))
     go_ret
     refine ⟨_, _, rfl, box ⟨?_, ?_⟩, hF6.tail.drop1⟩
     ·rw [hend.out]; simp only [List.length_append, List.length_cons, List.length_nil]; omega
     ·rcases hO.out.2 with h | h
      ·left; rw [hend.out, h]
      ·right; simp only [List.length_append, List.length_cons, List.length_nil]; omega
end Go.Proofs.YtlhicfpmlncomaaGreatDoor

namespace Go.Proofs.YtlhicfpmlncomaaGreatDoor
open Go.RowKit
theorem wrap64_sub {a b : Nat} (h : b ≤ a) (ha : a ≤ 1000000000) : IntKind.i64.wrap ((a : Int) - (b : Int)) = ((a - b : Nat) : Int) := by
 simp [IntKind.wrap, IntKind.bits, IntKind.signed]
 split <;> omega
theorem wrap64_add {a b : Nat} (h : a + b ≤ 1000000000) : IntKind.i64.wrap ((a : Int) + (b : Int)) = ((a + b : Nat) : Int) := by
 simp [IntKind.wrap, IntKind.bits, IntKind.signed]
 split <;> omega
set_option maxRecDepth 20000 in
set_option maxHeartbeats 12800000 in
theorem rcount_any (N : Nat) : ∀ (v : JV) (cs : List Value) (w : World) (most : Nat), SizeOf.sizeOf v ≤ N → VRd w (· < w.heap.size) v cs → JSm v → most ≤ 1000000 → jTot v ≤ 10000000 →
  Calls Tryz.prog 38 #[.agg cs.toArray, .int .i64 (most : Int)] w fun e w' => e = .returned (.int .i64 (jCnt v most : Int)) ∧ Below w.heap.size w w' := by
 induction N with
 | zero => intro v _ _ _ h; cases v; simp only [JV.mk.sizeOf_spec] at h; omega
 | succ N ih =>
  intro v cs w most hN hv hsm hmost htot
  obtain ⟨k, n, t, ns, ks⟩ := v
  rw [VRd] at hv
  obtain ⟨An, nn, cn, Ak, nk, ck, xk, hcn, hck, rfl, hrn, hrk, hvk⟩ := hv
  rw [JSm] at hsm
  obtain ⟨hs1, hs2, hs3⟩ := hsm
  have hnk : ks.length = nk := by have := hrk.len; rw [hvk.len] at this; omega
  rw [hnk] at hs2
  replace hnk := box hnk
  replace hvk := box hvk
  clear hrn hs1
  obtain ⟨R, hR⟩ : ∃ R, R = jCnt (.mk k n t ns ks) most := ⟨_, rfl⟩
  rw [← hR]
  have hF0 := Fr.nil w
  rw [jTot] at htot
  rw [jCnt] at hR
  by_cases hk5 : 5 ≤ k
  ·rw [if_pos hk5] at hR htot
   have d5 : decide ((5 : Int) ≤ k) = true := decide_eq_true hk5
   replace hR := box hR
   replace hk5 := box hk5
   replace htot := box htot
   go_enter Tryz.func38, Tryz.ntmps38
   go_wp2_with (first | ((with_reducible refine lsx (wp_fbox hF0 (cs := (vlL k n ⟨t.toArray⟩ (.slice An nn cn) (.slice Ak nk ck))) rfl (by with_unfolding_all rfl) (by with_unfolding_all rfl) ?_)); intro w1 g1 hF1 hz1))
   clear hF0
   go_loopg [5, 6] nk (fun gk a s wr => ∃ (i m : Nat), i ≤ nk ∧ Box (gk = nk - i) ∧ a = .int .i64 (m : Int) ∧ s = .int .i64 (i : Int) ∧ Box (R = jCntL (ks.drop i) most m) ∧ Box (m + jTotL (ks.drop i) ≤ 10000000) ∧ Fr [] w wr [.blk g1 51 (vlL k n ⟨t.toArray⟩ (.slice An nn cn) (.slice Ak nk ck))])
   case atStart => exact ⟨0, 1, by omega, box rfl, rfl, rfl, hR, htot, hF1⟩
   case round =>
    clear hF1
    obtain ⟨i, m, hi, hk, rfl, rfl, hRi, hmT, hF⟩ := hrel
    have hm7 : m ≤ 10000000 := by have := hmT.out; omega
    by_cases hlt : i < nk
    ·obtain ⟨vi, hvi⟩ : ∃ vi, ks[i]? = some vi := ⟨ks[i]'(by rw [hnk.out]; exact hlt), by simp⟩
     by_cases hmm : m ≤ most
     ·obtain ⟨ci, hci, hvri⟩ := hvk.out.at hvi
      have hcil := box hvri.len
      replace hci := box hci
      have hsi := hs3.at hvi
      have htd := jTotL_drop hvi
      have hmt := hmT.out
      rw [htd] at hmt
      have hsz : SizeOf.sizeOf vi ≤ N := by have := JV.size_kid (k := k) (n := n) (t := t) (ns := ns) hvi; omega
      have hq2' := (jCnt_tot vi (most - m)).2.2.1
      have hRd := hRi.out
      rw [jCntL_drop hvi, if_pos hmm] at hRd
      have ihc' := fun w' (hb : Below w.heap.size w w') => ih vi ci w' (most - m) hsz (hvri.on hb) hsi (by omega) (by omega)
      obtain ⟨q, hq⟩ : ∃ q, q = jCnt vi (most - m) := ⟨_, rfl⟩
      rw [← hq] at hq2' hRd ihc'
      have ihc := box ihc'
      have hR2 := box hRd
      have hq2 : Box (m + q + jTotL (ks.drop (i + 1)) ≤ 10000000) := box (by omega)
      have hw1 := wrap64_sub hmm (by omega)
      have hw2 := wrap64_add (a := m) (b := q) (by omega)
      have d6 : decide ((m : Int) ≤ (most : Int)) = true := decide_eq_true (by omega)
      clear hRd ihc' hq2' hmt htd
      replace hvi := box hvi
      replace hvri := box hvri
      replace hsi := box hsi
      replace hs3 := box hs3
      replace hsz := box hsz
      replace hN := box hN
      replace hq := box hq
      have hrk' := hrk.below hF.below
      go_wp2_with (first | (with_reducible refine lsx (wp_fld0 hF uq49 rfl (by with_unfolding_all exact ⟨_, rfl, rfl⟩) rfl ?_)) | (with_reducible refine lsx (wp_fld0 hF uq3 rfl (by with_unfolding_all exact ⟨_, rfl, rfl⟩) rfl ?_)) | (with_reducible refine lsx (wp_indexAddr T_rvals hrk' (by with_unfolding_all exact ⟨_, _, _, _, rfl, rfl, rfl⟩) (by omega) (by omega) ?_)) | (with_reducible refine lsx (wp_loadA hrk' uq51 rfl (by with_unfolding_all exact ⟨_, rfl, rfl⟩) (ds := ci) (by rw [hcil.out]; kernel_rfl) (by rw [hcil.out]; with_unfolding_all exact hci.out) ?_)))
      refine (ihc.out _ hF.below).mono ?_
      rintro e w2 ⟨rfl, hb2⟩
      have hF2 := hF.call hb2
      go_wp2_with fail
      go_roundg (nk - (i + 1))
      case rel => exact ⟨i + 1, m + q, by omega, box rfl, by go_num, by go_num, hR2, hq2, hF2⟩
      case measure => have := hk.out; omega
     ·have d6 : decide ((m : Int) ≤ (most : Int)) = false := decide_eq_false (by omega)
      have hRd := hRi.out
      rw [jCntL_drop hvi, if_neg hmm] at hRd
      clear hRi
      replace hvi := box hvi
      replace hRd := box hRd
      go_wp2_with (first | (with_reducible refine lsx (wp_fld0 hF uq49 rfl (by with_unfolding_all exact ⟨_, rfl, rfl⟩) rfl ?_)) | (with_reducible refine lsx (wp_fld0 hF uq3 rfl (by with_unfolding_all exact ⟨_, rfl, rfl⟩) rfl ?_)))
      go_ret
      exact ⟨by rw [hRd.out]; rfl, hF.below⟩
    ·have hRd := hRi.out
     rw [List.drop_of_length_le (by rw [hnk.out]; omega), jCntL] at hRd
     clear hRi
     replace hRd := box hRd
     go_wp2_with (first | (with_reducible refine lsx (wp_fld0 hF uq49 rfl (by with_unfolding_all exact ⟨_, rfl, rfl⟩) rfl ?_)) | (with_reducible refine lsx (wp_fld0 hF uq3 rfl (by with_unfolding_all exact ⟨_, rfl, rfl⟩) rfl ?_)))
     go_ret
     exact ⟨by rw [hRd.out]; rfl, hF.below⟩
  ·rw [if_neg hk5] at hR
   have d5 : decide ((5 : Int) ≤ k) = false := decide_eq_false hk5
   replace hR := box hR
   replace hk5 := box hk5
   clear htot
   go_enter Tryz.func38, Tryz.ntmps38
   go_wp2_with (first | ((with_reducible refine lsx (wp_fbox hF0 (cs := (vlL k n ⟨t.toArray⟩ (.slice An nn cn) (.slice Ak nk ck))) rfl (by with_unfolding_all rfl) (by with_unfolding_all rfl) ?_)); intro w1 g1 hF1 hz1))
   clear hF0
   go_loopg [5, 6] 0 (fun gk a s wr => a = .int .i64 1 ∧ s = .int .i64 0 ∧ wr = w1)
   case atStart => exact ⟨rfl, rfl, rfl⟩
   case round =>
    obtain ⟨rfl, rfl, rfl⟩ := hrel
    by_cases hlt : 0 < nk
    ·by_cases hm1 : 1 ≤ most
     ·have e1 : decide ((1 : Int) ≤ (most : Int)) = true := decide_eq_true (by omega)
      go_wp2_with (first | (with_reducible refine lsx (wp_fld0 hF1 uq49 rfl (by with_unfolding_all exact ⟨_, rfl, rfl⟩) rfl ?_)) | (with_reducible refine lsx (wp_fld0 hF1 uq3 rfl (by with_unfolding_all exact ⟨_, rfl, rfl⟩) rfl ?_)))
      go_ret
      exact ⟨by rw [hR.out]; rfl, hF1.below⟩
     ·have e1 : decide ((1 : Int) ≤ (most : Int)) = false := decide_eq_false (by omega)
      go_wp2_with (first | (with_reducible refine lsx (wp_fld0 hF1 uq49 rfl (by with_unfolding_all exact ⟨_, rfl, rfl⟩) rfl ?_)) | (with_reducible refine lsx (wp_fld0 hF1 uq3 rfl (by with_unfolding_all exact ⟨_, rfl, rfl⟩) rfl ?_)))
      go_ret
      exact ⟨by rw [hR.out]; rfl, hF1.below⟩
    ·go_wp2_with (first | (with_reducible refine lsx (wp_fld0 hF1 uq49 rfl (by with_unfolding_all exact ⟨_, rfl, rfl⟩) rfl ?_)) | (with_reducible refine lsx (wp_fld0 hF1 uq3 rfl (by with_unfolding_all exact ⟨_, rfl, rfl⟩) rfl ?_)))
     go_ret
     exact ⟨by rw [hR.out]; rfl, hF1.below⟩
end Go.Proofs.YtlhicfpmlncomaaGreatDoor
