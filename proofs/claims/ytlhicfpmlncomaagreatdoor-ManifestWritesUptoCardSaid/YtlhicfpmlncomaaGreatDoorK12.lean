/-
 Layer 6: which values are right, in plain words; the walk of the program's right.
 Layer 6, plain: a member is smaller than the value.
 A text appended to bytes that the call owns, over a frame of known blocks. No program is named here.
 A sign of a text, by its place: the laws of the operation. No program is named here.
 Layer 6: what is written, in plain words; the walk of the program's quoted.
-/
import Derived.Test.YtlhicfpmlncomaaGreatDoorK11
import Derived.Test.YtlhicfpmlncomaaGreatDoorK02
import Derived.Test.YtlhicfpmlncomaaGreatDoorK01
import Derived.Test.YtlhicfpmlncomaaGreatDoorK04
import Derived.Lib.AppendStr
import Derived.Test.YtlhicfpmlncomaaGreatDoorK07
import Derived.Test.YtlhicfpmlncomaaGreatDoorK00
set_option linter.unusedSimpArgs false
set_option linter.unusedVariables false
namespace Go.Proofs.YtlhicfpmlncomaaGreatDoor
open Go.RowKit
def jRightL (f : JV → Nat → Option Nat) (obj : Bool) : List (List UInt8) → List (List UInt8) → List JV → Nat → Option Nat
 | _, _, [], m => some m
 | seen, ns, v :: vs, m =>
  if obj = true ∧ (Lib.validD (ns.headD []) = false ∨ ns.headD [] ∈ seen) then none else
   match f v m with
   | none => none
   | some m' => jRightL f obj (seen ++ [ns.headD []]) ns.tail vs m'
def jBad (k n : Int) (t : List UInt8) (m : Nat) : Prop := 4096 < m + 1 ∨ k < 0 ∨ 6 < k ∨ Lib.validD t = false ∨ 9007199254740991 < n ∨ n < -9007199254740991
instance (k n : Int) (t : List UInt8) (m : Nat) : Decidable (jBad k n t m) := by unfold jBad; exact inferInstance
def jRight : Nat → JV → Nat → Option Nat
 | 0, .mk k n t _ _, m => if jBad k n t m then none else if k < 5 then some (m + 1) else none
 | d + 1, .mk k n t ns ks, m => if jBad k n t m then none else if k < 5 then some (m + 1) else if k = 6 ∧ ns.length ≠ ks.length then none else jRightL (jRight d) (k == 6) [] ns ks (m + 1)
theorem jRight_bad {d : Nat} {k n : Int} {t : List UInt8} {ns : List (List UInt8)} {ks : List JV} {m : Nat} (h : jBad k n t m) : jRight d (.mk k n t ns ks) m = none := by
 cases d <;> (rw [jRight, if_pos h])
theorem jRight_leaf {d : Nat} {k n : Int} {t : List UInt8} {ns : List (List UInt8)} {ks : List JV} {m : Nat} (h : ¬ jBad k n t m) (hk : k < 5) : jRight d (.mk k n t ns ks) m = some (m + 1) := by
 cases d <;> (rw [jRight, if_neg h, if_pos hk])
theorem jRightL_le {f : JV → Nat → Option Nat} (hf : ∀ v m x, m ≤ 4096 → f v m = some x → x ≤ 4096) {obj : Bool} : ∀ {ks : List JV} {seen ns : List (List UInt8)} {m x : Nat}, m ≤ 4096 → jRightL f obj seen ns ks m = some x → x ≤ 4096
 | [], _, _, m, x, hm, h => by injection h with h; omega
 | v :: vs, seen, ns, m, x, hm, h => by
  rw [jRightL] at h
  split at h
  ·cases h
  ·cases hv : f v m with
   | none => rw [hv] at h; cases h
   | some m' => rw [hv] at h; exact jRightL_le hf (hf _ _ _ hm hv) h
theorem jRight_le : ∀ {d : Nat} (v : JV) (m x : Nat), m ≤ 4096 → jRight d v m = some x → x ≤ 4096
 | 0, .mk k n t ns ks, m, x, hm, h => by
  rw [jRight] at h
  split at h
  ·cases h
  ·rename_i hb
   have : ¬ 4096 < m + 1 := fun h => hb (.inl h)
   split at h
   ·injection h with h; omega
   ·cases h
 | d + 1, .mk k n t ns ks, m, x, hm, h => by
  rw [jRight] at h
  split at h
  ·cases h
  ·rename_i hb
   have : ¬ 4096 < m + 1 := fun h => hb (.inl h)
   split at h
   ·injection h with h; omega
   ·split at h
    ·cases h
    ·exact jRightL_le (fun v m x => jRight_le (d := d) v m x) (by omega) h
theorem spl1' (u v : Value) : spl [u] 0 [v] = [v] := rfl
def RightPost (w : World) (gi : Nat) (r : Option Nat) (e : Ending) (w' : World) : Prop :=
 ∃ m' : Nat, e = .returned (.bool r.isSome) ∧ (∀ x, r = some x → m' = x) ∧ Fr [gi] w w' [.blk gi 3 [.int .i64 (m' : Int)]]
theorem valid_ok {B : Nat} {w : World} (hL : LibsAt B w) (t : List UInt8) (ht : t.length ≤ 9223372036854775807) : Calls Tryz.prog 112 #[.string ⟨t.toArray⟩] w fun e w' => e = .returned (.bool (Lib.validD t)) ∧ Below w.heap.size w w' :=
 Any.utf8_ValidString Tryz.laysValid ⟨t.toArray⟩ w (by rw [str_mk_size]; exact ht) hL.tabs
set_option maxRecDepth 20000 in
set_option maxHeartbeats 12800000 in
theorem right_of (d deep : Nat) (w : World) (gi m B : Nat) (k n : Int) (t : List UInt8) (ns : List (List UInt8)) (ks : List JV) (An : Option Addr) (nn cn : Nat) (Ak : Option Addr) (nk ck : Nat) (hm : m ≤ 4096) (hL : LibsAt B w) (hh : w.heap[gi]? = some (.cells [.int .i64 (m : Int)].toArray 3 (0, 0))) (hg : B ≤ gi) (hB : B ≤ w.heap.size) (ht : t.length ≤ 9223372036854775807)
  (hdeep : ¬ jBad k n t m → (k = 5 ∨ k = 6) → Calls Tryz.prog 83 #[.agg (vlL k n ⟨t.toArray⟩ (.slice An nn cn) (.slice Ak nk ck)).toArray, .int .i64 (deep : Int), .pointer (some ⟨gi, 0, none⟩)] w (RightPost w gi (jRight d (.mk k n t ns ks) m))) :
  Calls Tryz.prog 83 #[.agg (vlL k n ⟨t.toArray⟩ (.slice An nn cn) (.slice Ak nk ck)).toArray, .int .i64 (deep : Int), .pointer (some ⟨gi, 0, none⟩)] w (RightPost w gi (jRight d (.mk k n t ns ks) m)) := by
 have hF0 := Fr.one hh
 have hvs := box (fun w' {es : List Ent} (hF : Fr [gi] w w' es) => valid_ok (hL.on (hF.belowG hg hB)) t ht)
 clear hh
 replace ht := box ht
 by_cases c1 : 4096 < m + 1
 ·have d1 : decide ((4096 : Int) < (m : Int) + 1) = true := decide_eq_true (by omega)
  have hjr : Box (jRight d (.mk k n t ns ks) m = none) := box (jRight_bad (.inl c1))
  replace c1 := box c1
  go_enter Tryz.func83, Tryz.ntmps83
  go_wp2_with (first | ((with_reducible refine lsx (wp_fbox hF0 (cs := (vlL k n ⟨t.toArray⟩ (.slice An nn cn) (.slice Ak nk ck))) rfl (by with_unfolding_all rfl) (by with_unfolding_all rfl) ?_)); intro w1 g1 hF1 hz1) | (with_reducible refine lsx (wp_fld1 hF1 uq3 rfl (by with_unfolding_all exact ⟨_, rfl, rfl⟩) rfl ?_)) | ((with_reducible refine lsx (wp_fst1 hF1 (by with_unfolding_all exact ⟨_, _, rfl, rfl, rfl⟩) (by kernel_rfl) rfl rfl (by first | decide | (simp; done) | (simp; omega)) (spl1' _ (.int .i64 ((m : Int) + 1))) ?_)); intro w2 hF2 hz2) | (with_reducible refine lsx (wp_fld1 hF2 uq3 rfl (by with_unfolding_all exact ⟨_, rfl, rfl⟩) rfl ?_)) | (with_reducible refine lsx (wp_fld0 hF2 uq3 rfl (by with_unfolding_all exact ⟨_, rfl, rfl⟩) rfl ?_)) | (with_reducible refine lsx (wp_fld0 hF2 uq9 rfl (by with_unfolding_all exact ⟨_, rfl, rfl⟩) rfl ?_)))
  go_ret
  exact ⟨m + 1, by rw [hjr.out]; rfl, (fun x h => by rw [hjr.out] at h; cases h), hF2.tail⟩
 ·have d1 : decide ((4096 : Int) < (m : Int) + 1) = false := decide_eq_false (by omega)
  by_cases c2 : k < 0
  ·have d2 : decide (k < 0) = true := decide_eq_true c2
   have hjr : Box (jRight d (.mk k n t ns ks) m = none) := box (jRight_bad (.inr (.inl c2)))
   replace c1 := box c1
   replace c2 := box c2
   go_enter Tryz.func83, Tryz.ntmps83
   go_wp2_with (first | ((with_reducible refine lsx (wp_fbox hF0 (cs := (vlL k n ⟨t.toArray⟩ (.slice An nn cn) (.slice Ak nk ck))) rfl (by with_unfolding_all rfl) (by with_unfolding_all rfl) ?_)); intro w1 g1 hF1 hz1) | (with_reducible refine lsx (wp_fld1 hF1 uq3 rfl (by with_unfolding_all exact ⟨_, rfl, rfl⟩) rfl ?_)) | ((with_reducible refine lsx (wp_fst1 hF1 (by with_unfolding_all exact ⟨_, _, rfl, rfl, rfl⟩) (by kernel_rfl) rfl rfl (by first | decide | (simp; done) | (simp; omega)) (spl1' _ (.int .i64 ((m : Int) + 1))) ?_)); intro w2 hF2 hz2) | (with_reducible refine lsx (wp_fld1 hF2 uq3 rfl (by with_unfolding_all exact ⟨_, rfl, rfl⟩) rfl ?_)) | (with_reducible refine lsx (wp_fld0 hF2 uq3 rfl (by with_unfolding_all exact ⟨_, rfl, rfl⟩) rfl ?_)) | (with_reducible refine lsx (wp_fld0 hF2 uq9 rfl (by with_unfolding_all exact ⟨_, rfl, rfl⟩) rfl ?_)))
   go_ret
   exact ⟨m + 1, by rw [hjr.out]; rfl, (fun x h => by rw [hjr.out] at h; cases h), hF2.tail⟩
  ·have d2 : decide (k < 0) = false := decide_eq_false c2
   by_cases c3 : 6 < k
   ·have d3 : decide ((6 : Int) < k) = true := decide_eq_true c3
    have hjr : Box (jRight d (.mk k n t ns ks) m = none) := box (jRight_bad (.inr (.inr (.inl c3))))
    replace c1 := box c1
    replace c2 := box c2
    replace c3 := box c3
    go_enter Tryz.func83, Tryz.ntmps83
    go_wp2_with (first | ((with_reducible refine lsx (wp_fbox hF0 (cs := (vlL k n ⟨t.toArray⟩ (.slice An nn cn) (.slice Ak nk ck))) rfl (by with_unfolding_all rfl) (by with_unfolding_all rfl) ?_)); intro w1 g1 hF1 hz1) | (with_reducible refine lsx (wp_fld1 hF1 uq3 rfl (by with_unfolding_all exact ⟨_, rfl, rfl⟩) rfl ?_)) | ((with_reducible refine lsx (wp_fst1 hF1 (by with_unfolding_all exact ⟨_, _, rfl, rfl, rfl⟩) (by kernel_rfl) rfl rfl (by first | decide | (simp; done) | (simp; omega)) (spl1' _ (.int .i64 ((m : Int) + 1))) ?_)); intro w2 hF2 hz2) | (with_reducible refine lsx (wp_fld1 hF2 uq3 rfl (by with_unfolding_all exact ⟨_, rfl, rfl⟩) rfl ?_)) | (with_reducible refine lsx (wp_fld0 hF2 uq3 rfl (by with_unfolding_all exact ⟨_, rfl, rfl⟩) rfl ?_)) | (with_reducible refine lsx (wp_fld0 hF2 uq9 rfl (by with_unfolding_all exact ⟨_, rfl, rfl⟩) rfl ?_)))
    go_ret
    exact ⟨m + 1, by rw [hjr.out]; rfl, (fun x h => by rw [hjr.out] at h; cases h), hF2.tail⟩
   ·have d3 : decide ((6 : Int) < k) = false := decide_eq_false c3
    cases hvt : Lib.validD t with
    | false =>
     have hjr : Box (jRight d (.mk k n t ns ks) m = none) := box (jRight_bad (.inr (.inr (.inr (.inl hvt)))))
     rw [hvt] at hvs
     replace c1 := box c1
     replace c2 := box c2
     replace c3 := box c3
     replace hvt := box hvt
     go_enter Tryz.func83, Tryz.ntmps83
     go_wp2_with (first | ((with_reducible refine lsx (wp_fbox hF0 (cs := (vlL k n ⟨t.toArray⟩ (.slice An nn cn) (.slice Ak nk ck))) rfl (by with_unfolding_all rfl) (by with_unfolding_all rfl) ?_)); intro w1 g1 hF1 hz1) | (with_reducible refine lsx (wp_fld1 hF1 uq3 rfl (by with_unfolding_all exact ⟨_, rfl, rfl⟩) rfl ?_)) | ((with_reducible refine lsx (wp_fst1 hF1 (by with_unfolding_all exact ⟨_, _, rfl, rfl, rfl⟩) (by kernel_rfl) rfl rfl (by first | decide | (simp; done) | (simp; omega)) (spl1' _ (.int .i64 ((m : Int) + 1))) ?_)); intro w2 hF2 hz2) | (with_reducible refine lsx (wp_fld1 hF2 uq3 rfl (by with_unfolding_all exact ⟨_, rfl, rfl⟩) rfl ?_)) | (with_reducible refine lsx (wp_fld0 hF2 uq3 rfl (by with_unfolding_all exact ⟨_, rfl, rfl⟩) rfl ?_)) | (with_reducible refine lsx (wp_fld0 hF2 uq9 rfl (by with_unfolding_all exact ⟨_, rfl, rfl⟩) rfl ?_)))
     refine (hvs.out _ hF2).mono ?_
     rintro e w3 ⟨rfl, hb3⟩
     have hF3 := hF2.call hb3
     go_wp2_with (first | (with_reducible refine lsx (wp_fld0 hF3 uq3 rfl (by with_unfolding_all exact ⟨_, rfl, rfl⟩) rfl ?_)))
     go_ret
     exact ⟨m + 1, by rw [hjr.out]; rfl, (fun x h => by rw [hjr.out] at h; cases h), hF3.tail⟩
    | true =>
     rw [hvt] at hvs
     by_cases c4 : 9007199254740991 < n
     ·have d4 : decide ((9007199254740991 : Int) < n) = true := decide_eq_true c4
      have hjr : Box (jRight d (.mk k n t ns ks) m = none) := box (jRight_bad (.inr (.inr (.inr (.inr (.inl c4))))))
      replace c1 := box c1
      replace c2 := box c2
      replace c3 := box c3
      replace c4 := box c4
      replace hvt := box hvt
      go_enter Tryz.func83, Tryz.ntmps83
      go_wp2_with (first | ((with_reducible refine lsx (wp_fbox hF0 (cs := (vlL k n ⟨t.toArray⟩ (.slice An nn cn) (.slice Ak nk ck))) rfl (by with_unfolding_all rfl) (by with_unfolding_all rfl) ?_)); intro w1 g1 hF1 hz1) | (with_reducible refine lsx (wp_fld1 hF1 uq3 rfl (by with_unfolding_all exact ⟨_, rfl, rfl⟩) rfl ?_)) | ((with_reducible refine lsx (wp_fst1 hF1 (by with_unfolding_all exact ⟨_, _, rfl, rfl, rfl⟩) (by kernel_rfl) rfl rfl (by first | decide | (simp; done) | (simp; omega)) (spl1' _ (.int .i64 ((m : Int) + 1))) ?_)); intro w2 hF2 hz2) | (with_reducible refine lsx (wp_fld1 hF2 uq3 rfl (by with_unfolding_all exact ⟨_, rfl, rfl⟩) rfl ?_)) | (with_reducible refine lsx (wp_fld0 hF2 uq3 rfl (by with_unfolding_all exact ⟨_, rfl, rfl⟩) rfl ?_)) | (with_reducible refine lsx (wp_fld0 hF2 uq9 rfl (by with_unfolding_all exact ⟨_, rfl, rfl⟩) rfl ?_)))
      refine (hvs.out _ hF2).mono ?_
      rintro e w3 ⟨rfl, hb3⟩
      have hF3 := hF2.call hb3
      go_wp2_with (first | (with_reducible refine lsx (wp_fld0 hF3 uq3 rfl (by with_unfolding_all exact ⟨_, rfl, rfl⟩) rfl ?_)))
      go_ret
      exact ⟨m + 1, by rw [hjr.out]; rfl, (fun x h => by rw [hjr.out] at h; cases h), hF3.tail⟩
     ·have d4 : decide ((9007199254740991 : Int) < n) = false := decide_eq_false c4
      by_cases c5 : n < -9007199254740991
      ·have d5 : decide (n < (-9007199254740991 : Int)) = true := decide_eq_true c5
       have hjr : Box (jRight d (.mk k n t ns ks) m = none) := box (jRight_bad (.inr (.inr (.inr (.inr (.inr c5))))))
       replace c1 := box c1
       replace c2 := box c2
       replace c3 := box c3
       replace c4 := box c4
       replace c5 := box c5
       replace hvt := box hvt
       go_enter Tryz.func83, Tryz.ntmps83
       go_wp2_with (first | ((with_reducible refine lsx (wp_fbox hF0 (cs := (vlL k n ⟨t.toArray⟩ (.slice An nn cn) (.slice Ak nk ck))) rfl (by with_unfolding_all rfl) (by with_unfolding_all rfl) ?_)); intro w1 g1 hF1 hz1) | (with_reducible refine lsx (wp_fld1 hF1 uq3 rfl (by with_unfolding_all exact ⟨_, rfl, rfl⟩) rfl ?_)) | ((with_reducible refine lsx (wp_fst1 hF1 (by with_unfolding_all exact ⟨_, _, rfl, rfl, rfl⟩) (by kernel_rfl) rfl rfl (by first | decide | (simp; done) | (simp; omega)) (spl1' _ (.int .i64 ((m : Int) + 1))) ?_)); intro w2 hF2 hz2) | (with_reducible refine lsx (wp_fld1 hF2 uq3 rfl (by with_unfolding_all exact ⟨_, rfl, rfl⟩) rfl ?_)) | (with_reducible refine lsx (wp_fld0 hF2 uq3 rfl (by with_unfolding_all exact ⟨_, rfl, rfl⟩) rfl ?_)) | (with_reducible refine lsx (wp_fld0 hF2 uq9 rfl (by with_unfolding_all exact ⟨_, rfl, rfl⟩) rfl ?_)))
       refine (hvs.out _ hF2).mono ?_
       rintro e w3 ⟨rfl, hb3⟩
       have hF3 := hF2.call hb3
       go_wp2_with (first | (with_reducible refine lsx (wp_fld0 hF3 uq3 rfl (by with_unfolding_all exact ⟨_, rfl, rfl⟩) rfl ?_)))
       go_ret
       exact ⟨m + 1, by rw [hjr.out]; rfl, (fun x h => by rw [hjr.out] at h; cases h), hF3.tail⟩
      ·have d5 : decide (n < (-9007199254740991 : Int)) = false := decide_eq_false c5
       have hnb : ¬ jBad k n t m := by unfold jBad; rw [hvt]; simp only [Bool.true_eq_false, false_or]; omega
       by_cases c6 : k < 5
       ·have d6 : decide (k < 5) = true := decide_eq_true c6
        have hjr : Box (jRight d (.mk k n t ns ks) m = some (m + 1)) := box (jRight_leaf hnb c6)
        replace c1 := box c1
        replace c2 := box c2
        replace c3 := box c3
        replace c4 := box c4
        replace c5 := box c5
        replace c6 := box c6
        replace hvt := box hvt
        replace hnb := box hnb
        go_enter Tryz.func83, Tryz.ntmps83
        go_wp2_with (first | ((with_reducible refine lsx (wp_fbox hF0 (cs := (vlL k n ⟨t.toArray⟩ (.slice An nn cn) (.slice Ak nk ck))) rfl (by with_unfolding_all rfl) (by with_unfolding_all rfl) ?_)); intro w1 g1 hF1 hz1) | (with_reducible refine lsx (wp_fld1 hF1 uq3 rfl (by with_unfolding_all exact ⟨_, rfl, rfl⟩) rfl ?_)) | ((with_reducible refine lsx (wp_fst1 hF1 (by with_unfolding_all exact ⟨_, _, rfl, rfl, rfl⟩) (by kernel_rfl) rfl rfl (by first | decide | (simp; done) | (simp; omega)) (spl1' _ (.int .i64 ((m : Int) + 1))) ?_)); intro w2 hF2 hz2) | (with_reducible refine lsx (wp_fld1 hF2 uq3 rfl (by with_unfolding_all exact ⟨_, rfl, rfl⟩) rfl ?_)) | (with_reducible refine lsx (wp_fld0 hF2 uq3 rfl (by with_unfolding_all exact ⟨_, rfl, rfl⟩) rfl ?_)) | (with_reducible refine lsx (wp_fld0 hF2 uq9 rfl (by with_unfolding_all exact ⟨_, rfl, rfl⟩) rfl ?_)))
        refine (hvs.out _ hF2).mono ?_
        rintro e w3 ⟨rfl, hb3⟩
        have hF3 := hF2.call hb3
        go_wp2_with (first | (with_reducible refine lsx (wp_fld0 hF3 uq3 rfl (by with_unfolding_all exact ⟨_, rfl, rfl⟩) rfl ?_)))
        go_ret
        exact ⟨m + 1, by rw [hjr.out]; rfl, (fun x h => by rw [hjr.out] at h; injection h), hF3.tail⟩
       ·have d6 : decide (k < 5) = false := decide_eq_false c6
        exact hdeep hnb (by omega)
end Go.Proofs.YtlhicfpmlncomaaGreatDoor

namespace Go.Proofs.YtlhicfpmlncomaaGreatDoor
theorem JV.size_kid {k n : Int} {t : List UInt8} {ns : List (List UInt8)} {ks : List JV} {v : JV} {i : Nat} (h : ks[i]? = some v) : SizeOf.sizeOf v < SizeOf.sizeOf (JV.mk k n t ns ks) := by
 have := List.sizeOf_lt_of_mem (List.mem_of_getElem? h)
 simp only [JV.mk.sizeOf_spec]
 omega
end Go.Proofs.YtlhicfpmlncomaaGreatDoor

namespace Go.Proofs.YtlhicfpmlncomaaGreatDoor
open Go.RowKit
section
variable {P : Program} {w : World}
theorem run_appS {t u e ty : TypeId} (T : SlT P t e 1 1 (.int .u8 0)) (hu : P.underlying u = some .string) {base : Nat} {v : Value} {l : List UInt8} (hown : w.ownsRow base e 1 v l.length (l.map bv)) (s : ByteArray)
  (hroom : l.length + s.size ≤ 140737488355328) (hbase : base ≤ w.heap.size) :
  ∃ v' w', (Builtin.append_ #[t, u] ty #[v, .string s]).run P w = .ok v' w' ∧ w'.ownsRow base e 1 v' (l ++ s.data.toList).length ((l ++ s.data.toList).map bv) ∧ w.grownBy w' v.ownBlock ∧ (v'.ownBlock = v.ownBlock ∨ v'.ownBlock = some w.heap.size) := by
 obtain ⟨i, hi, hz, hs, hb⟩ := info_parts T.info
 have hsl : s.data.toList.length = s.size := str_len s
 obtain ⟨v', w', hrun, h2, h3, h4⟩ := Lib.run_append_own_string (P := P) (w := w) base t u ty e i T.und hu hi hz hs hb v l.length (l.map bv) hown s (by unfold maxLen; omega) hroom hbase
 have e1 : l.map bv ++ Lib.strCells s = (l ++ s.data.toList).map bv := by rw [List.map_append]; rfl
 have e2 : l.length + s.size = (l ++ s.data.toList).length := by rw [List.length_append, hsl]
 rw [e1, e2] at h2
 refine ⟨v', w', hrun, h2, h3, ?_⟩
 rcases hown.2 with ⟨rfl, hn⟩ | ⟨g, cap, cur, rfl, hbg, hg, hnc, hcm, hcs, htake⟩
 ·by_cases hm : s.size = 0
  ·rw [h4.2 ⟨rfl, hm⟩]; exact .inl rfl
  ·have hr := run_append_nil_string (P := P) (w := w) t u ty e i (.int .u8 0) T.und hu hi hz s (by omega) (by omega) (by rw [hb]; omega)
   rw [hr] at hrun
   injection hrun with hv _
   rw [← hv]; exact .inr rfl
 ·by_cases hro : l.length + s.size ≤ cap
  ·have hr := Lib.run_append_room_string (P := P) (w := w) t u ty e i T.und hu hi hs g l.length cap cur hg s hro (by rw [hcs]; omega)
   rw [hr] at hrun
   injection hrun with hv _
   rw [← hv]; exact .inl rfl
  ·have holds : ∀ j u, (l.map bv)[j]? = some u → w.cell? ((⟨g, 0, none⟩ : Addr).add j) = some u := hown.cells (g := g) rfl
   have hr := Lib.run_append_grow_string (P := P) (w := w) t u ty e i (.int .u8 0) T.und hu hi hz ⟨g, 0, none⟩ l.length cap (l.map bv) (by rw [hs]; simp) holds s (by omega) (by omega) (by rw [hb]; exact growslice_fits (by omega) (by omega))
   rw [hr] at hrun
   injection hrun with hv _
   rw [← hv]; exact .inr rfl
def IsAppS (o : Oper) (a : Act) (t u : TypeId) (v xv : Value) : Prop := ∃ s x, o.op = .call { callee := .builtin .append, args := #[s, x], argTypes := #[t, u] } ∧ a.eval s = v ∧ a.eval x = xv
theorem wp_fappS {o : Oper} {a : Act} {X : List Nat} {w0 : World} {es : List Ent} {K : Act → World → Prop} {Q : Exit → Act → World → Prop} {sl u e : TypeId} (T : SlT P sl e 1 1 (.int .u8 0)) (hu : P.underlying u = some .string) (hF : Fr X w0 w es) {i b : Nat} {v : Value} {l : List UInt8} (hi : es[i]? = some (.bytes b e v l)) (hb : b ≤ w0.heap.size)
  {s : ByteArray} (ho : IsAppS o a sl u v (.string s)) (hroom : l.length + s.size ≤ 140737488355328)
  (k : ∀ v' w', Fr X w0 w' (es.set i (.bytes b e v' (l ++ s.data.toList))) → w.heap.size ≤ w'.heap.size → K (a.put o.dst v') w') : o.wp P a w K Q := by
 have hown := hF.own hi
 have hbw : b ≤ w.heap.size := Nat.le_trans hb hF.size
 obtain ⟨p, x, ho, hp, hx⟩ := ho
 obtain ⟨v', w', hrun, h2, h3, h4⟩ := run_appS (ty := o.type) T hu hown.own s hroom hbw
 unfold Oper.wp execOp
 simp only [ho, resolve, invoke, builtin, Sem.run_bind, Sem.run_pure, Result.andThen_ok, List.map_toArray, List.map_cons, List.map_nil, hp, hx, hrun]
 refine k v' w' (hF.put hi h3 h2 (h4.imp id fun h b hb => ?_)) h3.size
 have hb : v'.ownBlock = some b := hb
 rw [h] at hb; injection hb with hb; omega
end
end Go.Proofs.YtlhicfpmlncomaaGreatDoor

namespace Go.Proofs.YtlhicfpmlncomaaGreatDoor
open Go.RowKit
theorem run_sidx {P : Program} {t : TypeId} (ht : P.underlying t = some .string) {s : ByteArray} {kd : IntKind} {j : Int} {k : Nat} {c : UInt8} (hj : j = (k : Int)) (hc : s.data.toList[k]? = some c) (w : World) : (Instr.index t (.string s) (.int kd j)).run P w = .ok (.int .u8 (c.toNat : Int)) w := by
 subst hj
 have hk : k < s.data.toList.length := (List.getElem?_eq_some_iff.1 hc).1
 have hk2 : k < s.size := by rw [← str_len s]; exact hk
 have he : s[k]'hk2 = c := by
  have := (List.getElem?_eq_some_iff.1 hc).2
  rw [← this]
  rfl
 rw [run_index_string w t s kd _ ht, dif_pos ⟨by omega, by omega⟩]
 simp only [Int.toNat_natCast, he]
theorem wp_sidx {P : Program} {o : Oper} {a : Act} {w : World} {K : Act → World → Prop} {Q : Exit → Act → World → Prop} {t : TypeId} (ht : P.underlying t = some .string) {s : ByteArray} {j : Int} {k : Nat} {c : UInt8} (hj : j = (k : Int)) (hc : s.data.toList[k]? = some c)
  (ho : ∃ x i kd, o.op = .index t x i ∧ a.eval x = .string s ∧ a.eval i = .int kd j) (hK : K (a.put o.dst (.int .u8 (c.toNat : Int))) w) : o.wp P a w K Q := by
 obtain ⟨x, i, kd, ho, hx, hi⟩ := ho
 refine wp_run (v := .int .u8 (c.toNat : Int)) (w' := w) ?_ hK
 unfold execOp
 simp [ho, hx, hi, run_sidx ht hj hc]
theorem yi_sidx {P : Program} {S : World → Prop} {ops : Array Oper} {o : Oper} {a : Act} (hw : Region.wanted o (yielded ops a.tmps) = true) {t : TypeId} (ht : P.underlying t = some .string) {s : ByteArray} {j : Int} {k : Nat} {c : UInt8} (hj : j = (k : Int)) (hc : s.data.toList[k]? = some c)
  (ho : ∃ x i kd, o.op = .index t x i ∧ a.eval x = .string s ∧ a.eval i = .int kd j) : YieldsIf P ops S o (.int .u8 (c.toNat : Int)) a := by
 obtain ⟨x, i, kd, ho, hx, hi⟩ := ho
 refine .inl ⟨hw, fun w _ => ?_⟩
 unfold execOp
 simp [ho, hx, hi, run_sidx ht hj hc]
end Go.Proofs.YtlhicfpmlncomaaGreatDoor

namespace Go.Proofs.YtlhicfpmlncomaaGreatDoor
open Go.RowKit
def jHexD (n : Nat) : UInt8 := if n < 10 then UInt8.ofNat (48 + n) else UInt8.ofNat (87 + n)
def jQc (c : UInt8) : List UInt8 :=
 if c = 34 ∨ c = 92 then [92, c]
 else if c = 8 then [92, 98]
 else if c = 9 then [92, 116]
 else if c = 10 then [92, 110]
 else if c = 12 then [92, 102]
 else if c = 13 then [92, 114]
 else if c.toNat < 32 then [92, 117, 48, 48, jHexD (c.toNat / 16), jHexD (c.toNat % 16)]
 else [c]
def jQuote (s : List UInt8) : List UInt8 := [34] ++ s.flatMap jQc ++ [34]
theorem jQc_len (c : UInt8) : (jQc c).length ≤ 6 := by
 unfold jQc
 repeat' split
 all_goals simp
theorem jQs_len : ∀ (s : List UInt8), (s.flatMap jQc).length ≤ 6 * s.length
 | [] => Nat.le_refl _
 | c :: s => by
  rw [List.flatMap_cons, List.length_append, List.length_cons]
  have := jQc_len c
  have := jQs_len s
  omega
theorem jQuote_len (s : List UInt8) : (jQuote s).length ≤ 6 * s.length + 2 := by
 have := jQs_len s
 unfold jQuote
 simp only [List.length_append, List.length_cons, List.length_nil]
 omega
theorem u8_shr4 (y : UInt8) : (y.toNat : Int) / 16 = ((y.toNat / 16 : Nat) : Int) := by omega
theorem and15_all : ∀ n : Fin 256, bits BinOp.and IntKind.u8 ((n.val : Nat) : Int) 15 = ((n.val % 16 : Nat) : Int) := by decide +kernel
theorem u8_and15 (y : UInt8) : bits BinOp.and IntKind.u8 (y.toNat : Int) 15 = ((y.toNat % 16 : Nat) : Int) := and15_all ⟨y.toNat, y.toNat_lt⟩
theorem jhex_at : ∀ n, n < 16 → ([48, 49, 50, 51, 52, 53, 54, 55, 56, 57, 97, 98, 99, 100, 101, 102] : List UInt8)[n]? = some (jHexD n) := by decide +kernel
set_option maxRecDepth 20000 in
set_option maxHeartbeats 12800000 in
theorem quoted_any (X : List Nat) (w0 w : World) (A : Option Addr) (c : Nat) (out : List UInt8) (rest : List Ent) (s : ByteArray) (hroom : out.length + 6 * s.size ≤ 140737488000000)
  (hF : Fr X w0 w (Ent.bytes w0.heap.size 5 (.slice A out.length c) out :: rest)) :
  Calls Tryz.prog 116 #[.slice A out.length c, .string s] w fun e w' => ∃ v, e = .returned v ∧ Fr X w0 w' (Ent.bytes w0.heap.size 5 v (out ++ jQuote s.data.toList) :: rest) := by
 have hsl : s.data.toList.length = s.size := str_len s
 replace hsl := box hsl
 go_enter Tryz.func116, Tryz.ntmps116
 go_wp2_with (first | ((with_reducible refine lsx (wp_fbsl T_u8 hF (vs := [bv 34]) (by with_unfolding_all rfl) (by with_unfolding_all rfl) (by with_unfolding_all rfl) (by decide) (by simp [bv, Value.cells]) ?_)); intro w1 g1 hF1 hz1; have hr1 : Rd w1 (· < w1.heap.size) (some ⟨g1, 0, none⟩) 1 1 ([34].map bv) := hF1.rdOwn0; replace hF1 : Fr _ _ w1 (Ent.bytes _ 5 (.slice (some ⟨g1, 0, none⟩) 1 1) [34] :: _) := hF1) | ((with_reducible refine lsx (wp_fapp1 T_u8 hF1 (Nat.le_refl _) hr1 (by with_unfolding_all exact ⟨_, _, rfl, rfl, rfl⟩) (by omega) ?_)); intro v2 w2 hF2 hz2))
 have hF3 := hF2.tail
 clear hF hF1 hF2
 go_loopg [0, 12] s.size (fun k v i wr => ∃ (j : Nat) (O : List UInt8), j ≤ s.size ∧ Box (k = s.size - j) ∧ i = .int .i64 (j : Int) ∧ O.length ≤ out.length + 1 + 6 * j ∧ Box (out ++ jQuote s.data.toList = O ++ (s.data.toList.drop j).flatMap jQc ++ [34]) ∧ Fr X w0 wr (Ent.bytes w0.heap.size 5 v O :: rest))
 case atStart => exact ⟨0, _, by omega, box rfl, rfl, by simp, box (by simp [jQuote]), hF3⟩
 case round =>
  clear hF3
  obtain ⟨j, O, hj, hk, rfl, hO, hQ, hF⟩ := hrel
  have hkf : Box (gk = s.size - j) := hk
  clear hk
  obtain ⟨Ao, co, rfl, hco, hro⟩ := (hF.own (i := 0) rfl).arg
  by_cases hlt : j < s.size
  ·obtain ⟨y, hy⟩ : ∃ y, s.data.toList[j]? = some y := ⟨s.data.toList[j]'(by rw [hsl.out]; exact hlt), by simp⟩
   have hdr : s.data.toList.drop j = y :: s.data.toList.drop (j + 1) := by
    rw [List.drop_eq_getElem_cons (by rw [hsl.out]; exact hlt), (List.getElem?_eq_some_iff.1 hy).2]
   have hyb := y.toNat_lt
   have hsj : s[j] = y := (List.getElem?_eq_some_iff.1 hy).2
   have hgo : Box (out ++ jQuote s.data.toList = O ++ jQc y ++ (s.data.toList.drop (j + 1)).flatMap jQc ++ [34]) := box (by rw [hQ.out, hdr, List.flatMap_cons]; simp)
   have hql := jQc_len y
   have hO2 : (O ++ jQc y).length ≤ out.length + 1 + 6 * (j + 1) := by rw [List.length_append]; omega
   replace hO2 := box hO2
   clear hy hdr hQ hql
   by_cases hy34 : y = 34
   ·subst hy34
    replace hgo : Box (out ++ jQuote s.data.toList = O ++ [92, 34] ++ (s.data.toList.drop (j + 1)).flatMap jQc ++ [34]) := hgo
    replace hO2 : Box ((O ++ [92, 34]).length ≤ out.length + 1 + 6 * (j + 1)) := hO2
    go_wp2_with (first | ((with_reducible refine lsx (wp_fbsl T_u8 hF (vs := [bv 92, bv 34]) (by with_unfolding_all rfl) (by with_unfolding_all rfl) (by with_unfolding_all rfl) (by decide) (by simp [bv, Value.cells]) ?_)); intro w1 g1 hF1 hz1; have hr1 : Rd w1 (· < w1.heap.size) (some ⟨g1, 0, none⟩) 1 2 (([92,34] : List UInt8).map bv) := hF1.rdOwn (i := 0) rfl) | ((with_reducible refine lsx (wp_fapp1 T_u8 hF1 (Nat.le_refl _) hr1 (by with_unfolding_all exact ⟨_, _, rfl, rfl, rfl⟩) (by omega) ?_)); intro v2 w2 hF2 hz2))
    go_roundg (s.size - (j + 1))
    case rel => exact ⟨j + 1, O ++ [92, 34], by omega, box rfl, by go_num, hO2.out, hgo, hF2.tail⟩
    case measure => have := hkf.out; omega
   ·have n34 : ((y.toNat : Int) == 34) = false := u8_ne hy34
    by_cases hy92 : y = 92
    ·subst hy92
     replace hgo : Box (out ++ jQuote s.data.toList = O ++ [92, 92] ++ (s.data.toList.drop (j + 1)).flatMap jQc ++ [34]) := hgo
     replace hO2 : Box ((O ++ [92, 92]).length ≤ out.length + 1 + 6 * (j + 1)) := hO2
     go_wp2_with (first | ((with_reducible refine lsx (wp_fbsl T_u8 hF (vs := [bv 92, bv 92]) (by with_unfolding_all rfl) (by with_unfolding_all rfl) (by with_unfolding_all rfl) (by decide) (by simp [bv, Value.cells]) ?_)); intro w1 g1 hF1 hz1; have hr1 : Rd w1 (· < w1.heap.size) (some ⟨g1, 0, none⟩) 1 2 (([92,92] : List UInt8).map bv) := hF1.rdOwn (i := 0) rfl) | ((with_reducible refine lsx (wp_fapp1 T_u8 hF1 (Nat.le_refl _) hr1 (by with_unfolding_all exact ⟨_, _, rfl, rfl, rfl⟩) (by omega) ?_)); intro v2 w2 hF2 hz2))
     go_roundg (s.size - (j + 1))
     case rel => exact ⟨j + 1, O ++ [92, 92], by omega, box rfl, by go_num, hO2.out, hgo, hF2.tail⟩
     case measure => have := hkf.out; omega
    ·have n92 : ((y.toNat : Int) == 92) = false := u8_ne hy92
     by_cases hy8 : y = 8
     ·subst hy8
      replace hgo : Box (out ++ jQuote s.data.toList = O ++ [92, 98] ++ (s.data.toList.drop (j + 1)).flatMap jQc ++ [34]) := hgo
      replace hO2 : Box ((O ++ [92, 98]).length ≤ out.length + 1 + 6 * (j + 1)) := hO2
      go_wp2_with (first | ((with_reducible refine lsx (wp_fappS T_u8 uq9 hF (i := 0) rfl (Nat.le_refl _) (by with_unfolding_all exact ⟨_, _, rfl, rfl, rfl⟩) (by rw [show (⟨#[92, 98]⟩ : ByteArray).size = 2 from rfl]; omega) ?_)); intro v2 w2 hF2 hz2; simp only [zZ, zN] at hF2))
      go_roundg (s.size - (j + 1))
      case rel => exact ⟨j + 1, O ++ [92, 98], by omega, box rfl, by go_num, hO2.out, hgo, hF2⟩
      case measure => have := hkf.out; omega
     ·have n8 : ((y.toNat : Int) == 8) = false := u8_ne hy8
      by_cases hy9 : y = 9
      ·subst hy9
       replace hgo : Box (out ++ jQuote s.data.toList = O ++ [92, 116] ++ (s.data.toList.drop (j + 1)).flatMap jQc ++ [34]) := hgo
       replace hO2 : Box ((O ++ [92, 116]).length ≤ out.length + 1 + 6 * (j + 1)) := hO2
       go_wp2_with (first | ((with_reducible refine lsx (wp_fappS T_u8 uq9 hF (i := 0) rfl (Nat.le_refl _) (by with_unfolding_all exact ⟨_, _, rfl, rfl, rfl⟩) (by rw [show (⟨#[92, 116]⟩ : ByteArray).size = 2 from rfl]; omega) ?_)); intro v2 w2 hF2 hz2; simp only [zZ, zN] at hF2))
       go_roundg (s.size - (j + 1))
       case rel => exact ⟨j + 1, O ++ [92, 116], by omega, box rfl, by go_num, hO2.out, hgo, hF2⟩
       case measure => have := hkf.out; omega
      ·have n9 : ((y.toNat : Int) == 9) = false := u8_ne hy9
       by_cases hy10 : y = 10
       ·subst hy10
        replace hgo : Box (out ++ jQuote s.data.toList = O ++ [92, 110] ++ (s.data.toList.drop (j + 1)).flatMap jQc ++ [34]) := hgo
        replace hO2 : Box ((O ++ [92, 110]).length ≤ out.length + 1 + 6 * (j + 1)) := hO2
        go_wp2_with (first | ((with_reducible refine lsx (wp_fappS T_u8 uq9 hF (i := 0) rfl (Nat.le_refl _) (by with_unfolding_all exact ⟨_, _, rfl, rfl, rfl⟩) (by rw [show (⟨#[92, 110]⟩ : ByteArray).size = 2 from rfl]; omega) ?_)); intro v2 w2 hF2 hz2; simp only [zZ, zN] at hF2))
        go_roundg (s.size - (j + 1))
        case rel => exact ⟨j + 1, O ++ [92, 110], by omega, box rfl, by go_num, hO2.out, hgo, hF2⟩
        case measure => have := hkf.out; omega
       ·have n10 : ((y.toNat : Int) == 10) = false := u8_ne hy10
        by_cases hy12 : y = 12
        ·subst hy12
         replace hgo : Box (out ++ jQuote s.data.toList = O ++ [92, 102] ++ (s.data.toList.drop (j + 1)).flatMap jQc ++ [34]) := hgo
         replace hO2 : Box ((O ++ [92, 102]).length ≤ out.length + 1 + 6 * (j + 1)) := hO2
         go_wp2_with (first | ((with_reducible refine lsx (wp_fappS T_u8 uq9 hF (i := 0) rfl (Nat.le_refl _) (by with_unfolding_all exact ⟨_, _, rfl, rfl, rfl⟩) (by rw [show (⟨#[92, 102]⟩ : ByteArray).size = 2 from rfl]; omega) ?_)); intro v2 w2 hF2 hz2; simp only [zZ, zN] at hF2))
         go_roundg (s.size - (j + 1))
         case rel => exact ⟨j + 1, O ++ [92, 102], by omega, box rfl, by go_num, hO2.out, hgo, hF2⟩
         case measure => have := hkf.out; omega
        ·have n12 : ((y.toNat : Int) == 12) = false := u8_ne hy12
         by_cases hy13 : y = 13
         ·subst hy13
          replace hgo : Box (out ++ jQuote s.data.toList = O ++ [92, 114] ++ (s.data.toList.drop (j + 1)).flatMap jQc ++ [34]) := hgo
          replace hO2 : Box ((O ++ [92, 114]).length ≤ out.length + 1 + 6 * (j + 1)) := hO2
          go_wp2_with (first | ((with_reducible refine lsx (wp_fappS T_u8 uq9 hF (i := 0) rfl (Nat.le_refl _) (by with_unfolding_all exact ⟨_, _, rfl, rfl, rfl⟩) (by rw [show (⟨#[92, 114]⟩ : ByteArray).size = 2 from rfl]; omega) ?_)); intro v2 w2 hF2 hz2; simp only [zZ, zN] at hF2))
          go_roundg (s.size - (j + 1))
          case rel => exact ⟨j + 1, O ++ [92, 114], by omega, box rfl, by go_num, hO2.out, hgo, hF2⟩
          case measure => have := hkf.out; omega
         ·have n13 : ((y.toNat : Int) == 13) = false := u8_ne hy13
          by_cases h32 : y.toNat < 32
          ·have hqy : jQc y = [92, 117, 48, 48, jHexD (y.toNat / 16), jHexD (y.toNat % 16)] := by unfold jQc; rw [if_neg (by simp [hy34, hy92]), if_neg hy8, if_neg hy9, if_neg hy10, if_neg hy12, if_neg hy13, if_pos h32]
           rw [hqy] at hgo hO2
           have d32 : decide ((y.toNat : Int) < 32) = true := decide_eq_true (by omega)
           have hx1 := box (jhex_at (y.toNat / 16) (by omega))
           have hx2 := box (jhex_at (y.toNat % 16) (by omega))
           obtain ⟨p, hp⟩ : ∃ p, p = jHexD (y.toNat / 16) := ⟨_, rfl⟩
           obtain ⟨r, hr⟩ : ∃ r, r = jHexD (y.toNat % 16) := ⟨_, rfl⟩
           rw [← hp] at hgo hO2 hx1
           rw [← hr] at hgo hO2 hx2
           have hj1 := box (u8_shr4 y)
           have hj2 := box (u8_and15 y)
           clear hp hr hqy hy34 hy92 hy8 hy9 hy10 hy12 hy13
           replace h32 := box h32
           go_wp2_with (first | ((with_reducible refine lsx (wp_fappS T_u8 uq9 hF (i := 0) rfl (Nat.le_refl _) (by with_unfolding_all exact ⟨_, _, rfl, rfl, rfl⟩) (by rw [show (⟨#[92, 117, 48, 48]⟩ : ByteArray).size = 4 from rfl]; omega) ?_)); intro v2 w2 hF2 hz2; simp only [zZ, zN] at hF2))
           have hFd := hF2.drew
           refine wp_region_held (S := fun _ => True) (by kernel_rfl) ?_
           change wpAnyH _ _ _ _ _ _ _ _ (World.drew _)
           refine tkp 0 trivial ?_
           (try simp only [zP, zQ, zS, zZ, zN])
           refine tkp 1 trivial ?_
           (try simp only [zP, zQ, zS, zZ, zN])
           refine tkp 2 trivial ?_
           (try simp only [zP, zQ, zS, zZ, zN])
           refine tky 3 (y := yi_sidx (by with_unfolding_all rfl) uq9 (k := y.toNat / 16) hj1.out hx1.out (by with_unfolding_all exact ⟨_, _, _, rfl, rfl, rfl⟩)) (s := trivial) (h := ?_)
           (try simp only [zP, zQ, zS, zZ, zN])
           refine tkp 4 trivial ?_
           (try simp only [zP, zQ, zS, zZ, zN])
           refine tkp 5 trivial ?_
           (try simp only [zP, zQ, zS, zZ, zN])
           refine tky 6 (y := yi_sidx (by with_unfolding_all rfl) uq9 (k := y.toNat % 16) hj2.out hx2.out (by with_unfolding_all exact ⟨_, _, _, rfl, rfl, rfl⟩)) (s := trivial) (h := ?_)
           (try simp only [zP, zQ, zS, zZ, zN])
           refine rdy1 7 (fun K hK => ?_)
           refine stp (by with_unfolding_all rfl) (wp_fbsl T_u8 hFd (vs := [bv p, bv r]) (by with_unfolding_all rfl) (by with_unfolding_all rfl) (by with_unfolding_all rfl) (by decide) (by simp [bv, Value.cells]) ?_)
           intro w11 g11 hF11 hz11
           refine hK.out _ _ (trivial) (fun _ => ?_)
           clear hK K
           (try simp only [zP, zQ, zS, zZ, zN])
           refine rdy1 8 (fun K hK => ?_)
           refine stp (by with_unfolding_all rfl) (wp_fapp T_u8 hF11 (i := 1) (l := (O ++ [92, 117, 48, 48])) rfl (Nat.le_refl _) (((hF11.rdOwn (i := 0) rfl : Rd _ _ _ 1 2 (([p, r] : List UInt8).map bv)))) (by with_unfolding_all exact ⟨_, _, rfl, rfl, rfl⟩) (by rw [List.length_append]; simp only [List.length_cons, List.length_nil]; omega) ?_)
           intro v12 w12 hF12 hz12
           (try simp only [zZ, zN] at hF12)
           refine hK.out _ _ (trivial) (fun _ => ?_)
           clear hK K
           (try simp only [zP, zQ, zS, zZ, zN])
           refine tkp 9 trivial ?_
           (try simp only [zP, zQ, zS, zZ, zN])
           refine wpAnyH_done (by kernel_rfl) ?_ _
           go_wp2_with fail
           go_roundg (s.size - (j + 1))
           case rel => exact ⟨j + 1, O ++ [92, 117, 48, 48, p, r], by omega, box rfl, by go_num, hO2.out, hgo, by have h5 := hF12.tail; rw [List.append_assoc] at h5; exact h5⟩
           case measure => have := hkf.out; omega
          have hge : 32 ≤ y.toNat := by omega
          have hqy : jQc y = [y] := by unfold jQc; rw [if_neg (by simp [hy34, hy92]), if_neg hy8, if_neg hy9, if_neg hy10, if_neg hy12, if_neg hy13, if_neg (by omega)]
          rw [hqy] at hgo hO2
          have d32 : decide ((y.toNat : Int) < 32) = false := decide_eq_false (by omega)
          clear hy34 hy92 hy8 hy9 hy10 hy12 hy13 hqy 
          replace hge := box hge
          go_wp2_with (first | ((with_reducible refine lsx (wp_fbsl T_u8 hF (vs := [bv y]) (by with_unfolding_all rfl) (by with_unfolding_all rfl) (by with_unfolding_all rfl) (by decide) (by simp [bv, Value.cells]) ?_)); intro w1 g1 hF1 hz1; have hr1 : Rd w1 (· < w1.heap.size) (some ⟨g1, 0, none⟩) 1 1 ([y].map bv) := hF1.rdOwn0; replace hF1 : Fr _ _ w1 (Ent.bytes _ 5 (.slice (some ⟨g1, 0, none⟩) 1 1) [y] :: _) := hF1) | ((with_reducible refine lsx (wp_fapp1 T_u8 hF1 (Nat.le_refl _) hr1 (by with_unfolding_all exact ⟨_, _, rfl, rfl, rfl⟩) (by omega) ?_)); intro v2 w2 hF2 hz2))
          go_roundg (s.size - (j + 1))
          case rel => exact ⟨j + 1, O ++ [y], by omega, box rfl, by go_num, hO2.out, hgo, hF2.tail⟩
          case measure => have := hkf.out; omega
  ·have hjs : s.size = j := by omega
   have hend : Box (out ++ jQuote s.data.toList = O ++ [34]) := box (by rw [hQ.out, List.drop_of_length_le (by rw [hsl.out]; omega)]; simp)
   clear hQ hkf
   go_wp2_with (first | ((with_reducible refine lsx (wp_fbsl T_u8 hF (vs := [bv 34]) (by with_unfolding_all rfl) (by with_unfolding_all rfl) (by with_unfolding_all rfl) (by decide) (by simp [bv, Value.cells]) ?_)); intro w1 g1 hF1 hz1; have hr1 : Rd w1 (· < w1.heap.size) (some ⟨g1, 0, none⟩) 1 1 ([34].map bv) := hF1.rdOwn0; replace hF1 : Fr _ _ w1 (Ent.bytes _ 5 (.slice (some ⟨g1, 0, none⟩) 1 1) [34] :: _) := hF1) | ((with_reducible refine lsx (wp_fapp1 T_u8 hF1 (Nat.le_refl _) hr1 (by with_unfolding_all exact ⟨_, _, rfl, rfl, rfl⟩) (by omega) ?_)); intro v2 w2 hF2 hz2))
   go_ret
   exact ⟨_, rfl, by rw [hend.out]; exact hF2.tail⟩
end Go.Proofs.YtlhicfpmlncomaaGreatDoor
