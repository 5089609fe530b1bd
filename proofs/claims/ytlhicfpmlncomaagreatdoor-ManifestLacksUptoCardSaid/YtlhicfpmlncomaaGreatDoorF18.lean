/-
 Layer 6: the document's Right, walked.
 Layer 6: the program's Write within a frame; what is known of a value that was read.
 Layer 6: the document's Show and Write, walked.
-/
import Derived.Test.YtlhicfpmlncomaaGreatDoorF17
import Derived.Test.YtlhicfpmlncomaaGreatDoorF02
import Derived.Test.YtlhicfpmlncomaaGreatDoorF13
import Derived.Test.YtlhicfpmlncomaaGreatDoorF11
import Derived.Test.YtlhicfpmlncomaaGreatDoorF00
set_option linter.unusedSimpArgs false
set_option linter.unusedVariables false
namespace Go.Proofs.YtlhicfpmlncomaaGreatDoor
open Go.RowKit
theorem jDR_bad {d : Nat} {k n : Int} {t : List UInt8} {ns : List (List UInt8)} {ks : List JV} (h : jBadD k n t) : jDR d (.mk k n t ns ks) = false := by
 cases d <;> (rw [jDR, decide_eq_false (fun h' => h' h)]; rfl)
theorem jDR_leaf {d : Nat} {k n : Int} {t : List UInt8} {ns : List (List UInt8)} {ks : List JV} (h : ¬ jBadD k n t) (hk : k < 5) : jDR d (.mk k n t ns ks) = true := by
 cases d <;> (rw [jDR, decide_eq_true h, decide_eq_true hk]; rfl)
theorem jDR_zero {k n : Int} {t : List UInt8} {ns : List (List UInt8)} {ks : List JV} (hk : ¬ k < 5) : jDR 0 (.mk k n t ns ks) = false := by
 rw [jDR, decide_eq_false hk, Bool.and_false]
theorem jDR_len {d : Nat} {n : Int} {t : List UInt8} {ns : List (List UInt8)} {ks : List JV} (h : ns.length ≠ ks.length) : jDR (d + 1) (.mk 6 n t ns ks) = false := by
 rw [jDR, decide_eq_true (p := (6 : Int) = 6 ∧ ns.length ≠ ks.length) ⟨rfl, h⟩]; simp
theorem jDR_many {d : Nat} {k n : Int} {t : List UInt8} {ns : List (List UInt8)} {ks : List JV} (hb : ¬ jBadD k n t) (hk : ¬ k < 5) (h : ¬ (k = 6 ∧ ns.length ≠ ks.length)) : jDR (d + 1) (.mk k n t ns ks) = jDRL (jDR d) (k == 6) [] ns ks := by
 rw [jDR, decide_eq_true hb, decide_eq_false hk, decide_eq_false h]; rfl
theorem jDRL_drop {f : JV → Bool} {obj : Bool} {sn ns : List (List UInt8)} {ks : List JV} {i : Nat} {v : JV} (hv : ks[i]? = some v) :
  jDRL f obj sn (ns.drop i) (ks.drop i) = (f v && (!(obj && decide ((ns.drop i).headD [] ∈ sn)) && (!(obj && !Lib.validD ((ns.drop i).headD [])) && jDRL f obj (sn ++ [(ns.drop i).headD []]) (ns.drop (i + 1)) (ks.drop (i + 1))))) := by
 rw [List.drop_eq_getElem_cons (List.getElem?_eq_some_iff.1 hv).1, (List.getElem?_eq_some_iff.1 hv).2, jDRL, List.tail_drop]
theorem headD_at {ns : List (List UInt8)} {i : Nat} {s : List UInt8} (hs : ns[i]? = some s) : (ns.drop i).headD [] = s := by
 rw [List.drop_eq_getElem_cons (List.getElem?_eq_some_iff.1 hs).1, (List.getElem?_eq_some_iff.1 hs).2]; rfl
theorem wrap64_succ {d : Nat} (h : d ≤ 1000) : IntKind.i64.wrap ((d : Int) + 1) = ((d + 1 : Nat) : Int) := by
 simp [IntKind.wrap, IntKind.bits, IntKind.signed]
 split <;> omega
set_option maxRecDepth 20000 in
set_option maxHeartbeats 12800000 in
theorem rright_of (d deep : Nat) (w : World) (k n : Int) (t : List UInt8) (ns : List (List UInt8)) (ks : List JV) (An : Option Addr) (nn cn : Nat) (Ak : Option Addr) (nk ck : Nat) (ht : t.length ≤ 140737488355328)
  (hdeep : ¬ jBadD k n t → (k = 5 ∨ k = 6) → Calls Tryz.prog 39 #[.agg (vlL k n ⟨t.toArray⟩ (.slice An nn cn) (.slice Ak nk ck)).toArray, .int .i64 (deep : Int)] w fun e w' => e = .returned (.bool (jDR d (.mk k n t ns ks))) ∧ Below w.heap.size w w') :
  Calls Tryz.prog 39 #[.agg (vlL k n ⟨t.toArray⟩ (.slice An nn cn) (.slice Ak nk ck)).toArray, .int .i64 (deep : Int)] w fun e w' => e = .returned (.bool (jDR d (.mk k n t ns ks))) ∧ Below w.heap.size w w' := by
 have hF0 := Fr.nil w
 have hvs := box (fun w' => rvalid_any t w' ht)
 replace ht := box ht
 by_cases c2 : k < 0
 ·have d2 : decide (k < 0) = true := decide_eq_true c2
  have hjr : Box (jDR d (.mk k n t ns ks) = false) := box (jDR_bad (.inl c2))
  replace c2 := box c2
  go_enter Tryz.func39, Tryz.ntmps39
  go_wp2_with (first | ((with_reducible refine lsx (wp_fbox hF0 (cs := (vlL k n ⟨t.toArray⟩ (.slice An nn cn) (.slice Ak nk ck))) rfl (by with_unfolding_all rfl) (by with_unfolding_all rfl) ?_)); intro w1 g1 hF1 hz1) | (with_reducible refine lsx (wp_fld0 hF1 uq3 rfl (by with_unfolding_all exact ⟨_, rfl, rfl⟩) rfl ?_)) | (with_reducible refine lsx (wp_fld0 hF1 uq9 rfl (by with_unfolding_all exact ⟨_, rfl, rfl⟩) rfl ?_)))
  go_ret
  exact ⟨by rw [hjr.out]; rfl, hF1.below⟩
 have d2 : decide (k < 0) = false := decide_eq_false c2
 by_cases c3 : 6 < k
 ·have d3 : decide ((6 : Int) < k) = true := decide_eq_true c3
  have hjr : Box (jDR d (.mk k n t ns ks) = false) := box (jDR_bad (.inr (.inl c3)))
  replace c2 := box c2
  replace c3 := box c3
  go_enter Tryz.func39, Tryz.ntmps39
  go_wp2_with (first | ((with_reducible refine lsx (wp_fbox hF0 (cs := (vlL k n ⟨t.toArray⟩ (.slice An nn cn) (.slice Ak nk ck))) rfl (by with_unfolding_all rfl) (by with_unfolding_all rfl) ?_)); intro w1 g1 hF1 hz1) | (with_reducible refine lsx (wp_fld0 hF1 uq3 rfl (by with_unfolding_all exact ⟨_, rfl, rfl⟩) rfl ?_)) | (with_reducible refine lsx (wp_fld0 hF1 uq9 rfl (by with_unfolding_all exact ⟨_, rfl, rfl⟩) rfl ?_)))
  go_ret
  exact ⟨by rw [hjr.out]; rfl, hF1.below⟩
 have d3 : decide ((6 : Int) < k) = false := decide_eq_false c3
 by_cases c4 : 9007199254740991 < n
 ·have d4 : decide ((9007199254740991 : Int) < n) = true := decide_eq_true c4
  have hjr : Box (jDR d (.mk k n t ns ks) = false) := box (jDR_bad (.inr (.inr (.inl c4))))
  replace c2 := box c2
  replace c3 := box c3
  replace c4 := box c4
  go_enter Tryz.func39, Tryz.ntmps39
  go_wp2_with (first | ((with_reducible refine lsx (wp_fbox hF0 (cs := (vlL k n ⟨t.toArray⟩ (.slice An nn cn) (.slice Ak nk ck))) rfl (by with_unfolding_all rfl) (by with_unfolding_all rfl) ?_)); intro w1 g1 hF1 hz1) | (with_reducible refine lsx (wp_fld0 hF1 uq3 rfl (by with_unfolding_all exact ⟨_, rfl, rfl⟩) rfl ?_)) | (with_reducible refine lsx (wp_fld0 hF1 uq9 rfl (by with_unfolding_all exact ⟨_, rfl, rfl⟩) rfl ?_)))
  go_ret
  exact ⟨by rw [hjr.out]; rfl, hF1.below⟩
 have d4 : decide ((9007199254740991 : Int) < n) = false := decide_eq_false c4
 by_cases c5 : n < -9007199254740991
 ·have d5 : decide (n < (-9007199254740991 : Int)) = true := decide_eq_true c5
  have hjr : Box (jDR d (.mk k n t ns ks) = false) := box (jDR_bad (.inr (.inr (.inr (.inl c5)))))
  replace c2 := box c2
  replace c3 := box c3
  replace c4 := box c4
  replace c5 := box c5
  go_enter Tryz.func39, Tryz.ntmps39
  go_wp2_with (first | ((with_reducible refine lsx (wp_fbox hF0 (cs := (vlL k n ⟨t.toArray⟩ (.slice An nn cn) (.slice Ak nk ck))) rfl (by with_unfolding_all rfl) (by with_unfolding_all rfl) ?_)); intro w1 g1 hF1 hz1) | (with_reducible refine lsx (wp_fld0 hF1 uq3 rfl (by with_unfolding_all exact ⟨_, rfl, rfl⟩) rfl ?_)) | (with_reducible refine lsx (wp_fld0 hF1 uq9 rfl (by with_unfolding_all exact ⟨_, rfl, rfl⟩) rfl ?_)))
  go_ret
  exact ⟨by rw [hjr.out]; rfl, hF1.below⟩
 have d5 : decide (n < (-9007199254740991 : Int)) = false := decide_eq_false c5
 cases hvt : Lib.validD t with
 | false =>
  have hjr : Box (jDR d (.mk k n t ns ks) = false) := box (jDR_bad (.inr (.inr (.inr (.inr hvt)))))
  rw [hvt] at hvs
  replace hvt := box hvt
  replace c2 := box c2
  replace c3 := box c3
  replace c4 := box c4
  replace c5 := box c5
  go_enter Tryz.func39, Tryz.ntmps39
  go_wp2_with (first | ((with_reducible refine lsx (wp_fbox hF0 (cs := (vlL k n ⟨t.toArray⟩ (.slice An nn cn) (.slice Ak nk ck))) rfl (by with_unfolding_all rfl) (by with_unfolding_all rfl) ?_)); intro w1 g1 hF1 hz1) | (with_reducible refine lsx (wp_fld0 hF1 uq3 rfl (by with_unfolding_all exact ⟨_, rfl, rfl⟩) rfl ?_)) | (with_reducible refine lsx (wp_fld0 hF1 uq9 rfl (by with_unfolding_all exact ⟨_, rfl, rfl⟩) rfl ?_)))
  refine (hvs.out _).mono ?_
  rintro e w2 ⟨rfl, hb2⟩
  have hF2 := hF1.call hb2
  go_wp2_with fail
  go_ret
  exact ⟨by rw [hjr.out]; rfl, hF2.below⟩
 | true =>
  rw [hvt] at hvs
  have hnb : ¬ jBadD k n t := by rintro (h | h | h | h | h); exact c2 h; exact c3 h; exact c4 h; exact c5 h; rw [hvt] at h; cases h
  by_cases c6 : k < 5
  ·have d6 : decide (k < 5) = true := decide_eq_true c6
   have hjr : Box (jDR d (.mk k n t ns ks) = true) := box (jDR_leaf hnb c6)
   replace hvt := box hvt
   replace hnb := box hnb
   replace c2 := box c2
   replace c3 := box c3
   replace c4 := box c4
   replace c5 := box c5
   replace c6 := box c6
   go_enter Tryz.func39, Tryz.ntmps39
   go_wp2_with (first | ((with_reducible refine lsx (wp_fbox hF0 (cs := (vlL k n ⟨t.toArray⟩ (.slice An nn cn) (.slice Ak nk ck))) rfl (by with_unfolding_all rfl) (by with_unfolding_all rfl) ?_)); intro w1 g1 hF1 hz1) | (with_reducible refine lsx (wp_fld0 hF1 uq3 rfl (by with_unfolding_all exact ⟨_, rfl, rfl⟩) rfl ?_)) | (with_reducible refine lsx (wp_fld0 hF1 uq9 rfl (by with_unfolding_all exact ⟨_, rfl, rfl⟩) rfl ?_)))
   refine (hvs.out _).mono ?_
   rintro e w2 ⟨rfl, hb2⟩
   have hF2 := hF1.call hb2
   go_wp2_with (first | (with_reducible refine lsx (wp_fld0 hF2 uq3 rfl (by with_unfolding_all exact ⟨_, rfl, rfl⟩) rfl ?_)))
   go_ret
   exact ⟨by rw [hjr.out]; rfl, hF2.below⟩
  exact hdeep hnb (by omega)
set_option maxRecDepth 20000 in
set_option maxHeartbeats 25600000 in
theorem rrightJ_any (d : Nat) : ∀ (v : JV) (cs : List Value) (w : World) (deep : Nat), deep + d = 16 → VRd w (· < w.heap.size) v cs → JSm v → JTx v →
  Calls Tryz.prog 39 #[.agg cs.toArray, .int .i64 (deep : Int)] w fun e w' => e = .returned (.bool (jDR d v)) ∧ Below w.heap.size w w' := by
 induction d with
 | zero =>
  intro v cs w deep hd hv hsm htx
  obtain ⟨k, n, t, ns, ks⟩ := v
  rw [VRd] at hv
  obtain ⟨An, nn, cn, Ak, nk, ck, xk, hcn, hck, rfl, hrn, hrk, hvk⟩ := hv
  rw [JSm] at hsm
  obtain ⟨hs1, hs2, hs3⟩ := hsm
  rw [JTx] at htx
  obtain ⟨ht, htn, htk⟩ := htx
  have hnn : ns.length = nn := by have := hrn.len; simpa using this
  have hnk : ks.length = nk := by have := hrk.len; rw [hvk.len] at this; omega
  rw [hnn] at hs1
  rw [hnk] at hs2
  replace hnn := box hnn
  replace hnk := box hnk
  replace hvk := box hvk
  replace hs3 := box hs3
  replace htk := box htk
  replace htn := box htn
  refine rright_of _ deep w k n t ns ks An nn cn Ak nk ck ht (fun hnb hk56 => ?_)
  have hF0 := Fr.nil w
  rcases hk56 with hk5 | hk5
  ·subst hk5
   have hjr : Box (jDR 0 (.mk 5 n t ns ks) = false) := box (jDR_zero (by decide))
   have hvt : Lib.validD t = true := by cases hv : Lib.validD t; exact absurd (.inr (.inr (.inr (.inr hv)))) hnb; rfl
   have c4 : ¬ 9007199254740991 < n := fun h => hnb (.inr (.inr (.inl h)))
   have c5 : ¬ n < -9007199254740991 := fun h => hnb (.inr (.inr (.inr (.inl h))))
   have d4 : decide ((9007199254740991 : Int) < n) = false := decide_eq_false c4
   have d5 : decide (n < (-9007199254740991 : Int)) = false := decide_eq_false c5
   have hvs := box (fun w' => rvalid_any t w' ht)
   rw [hvt] at hvs
   replace ht := box ht
   replace hvt := box hvt
   replace c4 := box c4
   replace c5 := box c5
   have hd16 : ((deep : Int) == 16) = true := by rw [beq_iff_eq]; omega
   replace hnb := box hnb
   go_enter Tryz.func39, Tryz.ntmps39
   go_wp2_with (first | ((with_reducible refine lsx (wp_fbox hF0 (cs := (vlL 5 n ⟨t.toArray⟩ (.slice An nn cn) (.slice Ak nk ck))) rfl (by with_unfolding_all rfl) (by with_unfolding_all rfl) ?_)); intro w1 g1 hF1 hz1) | (with_reducible refine lsx (wp_fld0 hF1 uq3 rfl (by with_unfolding_all exact ⟨_, rfl, rfl⟩) rfl ?_)) | (with_reducible refine lsx (wp_fld0 hF1 uq9 rfl (by with_unfolding_all exact ⟨_, rfl, rfl⟩) rfl ?_)))
   refine (hvs.out _).mono ?_
   rintro e w2 ⟨rfl, hb2⟩
   have hF2 := hF1.call hb2
   go_wp2_with (first | (with_reducible refine lsx (wp_fld0 hF2 uq3 rfl (by with_unfolding_all exact ⟨_, rfl, rfl⟩) rfl ?_)) | (with_reducible refine lsx (wp_fld0 hF2 uq48 rfl (by with_unfolding_all exact ⟨_, rfl, rfl⟩) rfl ?_)) | (with_reducible refine lsx (wp_fld0 hF2 uq49 rfl (by with_unfolding_all exact ⟨_, rfl, rfl⟩) rfl ?_)))
   go_ret
   exact ⟨by rw [hjr.out]; rfl, hF2.below⟩
  ·subst hk5
   have hjr : Box (jDR 0 (.mk 6 n t ns ks) = false) := box (jDR_zero (by decide))
   have hvt : Lib.validD t = true := by cases hv : Lib.validD t; exact absurd (.inr (.inr (.inr (.inr hv)))) hnb; rfl
   have c4 : ¬ 9007199254740991 < n := fun h => hnb (.inr (.inr (.inl h)))
   have c5 : ¬ n < -9007199254740991 := fun h => hnb (.inr (.inr (.inr (.inl h))))
   have d4 : decide ((9007199254740991 : Int) < n) = false := decide_eq_false c4
   have d5 : decide (n < (-9007199254740991 : Int)) = false := decide_eq_false c5
   have hvs := box (fun w' => rvalid_any t w' ht)
   rw [hvt] at hvs
   replace ht := box ht
   replace hvt := box hvt
   replace c4 := box c4
   replace c5 := box c5
   have hd16 : ((deep : Int) == 16) = true := by rw [beq_iff_eq]; omega
   replace hnb := box hnb
   go_enter Tryz.func39, Tryz.ntmps39
   go_wp2_with (first | ((with_reducible refine lsx (wp_fbox hF0 (cs := (vlL 6 n ⟨t.toArray⟩ (.slice An nn cn) (.slice Ak nk ck))) rfl (by with_unfolding_all rfl) (by with_unfolding_all rfl) ?_)); intro w1 g1 hF1 hz1) | (with_reducible refine lsx (wp_fld0 hF1 uq3 rfl (by with_unfolding_all exact ⟨_, rfl, rfl⟩) rfl ?_)) | (with_reducible refine lsx (wp_fld0 hF1 uq9 rfl (by with_unfolding_all exact ⟨_, rfl, rfl⟩) rfl ?_)))
   refine (hvs.out _).mono ?_
   rintro e w2 ⟨rfl, hb2⟩
   have hF2 := hF1.call hb2
   go_wp2_with (first | (with_reducible refine lsx (wp_fld0 hF2 uq3 rfl (by with_unfolding_all exact ⟨_, rfl, rfl⟩) rfl ?_)) | (with_reducible refine lsx (wp_fld0 hF2 uq48 rfl (by with_unfolding_all exact ⟨_, rfl, rfl⟩) rfl ?_)) | (with_reducible refine lsx (wp_fld0 hF2 uq49 rfl (by with_unfolding_all exact ⟨_, rfl, rfl⟩) rfl ?_)))
   go_ret
   exact ⟨by rw [hjr.out]; rfl, hF2.below⟩
 | succ d ih =>
  intro v cs w deep hd hv hsm htx
  obtain ⟨k, n, t, ns, ks⟩ := v
  rw [VRd] at hv
  obtain ⟨An, nn, cn, Ak, nk, ck, xk, hcn, hck, rfl, hrn, hrk, hvk⟩ := hv
  rw [JSm] at hsm
  obtain ⟨hs1, hs2, hs3⟩ := hsm
  rw [JTx] at htx
  obtain ⟨ht, htn, htk⟩ := htx
  have hnn : ns.length = nn := by have := hrn.len; simpa using this
  have hnk : ks.length = nk := by have := hrk.len; rw [hvk.len] at this; omega
  rw [hnn] at hs1
  rw [hnk] at hs2
  replace hnn := box hnn
  replace hnk := box hnk
  replace hvk := box hvk
  replace hs3 := box hs3
  replace htk := box htk
  replace htn := box htn
  refine rright_of _ deep w k n t ns ks An nn cn Ak nk ck ht (fun hnb hk56 => ?_)
  have hF0 := Fr.nil w
  rcases hk56 with hk5 | hk5
  ·subst hk5
   have hvt : Lib.validD t = true := by cases hv : Lib.validD t; exact absurd (.inr (.inr (.inr (.inr hv)))) hnb; rfl
   have c4 : ¬ 9007199254740991 < n := fun h => hnb (.inr (.inr (.inl h)))
   have c5 : ¬ n < -9007199254740991 := fun h => hnb (.inr (.inr (.inr (.inl h))))
   have d4 : decide ((9007199254740991 : Int) < n) = false := decide_eq_false c4
   have d5 : decide (n < (-9007199254740991 : Int)) = false := decide_eq_false c5
   have hvs := box (fun w' => rvalid_any t w' ht)
   rw [hvt] at hvs
   replace ht := box ht
   replace hvt := box hvt
   replace c4 := box c4
   replace c5 := box c5
   have hd16 : ((deep : Int) == 16) = false := by rw [beq_eq_false_iff_ne]; omega
   have hwd := wrap64_succ (d := deep) (by omega)
   have hjm := jDR_many (d := d) (ns := ns) (ks := ks) hnb (by decide) (fun h => absurd h.1 (by decide))
   obtain ⟨R, hR⟩ : ∃ R, R = jDR (d + 1) (.mk 5 n t ns ks) := ⟨_, rfl⟩
   rw [← hR]
   rw [← hR] at hjm
   replace hR := box hjm
   clear hjm
   replace hnb := box hnb
   go_enter Tryz.func39, Tryz.ntmps39
   go_wp2_with (first | ((with_reducible refine lsx (wp_fbox hF0 (cs := (vlL 5 n ⟨t.toArray⟩ (.slice An nn cn) (.slice Ak nk ck))) rfl (by with_unfolding_all rfl) (by with_unfolding_all rfl) ?_)); intro w1 g1 hF1 hz1) | (with_reducible refine lsx (wp_fld0 hF1 uq3 rfl (by with_unfolding_all exact ⟨_, rfl, rfl⟩) rfl ?_)) | (with_reducible refine lsx (wp_fld0 hF1 uq9 rfl (by with_unfolding_all exact ⟨_, rfl, rfl⟩) rfl ?_)))
   refine (hvs.out _).mono ?_
   rintro e w2 ⟨rfl, hb2⟩
   have hF2 := hF1.call hb2
   go_wp2_with (first | (with_reducible refine lsx (wp_fld0 hF2 uq3 rfl (by with_unfolding_all exact ⟨_, rfl, rfl⟩) rfl ?_)) | (with_reducible refine lsx (wp_fld0 hF2 uq48 rfl (by with_unfolding_all exact ⟨_, rfl, rfl⟩) rfl ?_)) | (with_reducible refine lsx (wp_fld0 hF2 uq49 rfl (by with_unfolding_all exact ⟨_, rfl, rfl⟩) rfl ?_)))
   clear hF0 hF1 hvs
   go_loopg [5] nk (fun gk s wr => ∃ (i : Nat) (sn : List (List UInt8)), i ≤ nk ∧ Box (gk = nk - i) ∧ s = .int .i64 (i : Int) ∧ True ∧ Box (R = jDRL (jDR d) false sn (ns.drop i) (ks.drop i)) ∧ Fr [] w wr [.blk g1 51 (vlL 5 n ⟨t.toArray⟩ (.slice An nn cn) (.slice Ak nk ck))])
   case atStart => exact ⟨0, [], by omega, box rfl, rfl, trivial, box hR.out, hF2⟩
   case round =>
    clear hF2
    obtain ⟨i, sn, hi, hk, rfl, hsn, hRi, hF⟩ := hrel
    have hkf : Box (gk = nk - i) := hk
    clear hk
    by_cases hlt : i < nk
    ·obtain ⟨vi, hvi⟩ : ∃ vi, ks[i]? = some vi := ⟨ks[i]'(by rw [hnk.out]; exact hlt), by simp⟩
     obtain ⟨ci, hci, hvri⟩ := hvk.out.at hvi
     have hcil := box hvri.len
     replace hci := box hci
     have hsi := hs3.out.at hvi
     have hti := htk.out.at hvi
     have ihc := ih vi ci wr (deep + 1) (by omega) (hvri.on hF.below) hsi hti
     have hRd := hRi.out
     rw [jDRL_drop hvi] at hRd
     clear hRi
     replace hvi := box hvi
     replace hvri := box hvri
     replace hsi := box hsi
     replace hti := box hti
     have hrk' := hrk.below hF.below
     replace hRd := box hRd
     go_wp2_with (first | (with_reducible refine lsx (wp_fld0 hF uq3 rfl (by with_unfolding_all exact ⟨_, rfl, rfl⟩) rfl ?_)) | (with_reducible refine lsx (wp_fld0 hF uq48 rfl (by with_unfolding_all exact ⟨_, rfl, rfl⟩) rfl ?_)) | (with_reducible refine lsx (wp_fld0 hF uq49 rfl (by with_unfolding_all exact ⟨_, rfl, rfl⟩) rfl ?_)) | (with_reducible refine lsx (wp_indexAddr T_rvals hrk' (by with_unfolding_all exact ⟨_, _, _, _, rfl, rfl, rfl⟩) (by omega) (by omega) ?_)) | (with_reducible refine lsx (wp_loadA hrk' uq51 rfl (by with_unfolding_all exact ⟨_, rfl, rfl⟩) (ds := ci) (by rw [hcil.out]; kernel_rfl) (by rw [hcil.out]; with_unfolding_all exact hci.out) ?_)))
     refine ihc.mono ?_
     rintro e w3 ⟨rfl, hb3⟩
     have hF3 := hF.call hb3
     clear ihc hF hb3
     cases hq : jDR d vi with
     | false =>
      have hjr : Box (R = false) := box (by rw [hRd.out, hq]; rfl)
      replace hq := box hq
      go_wp2_with fail
      go_ret
      exact ⟨by rw [hjr.out]; rfl, hF3.below⟩
     | true =>
      have hR2 := hRd.out
      rw [hq] at hR2
      simp only [Bool.true_and] at hR2
      clear hRd
      replace hq := box hq
      simp only [Bool.false_and, Bool.not_false, Bool.true_and] at hR2
      have hRn := box hR2
      clear hR2
      go_wp2_with fail
      go_loopg [6] 0 (fun gk s wr => s = .int .i64 0 ∧ wr = w3)
      case atStart => exact ⟨rfl, rfl⟩
      case round =>
       obtain ⟨rfl, rfl⟩ := hrel
       by_cases h0 : 0 < i
       ·go_wp2_with (first | (with_reducible refine lsx (wp_fld0 hF3 uq3 rfl (by with_unfolding_all exact ⟨_, rfl, rfl⟩) rfl ?_)) | (with_reducible refine lsx (wp_fld0 hF3 uq48 rfl (by with_unfolding_all exact ⟨_, rfl, rfl⟩) rfl ?_)) | (with_reducible refine lsx (wp_fld0 hF3 uq49 rfl (by with_unfolding_all exact ⟨_, rfl, rfl⟩) rfl ?_)))
        go_roundg (nk - (i + 1))
        case rel => exact ⟨i + 1, _, by omega, box rfl, by go_num, trivial, hRn, hF3⟩
        case measure => have := hkf.out; omega
       ·go_wp2_with (first | (with_reducible refine lsx (wp_fld0 hF3 uq3 rfl (by with_unfolding_all exact ⟨_, rfl, rfl⟩) rfl ?_)) | (with_reducible refine lsx (wp_fld0 hF3 uq48 rfl (by with_unfolding_all exact ⟨_, rfl, rfl⟩) rfl ?_)) | (with_reducible refine lsx (wp_fld0 hF3 uq49 rfl (by with_unfolding_all exact ⟨_, rfl, rfl⟩) rfl ?_)))
        go_roundg (nk - (i + 1))
        case rel => exact ⟨i + 1, _, by omega, box rfl, by go_num, trivial, hRn, hF3⟩
        case measure => have := hkf.out; omega
    ·have hRd := hRi.out
     rw [List.drop_of_length_le (l := ks) (by rw [hnk.out]; omega), jDRL] at hRd
     have hjr := box hRd
     clear hRd hRi
     go_wp2_with (first | (with_reducible refine lsx (wp_fld0 hF uq3 rfl (by with_unfolding_all exact ⟨_, rfl, rfl⟩) rfl ?_)) | (with_reducible refine lsx (wp_fld0 hF uq48 rfl (by with_unfolding_all exact ⟨_, rfl, rfl⟩) rfl ?_)) | (with_reducible refine lsx (wp_fld0 hF uq49 rfl (by with_unfolding_all exact ⟨_, rfl, rfl⟩) rfl ?_)))
     go_ret
     exact ⟨by rw [hjr.out]; rfl, hF.below⟩
  ·subst hk5
   have hvt : Lib.validD t = true := by cases hv : Lib.validD t; exact absurd (.inr (.inr (.inr (.inr hv)))) hnb; rfl
   have c4 : ¬ 9007199254740991 < n := fun h => hnb (.inr (.inr (.inl h)))
   have c5 : ¬ n < -9007199254740991 := fun h => hnb (.inr (.inr (.inr (.inl h))))
   have d4 : decide ((9007199254740991 : Int) < n) = false := decide_eq_false c4
   have d5 : decide (n < (-9007199254740991 : Int)) = false := decide_eq_false c5
   have hvs := box (fun w' => rvalid_any t w' ht)
   rw [hvt] at hvs
   replace ht := box ht
   replace hvt := box hvt
   replace c4 := box c4
   replace c5 := box c5
   have hd16 : ((deep : Int) == 16) = false := by rw [beq_eq_false_iff_ne]; omega
   have hwd := wrap64_succ (d := deep) (by omega)
   by_cases hlen : nn = nk
   ·have hbne : ((nn : Int) != (nk : Int)) = false := by rw [hlen, bne_self_eq_false]
    have hle : nk ≤ nn := by omega
    replace hlen := box hlen
    have hjm := jDR_many (d := d) (ns := ns) (ks := ks) hnb (by decide) (by rw [hnn.out, hnk.out, hlen.out]; simp)
    obtain ⟨R, hR⟩ : ∃ R, R = jDR (d + 1) (.mk 6 n t ns ks) := ⟨_, rfl⟩
    rw [← hR]
    rw [← hR] at hjm
    replace hR := box hjm
    clear hjm
    replace hnb := box hnb
    go_enter Tryz.func39, Tryz.ntmps39
    go_wp2_with (first | ((with_reducible refine lsx (wp_fbox hF0 (cs := (vlL 6 n ⟨t.toArray⟩ (.slice An nn cn) (.slice Ak nk ck))) rfl (by with_unfolding_all rfl) (by with_unfolding_all rfl) ?_)); intro w1 g1 hF1 hz1) | (with_reducible refine lsx (wp_fld0 hF1 uq3 rfl (by with_unfolding_all exact ⟨_, rfl, rfl⟩) rfl ?_)) | (with_reducible refine lsx (wp_fld0 hF1 uq9 rfl (by with_unfolding_all exact ⟨_, rfl, rfl⟩) rfl ?_)))
    refine (hvs.out _).mono ?_
    rintro e w2 ⟨rfl, hb2⟩
    have hF2 := hF1.call hb2
    go_wp2_with (first | (with_reducible refine lsx (wp_fld0 hF2 uq3 rfl (by with_unfolding_all exact ⟨_, rfl, rfl⟩) rfl ?_)) | (with_reducible refine lsx (wp_fld0 hF2 uq48 rfl (by with_unfolding_all exact ⟨_, rfl, rfl⟩) rfl ?_)) | (with_reducible refine lsx (wp_fld0 hF2 uq49 rfl (by with_unfolding_all exact ⟨_, rfl, rfl⟩) rfl ?_)))
    clear hF0 hF1 hvs
    go_loopg [5] nk (fun gk s wr => ∃ (i : Nat) (sn : List (List UInt8)), i ≤ nk ∧ Box (gk = nk - i) ∧ s = .int .i64 (i : Int) ∧ sn = ns.take i ∧ Box (R = jDRL (jDR d) true sn (ns.drop i) (ks.drop i)) ∧ Fr [] w wr [.blk g1 51 (vlL 6 n ⟨t.toArray⟩ (.slice An nn cn) (.slice Ak nk ck))])
    case atStart => exact ⟨0, [], by omega, box rfl, rfl, rfl, box hR.out, hF2⟩
    case round =>
     clear hF2
     obtain ⟨i, sn, hi, hk, rfl, hsn, hRi, hF⟩ := hrel
     have hkf : Box (gk = nk - i) := hk
     clear hk
     by_cases hlt : i < nk
     ·obtain ⟨vi, hvi⟩ : ∃ vi, ks[i]? = some vi := ⟨ks[i]'(by rw [hnk.out]; exact hlt), by simp⟩
      obtain ⟨ci, hci, hvri⟩ := hvk.out.at hvi
      have hcil := box hvri.len
      replace hci := box hci
      have hsi := hs3.out.at hvi
      have hti := htk.out.at hvi
      have ihc := ih vi ci wr (deep + 1) (by omega) (hvri.on hF.below) hsi hti
      have hRd := hRi.out
      rw [jDRL_drop hvi] at hRd
      clear hRi
      replace hvi := box hvi
      replace hvri := box hvri
      replace hsi := box hsi
      replace hti := box hti
      have hrk' := hrk.below hF.below
      obtain ⟨s, hs⟩ : ∃ s, ns[i]? = some s := ⟨ns[i]'(by rw [hnn.out]; omega), by simp⟩
      have hss : Box ((ns.map strv)[i]? = some (.string ⟨s.toArray⟩)) := box (by rw [List.getElem?_map, hs]; rfl)
      rw [headD_at hs] at hRd
      have hsn2 : Box (sn ++ [s] = ns.take (i + 1)) := box (by rw [hsn, List.take_add_one, hs]; rfl)
      have hsl := htn.out s (List.mem_of_getElem? hs)
      replace hs := box hs
      replace hsn := box hsn
      replace hRd := box hRd
      go_wp2_with (first | (with_reducible refine lsx (wp_fld0 hF uq3 rfl (by with_unfolding_all exact ⟨_, rfl, rfl⟩) rfl ?_)) | (with_reducible refine lsx (wp_fld0 hF uq48 rfl (by with_unfolding_all exact ⟨_, rfl, rfl⟩) rfl ?_)) | (with_reducible refine lsx (wp_fld0 hF uq49 rfl (by with_unfolding_all exact ⟨_, rfl, rfl⟩) rfl ?_)) | (with_reducible refine lsx (wp_indexAddr T_rvals hrk' (by with_unfolding_all exact ⟨_, _, _, _, rfl, rfl, rfl⟩) (by omega) (by omega) ?_)) | (with_reducible refine lsx (wp_loadA hrk' uq51 rfl (by with_unfolding_all exact ⟨_, rfl, rfl⟩) (ds := ci) (by rw [hcil.out]; kernel_rfl) (by rw [hcil.out]; with_unfolding_all exact hci.out) ?_)))
      refine ihc.mono ?_
      rintro e w3 ⟨rfl, hb3⟩
      have hF3 := hF.call hb3
      clear ihc hF hb3
      cases hq : jDR d vi with
      | false =>
       have hjr : Box (R = false) := box (by rw [hRd.out, hq]; rfl)
       replace hq := box hq
       go_wp2_with fail
       go_ret
       exact ⟨by rw [hjr.out]; rfl, hF3.below⟩
      | true =>
       have hR2 := hRd.out
       rw [hq] at hR2
       simp only [Bool.true_and] at hR2
       clear hRd
       replace hq := box hq
       replace hR2 := box hR2
       go_wp2_with fail
       go_loopg [6] i (fun gk a wr => ∃ j : Nat, j ≤ i ∧ Box (gk = i - j) ∧ a = .int .i64 (j : Int) ∧ Box (∀ u ∈ ns.take j, s ≠ u) ∧ Fr [] w wr [.blk g1 51 (vlL 6 n ⟨t.toArray⟩ (.slice An nn cn) (.slice Ak nk ck))])
       case atStart => exact ⟨0, by omega, box rfl, rfl, box (by simp), hF3⟩
       case round =>
        clear hF3
        obtain ⟨j, hj, hk, rfl, hno, hF⟩ := hrel
        have hkj : Box (gk = i - j) := hk
        clear hk
        by_cases hji : j < i
        ·obtain ⟨u, hu⟩ : ∃ u, ns[j]? = some u := ⟨ns[j]'(by rw [hnn.out]; omega), by simp⟩
         have huu : Box ((ns.map strv)[j]? = some (.string ⟨u.toArray⟩)) := box (by rw [List.getElem?_map, hu]; rfl)
         have hut : Box (ns.take (j + 1) = ns.take j ++ [u]) := box (by rw [List.take_add_one, hu]; rfl)
         have hum : Box (j < i → u ∈ ns.take i) := box (fun h => List.mem_of_getElem? (i := j) (by rw [List.getElem?_take, if_pos h, hu]))
         replace hu := box hu
         have hjn : j < nn := by omega
         go_upto_region 15 with (first | (with_reducible refine lsx (wp_fld0 hF uq3 rfl (by with_unfolding_all exact ⟨_, rfl, rfl⟩) rfl ?_)) | (with_reducible refine lsx (wp_fld0 hF uq48 rfl (by with_unfolding_all exact ⟨_, rfl, rfl⟩) rfl ?_)) | (with_reducible refine lsx (wp_fld0 hF uq49 rfl (by with_unfolding_all exact ⟨_, rfl, rfl⟩) rfl ?_)))
         have hFd := hF.drew
         cases hsu : (u == s) with
         | true =>
          have hjr : Box (R = false) := box (by
           have hus := beq_iff_eq.1 hsu
           subst hus
           rw [hR2.out, hsn.out, decide_eq_true (hum.out hji)]; rfl)
          refine wp_region_held (S := fun w' => w'.heap[g1]? = some (.cells (List.toArray (vlL 6 n ⟨t.toArray⟩ (.slice An nn cn) (.slice Ak nk ck))) 51 (0, 0)) ∧ Rd w' (· < w.heap.size) An 1 nn (ns.map strv)) (by kernel_rfl) ?_
          change wpAnyH _ _ _ _ _ _ _ _ (World.drew _)
          refine tkp 0 ⟨hFd.blk (i := 0) rfl, hrn.below hFd.below⟩ ?_
          (try simp only [zP, zQ, zS, zZ, zN])
          refine tky 1 (y := yi_fld (by with_unfolding_all rfl) (fun _ h => h.1) uq48 rfl (by with_unfolding_all exact ⟨_, rfl, rfl⟩) rfl) (s := ⟨hFd.blk (i := 0) rfl, hrn.below hFd.below⟩) (h := ?_)
          (try simp only [zP, zQ, zS, zZ, zN])
          refine tkp 2 ⟨hFd.blk (i := 0) rfl, hrn.below hFd.below⟩ ?_
          (try simp only [zP, zQ, zS, zZ, zN])
          refine tky 3 (y := yi_ix (by with_unfolding_all rfl) T_strs (fun h => hrn.some_ h) (k := j) (by with_unfolding_all exact ⟨_, _, _, _, rfl, rfl, rfl⟩) rfl (by omega)) (s := ⟨hFd.blk (i := 0) rfl, hrn.below hFd.below⟩) (h := ?_)
          (try simp only [zP, zQ, zS, zZ, zN])
          refine tky 4 (y := yi_ld (by with_unfolding_all rfl) (j := j * 1) (fun _ h => h.2) uq9 rfl (by with_unfolding_all exact ⟨_, rfl, rfl⟩) (by rw [Nat.mul_one]; exact huu.out)) (s := ⟨hFd.blk (i := 0) rfl, hrn.below hFd.below⟩) (h := ?_)
          (try simp only [zP, zQ, zS, zZ, zN])
          refine tkp 5 ⟨hFd.blk (i := 0) rfl, hrn.below hFd.below⟩ ?_
          (try simp only [zP, zQ, zS, zZ, zN])
          refine tky 6 (y := yi_fld (by with_unfolding_all rfl) (fun _ h => h.1) uq48 rfl (by with_unfolding_all exact ⟨_, rfl, rfl⟩) rfl) (s := ⟨hFd.blk (i := 0) rfl, hrn.below hFd.below⟩) (h := ?_)
          (try simp only [zP, zQ, zS, zZ, zN])
          refine tkp 7 ⟨hFd.blk (i := 0) rfl, hrn.below hFd.below⟩ ?_
          (try simp only [zP, zQ, zS, zZ, zN])
          refine tky 8 (y := yi_ix (by with_unfolding_all rfl) T_strs (fun h => hrn.some_ h) (k := i) (by with_unfolding_all exact ⟨_, _, _, _, rfl, rfl, rfl⟩) rfl (by omega)) (s := ⟨hFd.blk (i := 0) rfl, hrn.below hFd.below⟩) (h := ?_)
          (try simp only [zP, zQ, zS, zZ, zN])
          refine tky 9 (y := yi_ld (by with_unfolding_all rfl) (j := i * 1) (fun _ h => h.2) uq9 rfl (by with_unfolding_all exact ⟨_, rfl, rfl⟩) (by rw [Nat.mul_one]; exact hss.out)) (s := ⟨hFd.blk (i := 0) rfl, hrn.below hFd.below⟩) (h := ?_)
          (try simp only [zP, zQ, zS, zZ, zN])
          refine tkp 10 ⟨hFd.blk (i := 0) rfl, hrn.below hFd.below⟩ ?_
          (try simp only [zP, zQ, zS, zZ, zN])
          refine wpAnyH_done (by kernel_rfl) ?_ _
          go_wp2_with fail
          go_ret
          exact ⟨by rw [hjr.out]; rfl, hFd.below⟩
         | false =>
          have hno2 : Box (∀ x ∈ ns.take (j + 1), s ≠ x) := box (fun x hx => by
           rw [hut.out] at hx
           rcases List.mem_append.1 hx with hx | hx
           ·exact hno.out x hx
           ·rw [List.mem_singleton.1 hx]; exact fun h => (beq_eq_false_iff_ne.1 hsu) h.symm)
          refine wp_region_held (S := fun w' => w'.heap[g1]? = some (.cells (List.toArray (vlL 6 n ⟨t.toArray⟩ (.slice An nn cn) (.slice Ak nk ck))) 51 (0, 0)) ∧ Rd w' (· < w.heap.size) An 1 nn (ns.map strv)) (by kernel_rfl) ?_
          change wpAnyH _ _ _ _ _ _ _ _ (World.drew _)
          refine tkp 0 ⟨hFd.blk (i := 0) rfl, hrn.below hFd.below⟩ ?_
          (try simp only [zP, zQ, zS, zZ, zN])
          refine tky 1 (y := yi_fld (by with_unfolding_all rfl) (fun _ h => h.1) uq48 rfl (by with_unfolding_all exact ⟨_, rfl, rfl⟩) rfl) (s := ⟨hFd.blk (i := 0) rfl, hrn.below hFd.below⟩) (h := ?_)
          (try simp only [zP, zQ, zS, zZ, zN])
          refine tkp 2 ⟨hFd.blk (i := 0) rfl, hrn.below hFd.below⟩ ?_
          (try simp only [zP, zQ, zS, zZ, zN])
          refine tky 3 (y := yi_ix (by with_unfolding_all rfl) T_strs (fun h => hrn.some_ h) (k := j) (by with_unfolding_all exact ⟨_, _, _, _, rfl, rfl, rfl⟩) rfl (by omega)) (s := ⟨hFd.blk (i := 0) rfl, hrn.below hFd.below⟩) (h := ?_)
          (try simp only [zP, zQ, zS, zZ, zN])
          refine tky 4 (y := yi_ld (by with_unfolding_all rfl) (j := j * 1) (fun _ h => h.2) uq9 rfl (by with_unfolding_all exact ⟨_, rfl, rfl⟩) (by rw [Nat.mul_one]; exact huu.out)) (s := ⟨hFd.blk (i := 0) rfl, hrn.below hFd.below⟩) (h := ?_)
          (try simp only [zP, zQ, zS, zZ, zN])
          refine tkp 5 ⟨hFd.blk (i := 0) rfl, hrn.below hFd.below⟩ ?_
          (try simp only [zP, zQ, zS, zZ, zN])
          refine tky 6 (y := yi_fld (by with_unfolding_all rfl) (fun _ h => h.1) uq48 rfl (by with_unfolding_all exact ⟨_, rfl, rfl⟩) rfl) (s := ⟨hFd.blk (i := 0) rfl, hrn.below hFd.below⟩) (h := ?_)
          (try simp only [zP, zQ, zS, zZ, zN])
          refine tkp 7 ⟨hFd.blk (i := 0) rfl, hrn.below hFd.below⟩ ?_
          (try simp only [zP, zQ, zS, zZ, zN])
          refine tky 8 (y := yi_ix (by with_unfolding_all rfl) T_strs (fun h => hrn.some_ h) (k := i) (by with_unfolding_all exact ⟨_, _, _, _, rfl, rfl, rfl⟩) rfl (by omega)) (s := ⟨hFd.blk (i := 0) rfl, hrn.below hFd.below⟩) (h := ?_)
          (try simp only [zP, zQ, zS, zZ, zN])
          refine tky 9 (y := yi_ld (by with_unfolding_all rfl) (j := i * 1) (fun _ h => h.2) uq9 rfl (by with_unfolding_all exact ⟨_, rfl, rfl⟩) (by rw [Nat.mul_one]; exact hss.out)) (s := ⟨hFd.blk (i := 0) rfl, hrn.below hFd.below⟩) (h := ?_)
          (try simp only [zP, zQ, zS, zZ, zN])
          refine tkp 10 ⟨hFd.blk (i := 0) rfl, hrn.below hFd.below⟩ ?_
          (try simp only [zP, zQ, zS, zZ, zN])
          refine wpAnyH_done (by kernel_rfl) ?_ _
          go_wp2_with fail
          go_roundg (i - (j + 1))
          case rel => exact ⟨j + 1, by omega, box rfl, by go_num, hno2, hFd⟩
          case measure => have := hkj.out; omega
        ·obtain rfl : i = j := by omega
         have hR3 := hR2.out
         rw [hsn.out, decide_eq_false (fun h => hno.out s h rfl)] at hR3
         simp only [Bool.true_and, Bool.and_false, Bool.not_false] at hR3
         clear hR2
         have hrn' := hrn.below hF.below
         have hvs2 := box (fun w' => rvalid_any s w' hsl)
         cases hvv : Lib.validD s with
         | false =>
          rw [hvv] at hvs2
          have hjr : Box (R = false) := box (by rw [hR3, hvv]; rfl)
          clear hR3
          replace hvv := box hvv
          go_wp2_with (first | (with_reducible refine lsx (wp_fld0 hF uq3 rfl (by with_unfolding_all exact ⟨_, rfl, rfl⟩) rfl ?_)) | (with_reducible refine lsx (wp_fld0 hF uq48 rfl (by with_unfolding_all exact ⟨_, rfl, rfl⟩) rfl ?_)) | (with_reducible refine lsx (wp_fld0 hF uq49 rfl (by with_unfolding_all exact ⟨_, rfl, rfl⟩) rfl ?_)) | (with_reducible refine lsx (wp_indexAddr T_strs hrn' (by with_unfolding_all exact ⟨_, _, _, _, rfl, rfl, rfl⟩) (by omega) (by omega) ?_)) | (with_reducible refine lsx (wp_load1C hrn' hss uq9 rfl (by with_unfolding_all exact ⟨_, rfl, rfl⟩) (by first | (simp; done) | (simp; omega) | omega) ?_)))
          refine (hvs2.out _).mono ?_
          rintro e w5 ⟨rfl, hb5⟩
          have hF5 := hF.call hb5
          go_wp2_with fail
          go_ret
          exact ⟨by rw [hjr.out]; rfl, hF5.below⟩
         | true =>
          rw [hvv] at hvs2 hR3
          simp only [Bool.not_true, Bool.not_false, Bool.true_and] at hR3
          have hRn : Box (R = jDRL (jDR d) true (ns.take i ++ [s]) (ns.drop (i + 1)) (ks.drop (i + 1))) := box hR3
          clear hR3
          replace hvv := box hvv
          replace hsn2 : Box (ns.take i ++ [s] = ns.take (i + 1)) := box (by rw [← hsn.out]; exact hsn2.out)
          go_wp2_with (first | (with_reducible refine lsx (wp_fld0 hF uq3 rfl (by with_unfolding_all exact ⟨_, rfl, rfl⟩) rfl ?_)) | (with_reducible refine lsx (wp_fld0 hF uq48 rfl (by with_unfolding_all exact ⟨_, rfl, rfl⟩) rfl ?_)) | (with_reducible refine lsx (wp_fld0 hF uq49 rfl (by with_unfolding_all exact ⟨_, rfl, rfl⟩) rfl ?_)) | (with_reducible refine lsx (wp_indexAddr T_strs hrn' (by with_unfolding_all exact ⟨_, _, _, _, rfl, rfl, rfl⟩) (by omega) (by omega) ?_)) | (with_reducible refine lsx (wp_load1C hrn' hss uq9 rfl (by with_unfolding_all exact ⟨_, rfl, rfl⟩) (by first | (simp; done) | (simp; omega) | omega) ?_)))
          refine (hvs2.out _).mono ?_
          rintro e w5 ⟨rfl, hb5⟩
          have hF5 := hF.call hb5
          go_wp2_with fail
          go_roundg (nk - (i + 1))
          case rel => exact ⟨i + 1, ns.take i ++ [s], by omega, box rfl, by go_num, hsn2.out, hRn, hF5⟩
          case measure => have := hkf.out; omega
     ·have hRd := hRi.out
      rw [List.drop_of_length_le (l := ks) (by rw [hnk.out]; omega), jDRL] at hRd
      have hjr := box hRd
      clear hRd hRi
      go_wp2_with (first | (with_reducible refine lsx (wp_fld0 hF uq3 rfl (by with_unfolding_all exact ⟨_, rfl, rfl⟩) rfl ?_)) | (with_reducible refine lsx (wp_fld0 hF uq48 rfl (by with_unfolding_all exact ⟨_, rfl, rfl⟩) rfl ?_)) | (with_reducible refine lsx (wp_fld0 hF uq49 rfl (by with_unfolding_all exact ⟨_, rfl, rfl⟩) rfl ?_)))
      go_ret
      exact ⟨by rw [hjr.out]; rfl, hF.below⟩
   ·have hbne : ((nn : Int) != (nk : Int)) = true := by rw [bne_iff_ne]; omega
    have hjr : Box (jDR (d + 1) (.mk 6 n t ns ks) = false) := box (jDR_len (by rw [hnn.out, hnk.out]; exact hlen))
    replace hlen := box hlen
    replace hnb := box hnb
    go_enter Tryz.func39, Tryz.ntmps39
    go_wp2_with (first | ((with_reducible refine lsx (wp_fbox hF0 (cs := (vlL 6 n ⟨t.toArray⟩ (.slice An nn cn) (.slice Ak nk ck))) rfl (by with_unfolding_all rfl) (by with_unfolding_all rfl) ?_)); intro w1 g1 hF1 hz1) | (with_reducible refine lsx (wp_fld0 hF1 uq3 rfl (by with_unfolding_all exact ⟨_, rfl, rfl⟩) rfl ?_)) | (with_reducible refine lsx (wp_fld0 hF1 uq9 rfl (by with_unfolding_all exact ⟨_, rfl, rfl⟩) rfl ?_)))
    refine (hvs.out _).mono ?_
    rintro e w2 ⟨rfl, hb2⟩
    have hF2 := hF1.call hb2
    go_wp2_with (first | (with_reducible refine lsx (wp_fld0 hF2 uq3 rfl (by with_unfolding_all exact ⟨_, rfl, rfl⟩) rfl ?_)) | (with_reducible refine lsx (wp_fld0 hF2 uq48 rfl (by with_unfolding_all exact ⟨_, rfl, rfl⟩) rfl ?_)) | (with_reducible refine lsx (wp_fld0 hF2 uq49 rfl (by with_unfolding_all exact ⟨_, rfl, rfl⟩) rfl ?_)))
    go_ret
    exact ⟨by rw [hjr.out]; rfl, hF2.below⟩
end Go.Proofs.YtlhicfpmlncomaaGreatDoor

namespace Go.Proofs.YtlhicfpmlncomaaGreatDoor
open Go.RowKit
end Go.Proofs.YtlhicfpmlncomaaGreatDoor

namespace Go.Proofs.YtlhicfpmlncomaaGreatDoor
open Go.RowKit
theorem jDRL_ok2 {f : JV → Bool} (hf : ∀ v, f v = true → JOk2 v) {obj : Bool} : ∀ (ks : List JV) (sn ns : List (List UInt8)), jDRL f obj sn ns ks = true → JOk2L ks
 | [], _, _, _ => by rw [JOk2L]; trivial
 | v :: vs, sn, ns, h => by
  rw [jDRL, Bool.and_eq_true, Bool.and_eq_true, Bool.and_eq_true] at h
  rw [JOk2L]
  exact ⟨hf v h.1, jDRL_ok2 hf vs _ _ h.2.2.2⟩
theorem jDR_ok2 : ∀ (d : Nat) (v : JV), jDR d v = true → JOk2 v
 | 0, .mk k n t ns ks, h => by
  rw [jDR, Bool.and_eq_true, decide_eq_true_eq, decide_eq_true_eq] at h
  have hb := h.1
  unfold jBadD at hb
  rw [JOk2]
  left
  have h2 := h.2
  by_cases h3 : k = 3
  ·refine .inr (.inr (.inr (.inl ⟨h3, ?_, ?_⟩))) <;> (apply Decidable.byContradiction; intro hh; apply hb)
   ·exact .inr (.inr (.inr (.inl (by omega))))
   ·exact .inr (.inr (.inl (by omega)))
  ·have h0 : ¬ k < 0 := fun hh => hb (.inl hh)
   omega
 | d + 1, .mk k n t ns ks, h => by
  rw [jDR, Bool.and_eq_true, decide_eq_true_eq] at h
  have hb := h.1
  unfold jBadD at hb
  rw [JOk2]
  by_cases h2 : k < 5
  ·left
   by_cases h3 : k = 3
   ·refine .inr (.inr (.inr (.inl ⟨h3, ?_, ?_⟩))) <;> (apply Decidable.byContradiction; intro hh; apply hb)
    ·exact .inr (.inr (.inr (.inl (by omega))))
    ·exact .inr (.inr (.inl (by omega)))
   ·have h0 : ¬ k < 0 := fun hh => hb (.inl hh)
    omega
  ·right
   have h4 := h.2
   rw [decide_eq_false h2, Bool.false_or, Bool.and_eq_true] at h4
   have h6 : ¬ 6 < k := fun hh => hb (.inr (.inl hh))
   have hk := jDRL_ok2 (jDR_ok2 d) ks _ _ h4.2
   by_cases h5 : k = 6
   ·right
    refine ⟨h5, ?_, hk⟩
    have h7 := h4.1
    simp only [Bool.not_eq_true', decide_eq_false_iff_not, not_and, Decidable.not_not] at h7
    exact h7 h5
   ·left; exact ⟨by omega, hk⟩
set_option maxRecDepth 20000 in
set_option maxHeartbeats 3200000 in
theorem rshow_any (v : JV) (cs : List Value) (w : World) (hv : VRd w (· < w.heap.size) v cs) (hsm : JSm v) (hok : JOk2 v) (hfl : 6 * (jFull v).length ≤ 140737480000000) :
  Calls Tryz.prog 40 #[.agg cs.toArray] w fun e w' => ∃ l, e = .returned (.string ⟨List.toArray l⟩) ∧ Box (l.length ≤ (jFull v).length ∧ (l = jFull v ∨ 65536 < l.length)) ∧ Below w.heap.size w w' := by
 have hcl := box hv.len
 have hF0 := Fr.nil w
 go_enter Tryz.func40, Tryz.ntmps40
 go_wp2_with (first | ((with_reducible refine lsx (wp_fbox hF0 (cs := cs) rfl (by with_unfolding_all rfl) (by with_unfolding_all rfl) ?_)); intro w1 g1 hF1 hz1) | (with_reducible refine lsx (wp_fldA0 hF1 uq51 rfl (by with_unfolding_all exact ⟨_, rfl, rfl⟩) (ds := cs) (by rw [hcl.out]; kernel_rfl) (take_all _) ?_)))
 have hF2 := hF1.pushNil 5
 refine (rlay_any (SizeOf.sizeOf v) v cs w w1 none 0 [] _ (Nat.le_refl _) hv hsm hok (by simp; omega) hF2).mono ?_
 rintro e w3 ⟨u3, l3, rfl, hl3, hF3⟩
 obtain ⟨A3, c3, rfl, hc3, hr3⟩ := (hF3.own (i := 0) rfl).arg
 go_wp2_with (first | (with_reducible refine lsx (wp_b2s T_u8 uq5 uq9 hr3 (by with_unfolding_all exact ⟨_, rfl, rfl⟩) ?_)))
 go_ret
 have h3 := hl3.out
 rw [List.nil_append] at h3
 exact ⟨l3, rfl, box h3, hF3.below⟩
set_option maxRecDepth 20000 in
set_option maxHeartbeats 6400000 in
theorem rwrite_any (v : JV) (cs : List Value) (w : World) (hv : VRd w (· < w.heap.size) v cs) (hsm : JSm v) (htx : JTx v) (htot : jTot v ≤ 10000000) (hfl : 6 * (jFull v).length ≤ 140737480000000) :
  Calls Tryz.prog 17 #[.agg cs.toArray] w fun e w' => e = .returned (.tuple #[.string ⟨(jWrite v).1.toArray⟩, .int .i64 ((jWrite v).2 : Int)]) ∧ Below w.heap.size w w' := by
 have hcl := box hv.len
 have hF0 := Fr.nil w
 have hJ := jWrite_doc v
 obtain ⟨R, hR⟩ : ∃ R, R = jWrite v := ⟨_, rfl⟩
 rw [← hR] at hJ
 rw [← hR]
 clear hR
 have hcn := box (fun w' (hb : Below w.heap.size w w') => rcount_any (SizeOf.sizeOf v) v cs w' 4096 (Nat.le_refl _) (hv.on hb) hsm (by decide) htot)
 have hri := box (fun w' (hb : Below w.heap.size w w') => rrightJ_any 16 v cs w' 0 rfl (hv.on hb) hsm htx)
 have hcb := (jCnt_tot v 4096).2.2.1
 obtain ⟨q, hq⟩ : ∃ q, q = jCnt v 4096 := ⟨_, rfl⟩
 rw [← hq] at hJ hcb hcn
 replace hq := box hq
 have hq7 : q ≤ 10000000 := by omega
 clear hcb
 by_cases hbig : 4096 < q
 ·rw [if_pos (.inl hbig)] at hJ
  have d1 : decide ((4096 : Int) < (q : Int)) = true := decide_eq_true (by omega)
  replace hJ := box hJ
  replace hbig := box hbig
  go_enter Tryz.func17, Tryz.ntmps17
  go_wp2_with (first | ((with_reducible refine lsx (wp_fbox hF0 (cs := cs) rfl (by with_unfolding_all rfl) (by with_unfolding_all rfl) ?_)); intro w1 g1 hF1 hz1) | (with_reducible refine lsx (wp_fldA0 hF1 uq51 rfl (by with_unfolding_all exact ⟨_, rfl, rfl⟩) (ds := cs) (by rw [hcl.out]; kernel_rfl) (take_all _) ?_)))
  refine (hcn.out _ hF1.below).mono ?_
  rintro e w2 ⟨rfl, hb2⟩
  have hF2 := hF1.call hb2
  go_wp2_with fail
  go_ret2
  exact ⟨by rw [hJ.out]; rfl, hF2.below⟩
 ·have d1 : decide ((4096 : Int) < (q : Int)) = false := decide_eq_false (by omega)
  cases hd : jDR 16 v with
  | false =>
   rw [if_pos (.inr hd)] at hJ
   rw [hd] at hri
   replace hJ := box hJ
   replace hbig := box hbig
   replace hd := box hd
   go_enter Tryz.func17, Tryz.ntmps17
   go_wp2_with (first | ((with_reducible refine lsx (wp_fbox hF0 (cs := cs) rfl (by with_unfolding_all rfl) (by with_unfolding_all rfl) ?_)); intro w1 g1 hF1 hz1) | (with_reducible refine lsx (wp_fldA0 hF1 uq51 rfl (by with_unfolding_all exact ⟨_, rfl, rfl⟩) (ds := cs) (by rw [hcl.out]; kernel_rfl) (take_all _) ?_)))
   refine (hcn.out _ hF1.below).mono ?_
   rintro e w2 ⟨rfl, hb2⟩
   have hF2 := hF1.call hb2
   go_wp2_with (first | (with_reducible refine lsx (wp_fldA0 hF2 uq51 rfl (by with_unfolding_all exact ⟨_, rfl, rfl⟩) (ds := cs) (by rw [hcl.out]; kernel_rfl) (take_all _) ?_)))
   refine (hri.out _ hF2.below).mono ?_
   rintro e w3 ⟨rfl, hb3⟩
   have hF3 := hF2.call hb3
   go_wp2_with fail
   go_ret2
   exact ⟨by rw [hJ.out]; rfl, hF3.below⟩
  | true =>
   rw [if_neg (by rintro (h | h); exact hbig h; rw [hd] at h; cases h)] at hJ
   rw [hd] at hri
   have hok := jDR_ok2 16 v hd
   have hsw := box (fun w' (hb : Below w.heap.size w w') => rshow_any v cs w' (hv.on hb) hsm hok hfl)
   replace hJ := box hJ
   replace hbig := box hbig
   replace hd := box hd
   replace hok := box hok
   replace hfl := box hfl
   go_enter Tryz.func17, Tryz.ntmps17
   go_wp2_with (first | ((with_reducible refine lsx (wp_fbox hF0 (cs := cs) rfl (by with_unfolding_all rfl) (by with_unfolding_all rfl) ?_)); intro w1 g1 hF1 hz1) | (with_reducible refine lsx (wp_fldA0 hF1 uq51 rfl (by with_unfolding_all exact ⟨_, rfl, rfl⟩) (ds := cs) (by rw [hcl.out]; kernel_rfl) (take_all _) ?_)))
   refine (hcn.out _ hF1.below).mono ?_
   rintro e w2 ⟨rfl, hb2⟩
   have hF2 := hF1.call hb2
   go_wp2_with (first | (with_reducible refine lsx (wp_fldA0 hF2 uq51 rfl (by with_unfolding_all exact ⟨_, rfl, rfl⟩) (ds := cs) (by rw [hcl.out]; kernel_rfl) (take_all _) ?_)))
   refine (hri.out _ hF2.below).mono ?_
   rintro e w3 ⟨rfl, hb3⟩
   have hF3 := hF2.call hb3
   go_wp2_with (first | (with_reducible refine lsx (wp_fldA0 hF3 uq51 rfl (by with_unfolding_all exact ⟨_, rfl, rfl⟩) (ds := cs) (by rw [hcl.out]; kernel_rfl) (take_all _) ?_)))
   refine (hsw.out _ hF3.below).mono ?_
   rintro e w4 ⟨l, rfl, hl, hb4⟩
   have hF4 := hF3.call hb4
   clear hcn hri hsw
   by_cases hl6 : 65536 < l.length
   ·have d2 : decide ((65536 : Int) < (l.length : Int)) = true := decide_eq_true (by omega)
    have hend : Box (R = ([], 8)) := box (by rw [hJ.out, if_pos (by have := hl.out.1; omega)])
    have hlb : l.length ≤ 140737480000000 := by have := hfl.out; have := hl.out.1; omega
    replace hl6 := box hl6
    go_wp2_with fail
    go_ret2
    exact ⟨by rw [hend.out]; rfl, hF4.below⟩
   ·have d2 : decide ((65536 : Int) < (l.length : Int)) = false := decide_eq_false (by omega)
    have he := hl.out.2.resolve_right hl6
    have hend : Box (R = (l, 0)) := box (by rw [hJ.out, if_neg (by rw [← he]; exact hl6), he])
    have hlb : l.length ≤ 140737480000000 := by omega
    replace hl6 := box hl6
    replace he := box he
    go_wp2_with fail
    go_ret2
    exact ⟨by rw [hend.out]; rfl, hF4.below⟩
end Go.Proofs.YtlhicfpmlncomaaGreatDoor
