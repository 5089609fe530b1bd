/-
 Layer 8: the document's Write and Bare, walked.
 Layer 8: the document's SameNotes at one list twice.
 Layer 8: the document's Same at one document twice.
-/
import Derived.Test.YtlhicfpmlncomaaGreatDoorE19
import Derived.Test.YtlhicfpmlncomaaGreatDoorE02
import Derived.Test.YtlhicfpmlncomaaGreatDoorE18
import Derived.Test.YtlhicfpmlncomaaGreatDoorE13
import Derived.Test.YtlhicfpmlncomaaGreatDoorE21
import Derived.Laws.StructEq
namespace Go.Proofs.YtlhicfpmlncomaaGreatDoor
open Go.RowKit
set_option linter.unusedSimpArgs false
set_option linter.unusedVariables false
theorem RdD.zero (w : World) : RdD w .zero ds0 := ⟨_, by decide, ⟨none, 0, 0, Nat.le_refl _, rfl, rfl, Rd.nil _ _ _ _⟩, rfl⟩
theorem RdDoc.len {w : World} {d : MDoc} {cs : List Value} (h : RdDoc w d cs) : cs.length = 75 := by
 obtain ⟨cf, eg, sj, nt, h1, _, h2, _, rfl⟩ := h
 exact docL_len h1.len h2.len
theorem RdDoc.ones {w : World} {d : MDoc} {cs : List Value} (h : RdDoc w d cs) : ∀ u ∈ cs, u.oneCell' = true := by
 obtain ⟨cf, eg, sj, nt, h1, ⟨_, _, _, _, _, _, rfl, _, _⟩, h2, ⟨_, _, _, _, _, rfl, _⟩, rfl⟩ := h
 exact docL_one h1.ones h2.ones rfl rfl
set_option maxRecDepth 20000 in
set_option maxHeartbeats 6400000 in
theorem rdbare_any (D : MDoc) (cs : List Value) (w : World) (hDD : RdDoc w D cs) :
  Calls Tryz.prog 22 #[.agg cs.toArray] w fun e w' => ∃ cs', e = .returned (.agg cs'.toArray) ∧ RdDoc w' (mBare D) cs' ∧ Below w.heap.size w w' := by
 obtain ⟨cf, eg, sj, nt, hC0, ⟨Ae, ne, ce, xe, hnce, hne', rfl, hre0, hEd0⟩, hS0, ⟨An, nq, cn, hnn0, hnq', rfl, hrn0⟩, rfl⟩ := hDD
 obtain ⟨m, ty, c, eds, s, hs, nts⟩ := D
 simp only [] at hC0 hne' hEd0 hS0 hnq' hrn0
 have hcl := box hC0.len
 have hsl := box hS0.len
 have hco := box hC0.ones
 have hso := box hS0.ones
 have hdz := box ds0_len
 have hC := box (fun w' (hb : Below w.heap.size w w') => hC0.on hb)
 have hS := box (fun w' (hb : Below w.heap.size w w') => hS0.on hb)
 have hE : Box (∀ w', Below w.heap.size w w' → RdE w' eds (.slice Ae ne ce)) := box (fun w' hb => RdE.on ⟨Ae, ne, ce, xe, hnce, hne', rfl, hre0, hEd0⟩ hb)
 have hN : Box (∀ w', Below w.heap.size w w' → RdN w' nts (.slice An nq cn)) := box (fun w' hb => RdN.on ⟨An, nq, cn, hnn0, hnq', rfl, hrn0⟩ hb)
 clear hC0 hS0 hne' hEd0 hre0 hnq' hrn0 hnce hnn0
 have hF0 := Fr.nil w
 show Calls _ _ #[.agg (docL m ty cf (.slice Ae ne ce) sj hs (.slice An nq cn)).toArray] _ _
 by_cases hx : m = sIndex
 ·skip
  have e1 : (m == [97, 112, 112, 108, 105, 99, 97, 116, 105, 111, 110, 47, 118, 110, 100, 46, 111, 99, 105, 46, 105, 109, 97, 103, 101, 46, 105, 110, 100, 101, 120, 46, 118, 49, 43, 106, 115, 111, 110]) = true := by rw [beq_iff_eq]; exact hx
  cases hs with
  | true =>
   have hbr : Box (mBare ⟨m, ty, c, eds, s, true, nts⟩ = ⟨m, ty, .zero, eds, s, true, nts⟩) := box (by unfold mBare; simp only []; rw [if_pos hx]; rfl)
   replace hx := box hx
   go_enter Tryz.func22, Tryz.ntmps22
   go_wp2_with (first | ((with_reducible refine lst (by with_unfolding_all rfl) (wp_fbox hF0 (cs := (docL m ty cf (.slice Ae ne ce) sj true (.slice An nq cn))) rfl (by with_unfolding_all rfl) (by with_unfolding_all rfl) ?_)); intro w1 g1 hF1 hz1) | ((with_reducible refine lst (by with_unfolding_all rfl) (wp_falloc hF1 (cs := doc0) (z := .agg (List.toArray (doc0))) rfl (by kernel_rfl) (by with_unfolding_all rfl) ?_)); intro w2 g2 hF2 hz2) | (with_reducible refine lst (by with_unfolding_all rfl) (wp_fld1 hF2 Tryz.underlying9 rfl (by with_unfolding_all exact ⟨_, rfl, rfl⟩) docL_m0 ?_)) | (with_reducible refine lst (by with_unfolding_all rfl) (wp_fbuild Tryz.underlying37 (z := .agg (List.toArray ds0)) (by kernel_rfl) (pl := dsP) (by kernel_rfl) (cs := ds0) rfl (vs := []) (by with_unfolding_all rfl) (by with_unfolding_all rfl) ?_)) | ((with_reducible refine lst (by with_unfolding_all rfl) (wp_fstA1 hF2 (by with_unfolding_all exact ⟨_, _, rfl, rfl, rfl⟩) (by rw [ds0_len]; kernel_rfl) ds0_one (by rw [hdz.out, docL_len hcl.out hsl.out]; decide) (docL_2 (by rw [hdz.out, hcl.out])) ?_)); intro w3 hF3 hz3) | (with_reducible refine lst (by with_unfolding_all rfl) (wp_fld1 hF3 Tryz.underlying4 rfl (by with_unfolding_all exact ⟨_, rfl, rfl⟩) (docL_has hdz.out hsl.out) ?_)) | (with_reducible refine lst (by with_unfolding_all rfl) (wp_fldA1 hF3 Tryz.underlying40 rfl (by with_unfolding_all exact ⟨_, rfl, rfl⟩) (ds := (docL m ty ds0 (.slice Ae ne ce) sj true (.slice An nq cn))) (by rw [docL_len hdz.out hsl.out]; kernel_rfl) (take_all _) ?_)) | ((with_reducible refine lst (by with_unfolding_all rfl) (wp_fstA0 hF3 (by with_unfolding_all exact ⟨_, _, rfl, rfl, rfl⟩) (by rw [docL_len hdz.out hsl.out]; kernel_rfl) (docL_one ds0_one hso.out rfl rfl) (by rw [docL_len hdz.out hsl.out, doc0_len]; decide) (spl_all (by rw [docL_len hdz.out hsl.out, doc0_len])) ?_)); intro w5 hF5 hz5))
   exact bodyPost_ret (results_cellF rfl _ hF5 (i := 0) rfl rfl Tryz.underlying40 rfl (by rw [docL_len hdz.out hsl.out]; kernel_rfl)) rfl ⟨_, rfl, by
    have hb := hF5.below
    rw [hbr.out]
    exact ⟨ds0, _, sj, _, RdD.zero _, hE.out _ hb, hS.out _ hb, hN.out _ hb, rfl⟩, hF5.below⟩
  | false =>
   have hbr : Box (mBare ⟨m, ty, c, eds, s, false, nts⟩ = ⟨m, ty, .zero, eds, .zero, false, nts⟩) := box (by unfold mBare; simp only []; rw [if_pos hx]; rfl)
   replace hx := box hx
   go_enter Tryz.func22, Tryz.ntmps22
   go_wp2_with (first | ((with_reducible refine lst (by with_unfolding_all rfl) (wp_fbox hF0 (cs := (docL m ty cf (.slice Ae ne ce) sj false (.slice An nq cn))) rfl (by with_unfolding_all rfl) (by with_unfolding_all rfl) ?_)); intro w1 g1 hF1 hz1) | ((with_reducible refine lst (by with_unfolding_all rfl) (wp_falloc hF1 (cs := doc0) (z := .agg (List.toArray (doc0))) rfl (by kernel_rfl) (by with_unfolding_all rfl) ?_)); intro w2 g2 hF2 hz2) | (with_reducible refine lst (by with_unfolding_all rfl) (wp_fld1 hF2 Tryz.underlying9 rfl (by with_unfolding_all exact ⟨_, rfl, rfl⟩) docL_m0 ?_)) | (with_reducible refine lst (by with_unfolding_all rfl) (wp_fbuild Tryz.underlying37 (z := .agg (List.toArray ds0)) (by kernel_rfl) (pl := dsP) (by kernel_rfl) (cs := ds0) rfl (vs := []) (by with_unfolding_all rfl) (by with_unfolding_all rfl) ?_)) | ((with_reducible refine lst (by with_unfolding_all rfl) (wp_fstA1 hF2 (by with_unfolding_all exact ⟨_, _, rfl, rfl, rfl⟩) (by rw [ds0_len]; kernel_rfl) ds0_one (by rw [hdz.out, docL_len hcl.out hsl.out]; decide) (docL_2 (by rw [hdz.out, hcl.out])) ?_)); intro w3 hF3 hz3) | (with_reducible refine lst (by with_unfolding_all rfl) (wp_fld1 hF3 Tryz.underlying4 rfl (by with_unfolding_all exact ⟨_, rfl, rfl⟩) (docL_has hdz.out hsl.out) ?_)) | ((with_reducible refine lst (by with_unfolding_all rfl) (wp_fstA1 hF3 (by with_unfolding_all exact ⟨_, _, rfl, rfl, rfl⟩) (by rw [ds0_len]; kernel_rfl) ds0_one (by rw [hdz.out, docL_len hdz.out hsl.out]; decide) (docL_38 hdz.out (by rw [hdz.out, hsl.out])) ?_)); intro w4 hF4 hz4) | (with_reducible refine lst (by with_unfolding_all rfl) (wp_fldA1 hF4 Tryz.underlying40 rfl (by with_unfolding_all exact ⟨_, rfl, rfl⟩) (ds := (docL m ty ds0 (.slice Ae ne ce) ds0 false (.slice An nq cn))) (by rw [docL_len hdz.out hdz.out]; kernel_rfl) (take_all _) ?_)) | ((with_reducible refine lst (by with_unfolding_all rfl) (wp_fstA0 hF4 (by with_unfolding_all exact ⟨_, _, rfl, rfl, rfl⟩) (by rw [docL_len hdz.out hdz.out]; kernel_rfl) (docL_one ds0_one ds0_one rfl rfl) (by rw [docL_len hdz.out hdz.out, doc0_len]; decide) (spl_all (by rw [docL_len hdz.out hdz.out, doc0_len])) ?_)); intro w5 hF5 hz5))
   exact bodyPost_ret (results_cellF rfl _ hF5 (i := 0) rfl rfl Tryz.underlying40 rfl (by rw [docL_len hdz.out hdz.out]; kernel_rfl)) rfl ⟨_, rfl, by
    have hb := hF5.below
    rw [hbr.out]
    exact ⟨ds0, _, ds0, _, RdD.zero _, hE.out _ hb, RdD.zero _, hN.out _ hb, rfl⟩, hF5.below⟩
 ·skip
  have e1 : (m == [97, 112, 112, 108, 105, 99, 97, 116, 105, 111, 110, 47, 118, 110, 100, 46, 111, 99, 105, 46, 105, 109, 97, 103, 101, 46, 105, 110, 100, 101, 120, 46, 118, 49, 43, 106, 115, 111, 110]) = false := by rw [beq_eq_false_iff_ne]; exact hx
  cases hs with
  | true =>
   have hbr : Box (mBare ⟨m, ty, c, eds, s, true, nts⟩ = ⟨m, ty, c, eds, s, true, nts⟩) := box (by unfold mBare; simp only []; rw [if_neg hx]; rfl)
   replace hx := box hx
   go_enter Tryz.func22, Tryz.ntmps22
   go_wp2_with (first | ((with_reducible refine lst (by with_unfolding_all rfl) (wp_fbox hF0 (cs := (docL m ty cf (.slice Ae ne ce) sj true (.slice An nq cn))) rfl (by with_unfolding_all rfl) (by with_unfolding_all rfl) ?_)); intro w1 g1 hF1 hz1) | ((with_reducible refine lst (by with_unfolding_all rfl) (wp_falloc hF1 (cs := doc0) (z := .agg (List.toArray (doc0))) rfl (by kernel_rfl) (by with_unfolding_all rfl) ?_)); intro w2 g2 hF2 hz2) | (with_reducible refine lst (by with_unfolding_all rfl) (wp_fld1 hF2 Tryz.underlying9 rfl (by with_unfolding_all exact ⟨_, rfl, rfl⟩) docL_m0 ?_)) | (with_reducible refine lst (by with_unfolding_all rfl) (wp_fbuild Tryz.underlying37 (z := .agg (List.toArray ds0)) (by kernel_rfl) (pl := dsP) (by kernel_rfl) (cs := ds0) rfl (vs := []) (by with_unfolding_all rfl) (by with_unfolding_all rfl) ?_)) | (with_reducible refine lst (by with_unfolding_all rfl) (wp_fld1 hF2 Tryz.underlying4 rfl (by with_unfolding_all exact ⟨_, rfl, rfl⟩) (docL_has hcl.out hsl.out) ?_)) | (with_reducible refine lst (by with_unfolding_all rfl) (wp_fldA1 hF2 Tryz.underlying40 rfl (by with_unfolding_all exact ⟨_, rfl, rfl⟩) (ds := (docL m ty cf (.slice Ae ne ce) sj true (.slice An nq cn))) (by rw [docL_len hcl.out hsl.out]; kernel_rfl) (take_all _) ?_)) | ((with_reducible refine lst (by with_unfolding_all rfl) (wp_fstA0 hF2 (by with_unfolding_all exact ⟨_, _, rfl, rfl, rfl⟩) (by rw [docL_len hcl.out hsl.out]; kernel_rfl) (docL_one hco.out hso.out rfl rfl) (by rw [docL_len hcl.out hsl.out, doc0_len]; decide) (spl_all (by rw [docL_len hcl.out hsl.out, doc0_len])) ?_)); intro w5 hF5 hz5))
   exact bodyPost_ret (results_cellF rfl _ hF5 (i := 0) rfl rfl Tryz.underlying40 rfl (by rw [docL_len hcl.out hsl.out]; kernel_rfl)) rfl ⟨_, rfl, by
    have hb := hF5.below
    rw [hbr.out]
    exact ⟨cf, _, sj, _, hC.out _ hb, hE.out _ hb, hS.out _ hb, hN.out _ hb, rfl⟩, hF5.below⟩
  | false =>
   have hbr : Box (mBare ⟨m, ty, c, eds, s, false, nts⟩ = ⟨m, ty, c, eds, .zero, false, nts⟩) := box (by unfold mBare; simp only []; rw [if_neg hx]; rfl)
   replace hx := box hx
   go_enter Tryz.func22, Tryz.ntmps22
   go_wp2_with (first | ((with_reducible refine lst (by with_unfolding_all rfl) (wp_fbox hF0 (cs := (docL m ty cf (.slice Ae ne ce) sj false (.slice An nq cn))) rfl (by with_unfolding_all rfl) (by with_unfolding_all rfl) ?_)); intro w1 g1 hF1 hz1) | ((with_reducible refine lst (by with_unfolding_all rfl) (wp_falloc hF1 (cs := doc0) (z := .agg (List.toArray (doc0))) rfl (by kernel_rfl) (by with_unfolding_all rfl) ?_)); intro w2 g2 hF2 hz2) | (with_reducible refine lst (by with_unfolding_all rfl) (wp_fld1 hF2 Tryz.underlying9 rfl (by with_unfolding_all exact ⟨_, rfl, rfl⟩) docL_m0 ?_)) | (with_reducible refine lst (by with_unfolding_all rfl) (wp_fbuild Tryz.underlying37 (z := .agg (List.toArray ds0)) (by kernel_rfl) (pl := dsP) (by kernel_rfl) (cs := ds0) rfl (vs := []) (by with_unfolding_all rfl) (by with_unfolding_all rfl) ?_)) | (with_reducible refine lst (by with_unfolding_all rfl) (wp_fld1 hF2 Tryz.underlying4 rfl (by with_unfolding_all exact ⟨_, rfl, rfl⟩) (docL_has hcl.out hsl.out) ?_)) | ((with_reducible refine lst (by with_unfolding_all rfl) (wp_fstA1 hF2 (by with_unfolding_all exact ⟨_, _, rfl, rfl, rfl⟩) (by rw [ds0_len]; kernel_rfl) ds0_one (by rw [hdz.out, docL_len hcl.out hsl.out]; decide) (docL_38 hcl.out (by rw [hdz.out, hsl.out])) ?_)); intro w4 hF4 hz4) | (with_reducible refine lst (by with_unfolding_all rfl) (wp_fldA1 hF4 Tryz.underlying40 rfl (by with_unfolding_all exact ⟨_, rfl, rfl⟩) (ds := (docL m ty cf (.slice Ae ne ce) ds0 false (.slice An nq cn))) (by rw [docL_len hcl.out hdz.out]; kernel_rfl) (take_all _) ?_)) | ((with_reducible refine lst (by with_unfolding_all rfl) (wp_fstA0 hF4 (by with_unfolding_all exact ⟨_, _, rfl, rfl, rfl⟩) (by rw [docL_len hcl.out hdz.out]; kernel_rfl) (docL_one hco.out ds0_one rfl rfl) (by rw [docL_len hcl.out hdz.out, doc0_len]; decide) (spl_all (by rw [docL_len hcl.out hdz.out, doc0_len])) ?_)); intro w5 hF5 hz5))
   exact bodyPost_ret (results_cellF rfl _ hF5 (i := 0) rfl rfl Tryz.underlying40 rfl (by rw [docL_len hcl.out hdz.out]; kernel_rfl)) rfl ⟨_, rfl, by
    have hb := hF5.below
    rw [hbr.out]
    exact ⟨cf, _, ds0, _, hC.out _ hb, hE.out _ hb, RdD.zero _, hN.out _ hb, rfl⟩, hF5.below⟩
end Go.Proofs.YtlhicfpmlncomaaGreatDoor

namespace Go.Proofs.YtlhicfpmlncomaaGreatDoor
open Go.RowKit
set_option linter.unusedSimpArgs false
set_option linter.unusedVariables false
/-- The fields of a note. -/
structure NoteT (P : Program) (t : TypeId) (f0 f1 : Field) : Prop where
 und : P.underlying t = some (.struct #[f0, f1])
 nam : [f0, f1].all (fun f => f.name != "_") = true
 off : [f0, f1].map (·.offset) = [0, 1]
 typ : [f0, f1].map (fun f => P.underlying f.type) = [some .string, some .string]
 stood : P.stoodInHeld t = false
 grd : P.eqGuardType P.depth t = false
section
variable {P : Program} {o : Oper} {a : Act} {w : World}
theorem run_eqNote {t : TypeId} {f0 f1 : Field} (T : NoteT P t f0 f1) (x : MNote) (k : Nat) (w : World) :
  (Op.equalIn (k + 3) t (.agg (ntL x).toArray) (.agg (ntL x).toArray)).run P w = .ok true w := by
 have hf : P.fieldsOf t = #[f0, f1] := by unfold Program.fieldsOf; rw [T.und]
 have ho := T.off
 have ht := T.typ
 have hn := T.nam
 simp only [List.map_cons, List.map_nil, List.cons.injEq, and_true] at ho ht
 simp only [List.all_cons, List.all_nil, Bool.and_true, Bool.and_eq_true, bne_iff_ne, ne_eq] at hn
 obtain ⟨o0, o1⟩ := ho
 obtain ⟨t0, t1⟩ := ht
 obtain ⟨n0, n1⟩ := hn
 rw [run_equalIn_struct w (k + 2) t _ _ (by rw [hf]; exact T.und) T.stood, hf]
 have p1 : ∀ (f : Field) (v : Value), P.underlying f.type = some .string → (ntL x)[f.offset]? = some v → (Go.part f.type (ntL x).toArray f.offset).run P w = .ok v w := fun f v hu hv => by
  have hagg : (isAgg f.type).run P w = .ok false w := by rw [run_isAgg hu w]; rfl
  simp [Go.part, hagg, hv]
 have e0 : (ntL x)[f0.offset]? = some (.string ⟨x.key.toArray⟩) := by rw [o0]; rfl
 have e1 : (ntL x)[f1.offset]? = some (.string ⟨x.val.toArray⟩) := by rw [o1]; rfl
 have q0 : (Op.equalIn (k + 2) f0.type (.string ⟨x.key.toArray⟩) (.string ⟨x.key.toArray⟩)).run P w = .ok ((⟨x.key.toArray⟩ : ByteArray).toList == (⟨x.key.toArray⟩ : ByteArray).toList) w := run_equalIn_string w (k + 1) _ _ _ t0
 have q1 : (Op.equalIn (k + 2) f1.type (.string ⟨x.val.toArray⟩) (.string ⟨x.val.toArray⟩)).run P w = .ok ((⟨x.val.toArray⟩ : ByteArray).toList == (⟨x.val.toArray⟩ : ByteArray).toList) w := run_equalIn_string w (k + 1) _ _ _ t1
 rw [beq_self_eq_true] at q0 q1
 have x0 := p1 f0 _ t0 e0
 have x1 := p1 f1 _ t1 e1
 simp only [Op.eqFields, n0, n1, not_false_eq_true, if_true, Sem.run_bind, x0, q0, x1, q1, Result.andThen_ok, ne_eq, Bool.not_true, Bool.false_eq_true, if_false]
 simp
theorem yi_neN {S : World → Prop} {ops : Array Oper} (hw : Region.wanted o (yielded ops a.tmps) = true) {t : TypeId} {f0 f1 : Field} (T : NoteT P t f0 f1) {x : MNote}
  {p q : Operand} {ty : TypeId} (ho : o.op = .binOp .neq t p q ty) (hp : a.eval p = .agg (ntL x).toArray) (hq : a.eval q = .agg (ntL x).toArray) : YieldsIf P ops S o (.bool false) a := by
 refine yi_run hw fun w _ => ?_
 have h1 := run_eqGuard_agg (P := P) w .neq t p q (ntL x).toArray (ntL x).toArray T.grd
 have h2 := run_neq_struct (P := P) w t (ntL x).toArray (ntL x).toArray
 have h3 := run_eqNote T x 9997 w
 unfold execOp
 simp only [ho, hp, hq, Sem.run_bind, h1, h2, h3, Result.andThen_ok, Sem.run_pure]
 rfl
end
theorem NT8 : ∃ f0 f1, NoteT Tryz.prog 149 f0 f1 := ⟨_, _, Tryz.underlying149, by kernel_rfl, by kernel_rfl, by kernel_rfl, by kernel_rfl, by kernel_rfl⟩
set_option maxRecDepth 20000 in
set_option maxHeartbeats 3200000 in
theorem sameNotes_any (l : List MNote) (u v : Value) (w : World) (hbd : l.length ≤ 1048576) (h1 : RdN w l u) (h2 : RdN w l v) :
  Calls Tryz.prog 35 #[u, v] w fun e w' => e = .returned (.bool true) ∧ Below w.heap.size w w' := by
 obtain ⟨A1, n, c1, _, hn, rfl, hr1⟩ := h1
 obtain ⟨A2, n2, c2, _, hn2, rfl, hr2⟩ := h2
 obtain rfl : n = n2 := by omega
 obtain ⟨f0, f1, hNT'⟩ := NT8
 have hNT := box hNT'
 clear hNT' hn2
 replace hn := box hn
 replace hbd : n ≤ 1048576 := by rw [hn.out]; exact hbd
 have hF0 := Fr.nil w
 go_enter Tryz.func35, Tryz.ntmps35
 go_wp2_with fail
 go_loopg [5] n (fun g iv wr => ∃ i : Nat, i ≤ n ∧ Box (g = n - i) ∧ iv = .int .i64 (i : Int) ∧ Fr [] w wr [])
 case atStart => exact ⟨0, by omega, box rfl, rfl, hF0⟩
 case round =>
  clear hF0
  obtain ⟨i, hi, hgi, rfl, hF⟩ := hrel
  have hkk : Box (_ = n - i) := hgi
  clear hgi
  by_cases hlt : i < n
  ·obtain ⟨x, hx⟩ : ∃ x, l[i]? = some x := ⟨l[i]'(by rw [← hn.out]; exact hlt), by simp⟩
   have hxc := box (ntsL_at hx)
   clear hx
   go_upto_region 6 with fail
   have hFd := hF.drew
   refine wp_region_held (S := fun w' => Rd w' (· < w.heap.size) A1 2 n (ntsL l) ∧ Rd w' (· < w.heap.size) A2 2 n (ntsL l)) (by kernel_rfl) ?_
   change wpAnyH _ _ _ _ _ _ _ _ (World.drew _)
   refine tkp 0 ⟨hr1.below hFd.below, hr2.below hFd.below⟩ ?_
   (try simp only [Act.put, List.setIfInBounds_toArray, List.set_cons_zero, List.set_cons_succ])
   refine tkp 1 ⟨hr1.below hFd.below, hr2.below hFd.below⟩ ?_
   (try simp only [Act.put, List.setIfInBounds_toArray, List.set_cons_zero, List.set_cons_succ])
   refine tky 2 (y := yi_ix (by with_unfolding_all rfl) T_rnotes (fun h => hr1.some_ h) (k := i) (by with_unfolding_all exact ⟨_, _, _, _, rfl, rfl, rfl⟩) rfl (by omega)) (s := ⟨hr1.below hFd.below, hr2.below hFd.below⟩) (h := ?_)
   (try simp only [Act.put, List.setIfInBounds_toArray, List.set_cons_zero, List.set_cons_succ])
   refine tky 3 (y := yi_ldA (by with_unfolding_all rfl) (fun _ h => h.1) Tryz.underlying149 rfl (by with_unfolding_all exact ⟨_, rfl, rfl⟩) (ds := ntL x) (by kernel_rfl) hxc.out) (s := ⟨hr1.below hFd.below, hr2.below hFd.below⟩) (h := ?_)
   (try simp only [Act.put, List.setIfInBounds_toArray, List.set_cons_zero, List.set_cons_succ])
   refine tkp 4 ⟨hr1.below hFd.below, hr2.below hFd.below⟩ ?_
   (try simp only [Act.put, List.setIfInBounds_toArray, List.set_cons_zero, List.set_cons_succ])
   refine tkp 5 ⟨hr1.below hFd.below, hr2.below hFd.below⟩ ?_
   (try simp only [Act.put, List.setIfInBounds_toArray, List.set_cons_zero, List.set_cons_succ])
   refine tky 6 (y := yi_ix (by with_unfolding_all rfl) T_rnotes (fun h => hr2.some_ h) (k := i) (by with_unfolding_all exact ⟨_, _, _, _, rfl, rfl, rfl⟩) rfl (by omega)) (s := ⟨hr1.below hFd.below, hr2.below hFd.below⟩) (h := ?_)
   (try simp only [Act.put, List.setIfInBounds_toArray, List.set_cons_zero, List.set_cons_succ])
   refine tky 7 (y := yi_ldA (by with_unfolding_all rfl) (fun _ h => h.2) Tryz.underlying149 rfl (by with_unfolding_all exact ⟨_, rfl, rfl⟩) (ds := ntL x) (by kernel_rfl) hxc.out) (s := ⟨hr1.below hFd.below, hr2.below hFd.below⟩) (h := ?_)
   (try simp only [Act.put, List.setIfInBounds_toArray, List.set_cons_zero, List.set_cons_succ])
   refine tky 8 (y := yi_neN (by with_unfolding_all rfl) hNT.out (x := x) (by with_unfolding_all rfl) (by with_unfolding_all rfl) (by with_unfolding_all rfl)) (s := ⟨hr1.below hFd.below, hr2.below hFd.below⟩) (h := ?_)
   (try simp only [Act.put, List.setIfInBounds_toArray, List.set_cons_zero, List.set_cons_succ])
   refine wpAnyH_done (by kernel_rfl) ?_ _
   go_wp2_with fail
   go_roundg (n - (i + 1))
   case rel => exact ⟨i + 1, by omega, box rfl, by go_num, hFd⟩
   case measure => have := hkk.out; omega
  ·go_wp2_with fail
   go_ret
   exact ⟨rfl, hF.below⟩
end Go.Proofs.YtlhicfpmlncomaaGreatDoor

namespace Go.Proofs.YtlhicfpmlncomaaGreatDoor
open Go.RowKit
set_option linter.unusedSimpArgs false
set_option linter.unusedVariables false
set_option maxRecDepth 20000 in
set_option maxHeartbeats 1600000 in
theorem sameDesc_any (d : MDesc) (ca cb : List Value) (w : World) (hbd : d.notes.length ≤ 1048576) (h1 : RdD w d ca) (h2 : RdD w d cb) :
  Calls Tryz.prog 34 #[.agg ca.toArray, .agg cb.toArray] w fun e w' => e = .returned (.bool true) ∧ Below w.heap.size w w' := by
 have hF0 := Fr.nil w
 obtain ⟨m, dg, z, nts⟩ := d
 obtain ⟨_, hd', hN1, rfl⟩ := h1
 obtain ⟨_, _, hN2, rfl⟩ := h2
 have hsn := box (fun (w' : World) (hb : Below w.heap.size w w') => sameNotes_any nts _ _ w' hbd (hN1.on hb) (hN2.on hb))
 obtain ⟨A1, n1, c1, _, hq1, rfl, _⟩ := hN1
 obtain ⟨A2, n2, c2, _, hq2, rfl, _⟩ := hN2
 clear hq1 hq2
 simp only [] at hd' hsn ⊢
 have hd := box hd'
 have heq : ∀ w, (Op.equalIn 10000 24 (.agg (dg.map bv).toArray) (.agg (dg.map bv).toArray)).run Tryz.prog w = .ok true w := fun w => by
  have h := run_eqBytes (P := Tryz.prog) Tryz.underlying24 Tryz.underlying5 (by kernel_rfl) dg dg hd' hd' 9998 w
  rw [beq_self_eq_true] at h
  exact h
 clear hd' hbd
 go_enter Tryz.func34, Tryz.ntmps34
 go_wp2_with (first | ((with_reducible refine lst (by with_unfolding_all rfl) (wp_fbox hF0 (cs := (dsL m dg z (.slice A1 n1 c1))) rfl (by with_unfolding_all rfl) (by with_unfolding_all rfl) ?_)); intro w1 g1 hF1 hz1) | ((with_reducible refine lst (by with_unfolding_all rfl) (wp_fbox hF1 (cs := (dsL m dg z (.slice A2 n2 c2))) rfl (by with_unfolding_all rfl) (by with_unfolding_all rfl) ?_)); intro w2 g2 hF2 hz2) | (with_reducible refine lst (by with_unfolding_all rfl) (wp_fld1 hF2 Tryz.underlying9 rfl (by with_unfolding_all exact ⟨_, rfl, rfl⟩) dsL_m0 ?_)) | (with_reducible refine lst (by with_unfolding_all rfl) (wp_fldA1 hF2 Tryz.underlying24 rfl (by with_unfolding_all exact ⟨_, rfl, rfl⟩) (ds := (dg.map bv)) (by rw [List.length_map, hd.out]; kernel_rfl) (by rw [List.length_map, hd.out]; exact dsL_dig hd.out) ?_)) | (with_reducible refine lst (by with_unfolding_all rfl) (wp_fld1 hF2 Tryz.underlying3 rfl (by with_unfolding_all exact ⟨_, rfl, rfl⟩) (dsL_size hd.out) ?_)) | (with_reducible refine lst (by with_unfolding_all rfl) (wp_fld1 hF2 Tryz.underlying35 rfl (by with_unfolding_all exact ⟨_, rfl, rfl⟩) (dsL_notes hd.out) ?_)) | (with_reducible refine lst (by with_unfolding_all rfl) (wp_fld0 hF2 Tryz.underlying9 rfl (by with_unfolding_all exact ⟨_, rfl, rfl⟩) dsL_m0 ?_)) | (with_reducible refine lst (by with_unfolding_all rfl) (wp_fldA0 hF2 Tryz.underlying24 rfl (by with_unfolding_all exact ⟨_, rfl, rfl⟩) (ds := (dg.map bv)) (by rw [List.length_map, hd.out]; kernel_rfl) (by rw [List.length_map, hd.out]; exact dsL_dig hd.out) ?_)) | (with_reducible refine lst (by with_unfolding_all rfl) (wp_fld0 hF2 Tryz.underlying3 rfl (by with_unfolding_all exact ⟨_, rfl, rfl⟩) (dsL_size hd.out) ?_)) | (with_reducible refine lst (by with_unfolding_all rfl) (wp_fld0 hF2 Tryz.underlying35 rfl (by with_unfolding_all exact ⟨_, rfl, rfl⟩) (dsL_notes hd.out) ?_)))
 refine (hsn.out _ hF2.below).mono ?_
 rintro e w3 ⟨rfl, hb3⟩
 have hF3 := hF2.call hb3
 go_wp2_with fail
 go_ret
 exact ⟨by simp, hF3.below⟩
set_option maxRecDepth 20000 in
set_option maxHeartbeats 3200000 in
theorem sameDescs_any (l : List MDesc) (u v : Value) (w : World) (hbd : l.length ≤ 1048576) (hbs : ∀ x ∈ l, x.notes.length ≤ 1048576) (h1 : RdE w l u) (h2 : RdE w l v) :
  Calls Tryz.prog 25 #[u, v] w fun e w' => e = .returned (.bool true) ∧ Below w.heap.size w w' := by
 obtain ⟨A1, n, c1, xs, _, hn, rfl, hr1, hx1⟩ := h1
 obtain ⟨A2, n2, c2, ys, _, hn2, rfl, hr2, hx2⟩ := h2
 obtain rfl : n = n2 := by omega
 clear hn2
 replace hn := box hn
 replace hx1 := box hx1
 replace hx2 := box hx2
 replace hbs := box hbs
 replace hbd : n ≤ 1048576 := by rw [hn.out]; exact hbd
 have hF0 := Fr.nil w
 go_enter Tryz.func25, Tryz.ntmps25
 go_wp2_with fail
 go_loopg [5] n (fun g iv wr => ∃ i : Nat, i ≤ n ∧ Box (g = n - i) ∧ iv = .int .i64 (i : Int) ∧ Fr [] w wr [])
 case atStart => exact ⟨0, by omega, box rfl, rfl, hF0⟩
 case round =>
  clear hF0
  obtain ⟨i, hi, hgi, rfl, hF⟩ := hrel
  have hkk : Box (_ = n - i) := hgi
  clear hgi
  by_cases hlt : i < n
  ·obtain ⟨x, hx⟩ : ∃ x, l[i]? = some x := ⟨l[i]'(by rw [← hn.out]; exact hlt), by simp⟩
   obtain ⟨ca, hca'⟩ : ∃ ca, ca = (xs.drop (i * 35)).take 35 := ⟨_, rfl⟩
   obtain ⟨cb, hcb'⟩ : ∃ cb, cb = (ys.drop (i * 35)).take 35 := ⟨_, rfl⟩
   have hda := hx1.out i x hx
   have hdb := hx2.out i x hx
   rw [← hca'] at hda
   rw [← hcb'] at hdb
   have hcal := box hda.len
   have hcbl := box hdb.len
   have hsd := box (fun (w' : World) (hb : Below w.heap.size w w') => sameDesc_any x ca cb w' (hbs.out x (List.mem_of_getElem? hx)) (hda.on hb) (hdb.on hb))
   have hca := box hca'.symm
   have hcb := box hcb'.symm
   clear hx hca' hcb' hda hdb
   go_upto_region 6 with fail
   have hFd := hF.drew
   refine wp_region_held (S := fun w' => Rd w' (· < w.heap.size) A1 35 n xs ∧ Rd w' (· < w.heap.size) A2 35 n ys) (by kernel_rfl) ?_
   change wpAnyH _ _ _ _ _ _ _ _ (World.drew _)
   refine tkp 0 ⟨hr1.below hFd.below, hr2.below hFd.below⟩ ?_
   (try simp only [Act.put, List.setIfInBounds_toArray, List.set_cons_zero, List.set_cons_succ])
   refine tkp 1 ⟨hr1.below hFd.below, hr2.below hFd.below⟩ ?_
   (try simp only [Act.put, List.setIfInBounds_toArray, List.set_cons_zero, List.set_cons_succ])
   refine tky 2 (y := yi_ix (by with_unfolding_all rfl) T_rdescs (fun h => hr1.some_ h) (k := i) (by with_unfolding_all exact ⟨_, _, _, _, rfl, rfl, rfl⟩) rfl (by omega)) (s := ⟨hr1.below hFd.below, hr2.below hFd.below⟩) (h := ?_)
   (try simp only [Act.put, List.setIfInBounds_toArray, List.set_cons_zero, List.set_cons_succ])
   refine tky 3 (y := yi_ldA (by with_unfolding_all rfl) (fun _ h => h.1) Tryz.underlying37 rfl (by with_unfolding_all exact ⟨_, rfl, rfl⟩) (ds := ca) (by rw [hcal.out]; kernel_rfl) (by rw [hcal.out]; exact hca.out)) (s := ⟨hr1.below hFd.below, hr2.below hFd.below⟩) (h := ?_)
   (try simp only [Act.put, List.setIfInBounds_toArray, List.set_cons_zero, List.set_cons_succ])
   refine tkp 4 ⟨hr1.below hFd.below, hr2.below hFd.below⟩ ?_
   (try simp only [Act.put, List.setIfInBounds_toArray, List.set_cons_zero, List.set_cons_succ])
   refine tkp 5 ⟨hr1.below hFd.below, hr2.below hFd.below⟩ ?_
   (try simp only [Act.put, List.setIfInBounds_toArray, List.set_cons_zero, List.set_cons_succ])
   refine tky 6 (y := yi_ix (by with_unfolding_all rfl) T_rdescs (fun h => hr2.some_ h) (k := i) (by with_unfolding_all exact ⟨_, _, _, _, rfl, rfl, rfl⟩) rfl (by omega)) (s := ⟨hr1.below hFd.below, hr2.below hFd.below⟩) (h := ?_)
   (try simp only [Act.put, List.setIfInBounds_toArray, List.set_cons_zero, List.set_cons_succ])
   refine tky 7 (y := yi_ldA (by with_unfolding_all rfl) (fun _ h => h.2) Tryz.underlying37 rfl (by with_unfolding_all exact ⟨_, rfl, rfl⟩) (ds := cb) (by rw [hcbl.out]; kernel_rfl) (by rw [hcbl.out]; exact hcb.out)) (s := ⟨hr1.below hFd.below, hr2.below hFd.below⟩) (h := ?_)
   (try simp only [Act.put, List.setIfInBounds_toArray, List.set_cons_zero, List.set_cons_succ])
   refine rdy1 8 (fun K hK => ?_)
   refine stp (by with_unfolding_all rfl) (wp_call Tryz.func34 rfl (by with_unfolding_all rfl) (by with_unfolding_all rfl) (by with_unfolding_all rfl) (hsd.out _ hFd.below) ?_)
   rintro e w41 ⟨rfl, hb41⟩
   refine ⟨_, rfl, ?_⟩
   have hF41 := hFd.call hb41
   refine hK.out _ _ (⟨hr1.below hF41.below, hr2.below hF41.below⟩) (fun _ => ?_)
   clear hK K
   (try simp only [Act.put, List.setIfInBounds_toArray, List.set_cons_zero, List.set_cons_succ])
   refine tkp 9 ⟨hr1.below hF41.below, hr2.below hF41.below⟩ ?_
   (try simp only [Act.put, List.setIfInBounds_toArray, List.set_cons_zero, List.set_cons_succ])
   refine wpAnyH_done (by kernel_rfl) ?_ _
   go_wp2_with fail
   go_roundg (n - (i + 1))
   case rel => exact ⟨i + 1, by omega, box rfl, by go_num, hF41⟩
   case measure => have := hkk.out; omega
  ·go_wp2_with fail
   go_ret
   exact ⟨rfl, hF.below⟩
set_option maxRecDepth 20000 in
set_option maxHeartbeats 1600000 in
theorem msame_any (d : MDoc) (ca cb : List Value) (w : World) (hB : MB d) (h1 : RdDoc w d ca) (h2 : RdDoc w d cb) :
  Calls Tryz.prog 14 #[.agg ca.toArray, .agg cb.toArray] w fun e w' => e = .returned (.bool true) ∧ Below w.heap.size w w' := by
 have hF0 := Fr.nil w
 obtain ⟨hB1, hB2, hB3, hB4, hB5⟩ := hB
 obtain ⟨cf1, eg1, sj1, nt1, hC1, hE1, hS1, hN1, rfl⟩ := h1
 obtain ⟨cf2, eg2, sj2, nt2, hC2, hE2, hS2, hN2, rfl⟩ := h2
 have hcl1 := box hC1.len
 have hsl1 := box hS1.len
 have hcl2 := box hC2.len
 have hsl2 := box hS2.len
 have sC := box (fun (w' : World) (hb : Below w.heap.size w w') => sameDesc_any d.config cf1 cf2 w' hB1 (hC1.on hb) (hC2.on hb))
 have sE := box (fun (w' : World) (hb : Below w.heap.size w w') => sameDescs_any d.edges eg1 eg2 w' hB2 hB3 (hE1.on hb) (hE2.on hb))
 have sS := box (fun (w' : World) (hb : Below w.heap.size w w') => sameDesc_any d.subject sj1 sj2 w' hB4 (hS1.on hb) (hS2.on hb))
 have sN := box (fun (w' : World) (hb : Below w.heap.size w w') => sameNotes_any d.notes nt1 nt2 w' hB5 (hN1.on hb) (hN2.on hb))
 obtain ⟨Ae1, ne1, ce1, _, _, hq1, rfl, _, _⟩ := hE1
 obtain ⟨Ae2, ne2, ce2, _, _, hq2, rfl, _, _⟩ := hE2
 obtain ⟨An1, nn1, cn1, _, hq3, rfl, _⟩ := hN1
 obtain ⟨An2, nn2, cn2, _, hq4, rfl, _⟩ := hN2
 clear hq1 hq2 hq3 hq4
 clear hC1 hC2 hS1 hS2 hB1 hB2 hB3 hB4 hB5
 go_enter Tryz.func14, Tryz.ntmps14
 go_wp2_with (first | ((with_reducible refine lst (by with_unfolding_all rfl) (wp_fbox hF0 (cs := (docL d.media d.type cf1 (.slice Ae1 ne1 ce1) sj1 d.has (.slice An1 nn1 cn1))) rfl (by with_unfolding_all rfl) (by with_unfolding_all rfl) ?_)); intro w1 g1 hF1 hz1) | ((with_reducible refine lst (by with_unfolding_all rfl) (wp_fbox hF1 (cs := (docL d.media d.type cf2 (.slice Ae2 ne2 ce2) sj2 d.has (.slice An2 nn2 cn2))) rfl (by with_unfolding_all rfl) (by with_unfolding_all rfl) ?_)); intro w2 g2 hF2 hz2) | (with_reducible refine lst (by with_unfolding_all rfl) (wp_fld1 hF2 Tryz.underlying9 rfl (by with_unfolding_all exact ⟨_, rfl, rfl⟩) docL_m0 ?_)) | (with_reducible refine lst (by with_unfolding_all rfl) (wp_fld1 hF2 Tryz.underlying9 rfl (by with_unfolding_all exact ⟨_, rfl, rfl⟩) docL_t0 ?_)) | (with_reducible refine lst (by with_unfolding_all rfl) (wp_fldA1 hF2 Tryz.underlying37 rfl (by with_unfolding_all exact ⟨_, rfl, rfl⟩) (ds := cf1) (by rw [hcl1.out]; kernel_rfl) (by rw [hcl1.out]; exact docL_cf hcl1.out) ?_)) | (with_reducible refine lst (by with_unfolding_all rfl) (wp_fld1 hF2 Tryz.underlying38 rfl (by with_unfolding_all exact ⟨_, rfl, rfl⟩) (docL_eg hcl1.out) ?_)) | (with_reducible refine lst (by with_unfolding_all rfl) (wp_fldA1 hF2 Tryz.underlying37 rfl (by with_unfolding_all exact ⟨_, rfl, rfl⟩) (ds := sj1) (by rw [hsl1.out]; kernel_rfl) (by rw [hsl1.out]; exact docL_sj hcl1.out hsl1.out) ?_)) | (with_reducible refine lst (by with_unfolding_all rfl) (wp_fld1 hF2 Tryz.underlying4 rfl (by with_unfolding_all exact ⟨_, rfl, rfl⟩) (docL_has hcl1.out hsl1.out) ?_)) | (with_reducible refine lst (by with_unfolding_all rfl) (wp_fld1 hF2 Tryz.underlying35 rfl (by with_unfolding_all exact ⟨_, rfl, rfl⟩) (docL_nt hcl1.out hsl1.out) ?_)) | (with_reducible refine lst (by with_unfolding_all rfl) (wp_fld0 hF2 Tryz.underlying9 rfl (by with_unfolding_all exact ⟨_, rfl, rfl⟩) docL_m0 ?_)) | (with_reducible refine lst (by with_unfolding_all rfl) (wp_fld0 hF2 Tryz.underlying9 rfl (by with_unfolding_all exact ⟨_, rfl, rfl⟩) docL_t0 ?_)) | (with_reducible refine lst (by with_unfolding_all rfl) (wp_fldA0 hF2 Tryz.underlying37 rfl (by with_unfolding_all exact ⟨_, rfl, rfl⟩) (ds := cf2) (by rw [hcl2.out]; kernel_rfl) (by rw [hcl2.out]; exact docL_cf hcl2.out) ?_)) | (with_reducible refine lst (by with_unfolding_all rfl) (wp_fld0 hF2 Tryz.underlying38 rfl (by with_unfolding_all exact ⟨_, rfl, rfl⟩) (docL_eg hcl2.out) ?_)) | (with_reducible refine lst (by with_unfolding_all rfl) (wp_fldA0 hF2 Tryz.underlying37 rfl (by with_unfolding_all exact ⟨_, rfl, rfl⟩) (ds := sj2) (by rw [hsl2.out]; kernel_rfl) (by rw [hsl2.out]; exact docL_sj hcl2.out hsl2.out) ?_)) | (with_reducible refine lst (by with_unfolding_all rfl) (wp_fld0 hF2 Tryz.underlying4 rfl (by with_unfolding_all exact ⟨_, rfl, rfl⟩) (docL_has hcl2.out hsl2.out) ?_)) | (with_reducible refine lst (by with_unfolding_all rfl) (wp_fld0 hF2 Tryz.underlying35 rfl (by with_unfolding_all exact ⟨_, rfl, rfl⟩) (docL_nt hcl2.out hsl2.out) ?_)))
 refine (sC.out _ hF2.below).mono ?_
 rintro e w3 ⟨rfl, hb3⟩
 have hF3 := hF2.call hb3
 go_wp2_with (first | (with_reducible refine lst (by with_unfolding_all rfl) (wp_fld1 hF3 Tryz.underlying9 rfl (by with_unfolding_all exact ⟨_, rfl, rfl⟩) docL_m0 ?_)) | (with_reducible refine lst (by with_unfolding_all rfl) (wp_fld1 hF3 Tryz.underlying9 rfl (by with_unfolding_all exact ⟨_, rfl, rfl⟩) docL_t0 ?_)) | (with_reducible refine lst (by with_unfolding_all rfl) (wp_fldA1 hF3 Tryz.underlying37 rfl (by with_unfolding_all exact ⟨_, rfl, rfl⟩) (ds := cf1) (by rw [hcl1.out]; kernel_rfl) (by rw [hcl1.out]; exact docL_cf hcl1.out) ?_)) | (with_reducible refine lst (by with_unfolding_all rfl) (wp_fld1 hF3 Tryz.underlying38 rfl (by with_unfolding_all exact ⟨_, rfl, rfl⟩) (docL_eg hcl1.out) ?_)) | (with_reducible refine lst (by with_unfolding_all rfl) (wp_fldA1 hF3 Tryz.underlying37 rfl (by with_unfolding_all exact ⟨_, rfl, rfl⟩) (ds := sj1) (by rw [hsl1.out]; kernel_rfl) (by rw [hsl1.out]; exact docL_sj hcl1.out hsl1.out) ?_)) | (with_reducible refine lst (by with_unfolding_all rfl) (wp_fld1 hF3 Tryz.underlying4 rfl (by with_unfolding_all exact ⟨_, rfl, rfl⟩) (docL_has hcl1.out hsl1.out) ?_)) | (with_reducible refine lst (by with_unfolding_all rfl) (wp_fld1 hF3 Tryz.underlying35 rfl (by with_unfolding_all exact ⟨_, rfl, rfl⟩) (docL_nt hcl1.out hsl1.out) ?_)) | (with_reducible refine lst (by with_unfolding_all rfl) (wp_fld0 hF3 Tryz.underlying9 rfl (by with_unfolding_all exact ⟨_, rfl, rfl⟩) docL_m0 ?_)) | (with_reducible refine lst (by with_unfolding_all rfl) (wp_fld0 hF3 Tryz.underlying9 rfl (by with_unfolding_all exact ⟨_, rfl, rfl⟩) docL_t0 ?_)) | (with_reducible refine lst (by with_unfolding_all rfl) (wp_fldA0 hF3 Tryz.underlying37 rfl (by with_unfolding_all exact ⟨_, rfl, rfl⟩) (ds := cf2) (by rw [hcl2.out]; kernel_rfl) (by rw [hcl2.out]; exact docL_cf hcl2.out) ?_)) | (with_reducible refine lst (by with_unfolding_all rfl) (wp_fld0 hF3 Tryz.underlying38 rfl (by with_unfolding_all exact ⟨_, rfl, rfl⟩) (docL_eg hcl2.out) ?_)) | (with_reducible refine lst (by with_unfolding_all rfl) (wp_fldA0 hF3 Tryz.underlying37 rfl (by with_unfolding_all exact ⟨_, rfl, rfl⟩) (ds := sj2) (by rw [hsl2.out]; kernel_rfl) (by rw [hsl2.out]; exact docL_sj hcl2.out hsl2.out) ?_)) | (with_reducible refine lst (by with_unfolding_all rfl) (wp_fld0 hF3 Tryz.underlying4 rfl (by with_unfolding_all exact ⟨_, rfl, rfl⟩) (docL_has hcl2.out hsl2.out) ?_)) | (with_reducible refine lst (by with_unfolding_all rfl) (wp_fld0 hF3 Tryz.underlying35 rfl (by with_unfolding_all exact ⟨_, rfl, rfl⟩) (docL_nt hcl2.out hsl2.out) ?_)))
 refine (sE.out _ hF3.below).mono ?_
 rintro e w4 ⟨rfl, hb4⟩
 have hF4 := hF3.call hb4
 go_wp2_with (first | (with_reducible refine lst (by with_unfolding_all rfl) (wp_fld1 hF4 Tryz.underlying9 rfl (by with_unfolding_all exact ⟨_, rfl, rfl⟩) docL_m0 ?_)) | (with_reducible refine lst (by with_unfolding_all rfl) (wp_fld1 hF4 Tryz.underlying9 rfl (by with_unfolding_all exact ⟨_, rfl, rfl⟩) docL_t0 ?_)) | (with_reducible refine lst (by with_unfolding_all rfl) (wp_fldA1 hF4 Tryz.underlying37 rfl (by with_unfolding_all exact ⟨_, rfl, rfl⟩) (ds := cf1) (by rw [hcl1.out]; kernel_rfl) (by rw [hcl1.out]; exact docL_cf hcl1.out) ?_)) | (with_reducible refine lst (by with_unfolding_all rfl) (wp_fld1 hF4 Tryz.underlying38 rfl (by with_unfolding_all exact ⟨_, rfl, rfl⟩) (docL_eg hcl1.out) ?_)) | (with_reducible refine lst (by with_unfolding_all rfl) (wp_fldA1 hF4 Tryz.underlying37 rfl (by with_unfolding_all exact ⟨_, rfl, rfl⟩) (ds := sj1) (by rw [hsl1.out]; kernel_rfl) (by rw [hsl1.out]; exact docL_sj hcl1.out hsl1.out) ?_)) | (with_reducible refine lst (by with_unfolding_all rfl) (wp_fld1 hF4 Tryz.underlying4 rfl (by with_unfolding_all exact ⟨_, rfl, rfl⟩) (docL_has hcl1.out hsl1.out) ?_)) | (with_reducible refine lst (by with_unfolding_all rfl) (wp_fld1 hF4 Tryz.underlying35 rfl (by with_unfolding_all exact ⟨_, rfl, rfl⟩) (docL_nt hcl1.out hsl1.out) ?_)) | (with_reducible refine lst (by with_unfolding_all rfl) (wp_fld0 hF4 Tryz.underlying9 rfl (by with_unfolding_all exact ⟨_, rfl, rfl⟩) docL_m0 ?_)) | (with_reducible refine lst (by with_unfolding_all rfl) (wp_fld0 hF4 Tryz.underlying9 rfl (by with_unfolding_all exact ⟨_, rfl, rfl⟩) docL_t0 ?_)) | (with_reducible refine lst (by with_unfolding_all rfl) (wp_fldA0 hF4 Tryz.underlying37 rfl (by with_unfolding_all exact ⟨_, rfl, rfl⟩) (ds := cf2) (by rw [hcl2.out]; kernel_rfl) (by rw [hcl2.out]; exact docL_cf hcl2.out) ?_)) | (with_reducible refine lst (by with_unfolding_all rfl) (wp_fld0 hF4 Tryz.underlying38 rfl (by with_unfolding_all exact ⟨_, rfl, rfl⟩) (docL_eg hcl2.out) ?_)) | (with_reducible refine lst (by with_unfolding_all rfl) (wp_fldA0 hF4 Tryz.underlying37 rfl (by with_unfolding_all exact ⟨_, rfl, rfl⟩) (ds := sj2) (by rw [hsl2.out]; kernel_rfl) (by rw [hsl2.out]; exact docL_sj hcl2.out hsl2.out) ?_)) | (with_reducible refine lst (by with_unfolding_all rfl) (wp_fld0 hF4 Tryz.underlying4 rfl (by with_unfolding_all exact ⟨_, rfl, rfl⟩) (docL_has hcl2.out hsl2.out) ?_)) | (with_reducible refine lst (by with_unfolding_all rfl) (wp_fld0 hF4 Tryz.underlying35 rfl (by with_unfolding_all exact ⟨_, rfl, rfl⟩) (docL_nt hcl2.out hsl2.out) ?_)))
 refine (sS.out _ hF4.below).mono ?_
 rintro e w5 ⟨rfl, hb5⟩
 have hF5 := hF4.call hb5
 go_wp2_with (first | (with_reducible refine lst (by with_unfolding_all rfl) (wp_fld1 hF5 Tryz.underlying9 rfl (by with_unfolding_all exact ⟨_, rfl, rfl⟩) docL_m0 ?_)) | (with_reducible refine lst (by with_unfolding_all rfl) (wp_fld1 hF5 Tryz.underlying9 rfl (by with_unfolding_all exact ⟨_, rfl, rfl⟩) docL_t0 ?_)) | (with_reducible refine lst (by with_unfolding_all rfl) (wp_fldA1 hF5 Tryz.underlying37 rfl (by with_unfolding_all exact ⟨_, rfl, rfl⟩) (ds := cf1) (by rw [hcl1.out]; kernel_rfl) (by rw [hcl1.out]; exact docL_cf hcl1.out) ?_)) | (with_reducible refine lst (by with_unfolding_all rfl) (wp_fld1 hF5 Tryz.underlying38 rfl (by with_unfolding_all exact ⟨_, rfl, rfl⟩) (docL_eg hcl1.out) ?_)) | (with_reducible refine lst (by with_unfolding_all rfl) (wp_fldA1 hF5 Tryz.underlying37 rfl (by with_unfolding_all exact ⟨_, rfl, rfl⟩) (ds := sj1) (by rw [hsl1.out]; kernel_rfl) (by rw [hsl1.out]; exact docL_sj hcl1.out hsl1.out) ?_)) | (with_reducible refine lst (by with_unfolding_all rfl) (wp_fld1 hF5 Tryz.underlying4 rfl (by with_unfolding_all exact ⟨_, rfl, rfl⟩) (docL_has hcl1.out hsl1.out) ?_)) | (with_reducible refine lst (by with_unfolding_all rfl) (wp_fld1 hF5 Tryz.underlying35 rfl (by with_unfolding_all exact ⟨_, rfl, rfl⟩) (docL_nt hcl1.out hsl1.out) ?_)) | (with_reducible refine lst (by with_unfolding_all rfl) (wp_fld0 hF5 Tryz.underlying9 rfl (by with_unfolding_all exact ⟨_, rfl, rfl⟩) docL_m0 ?_)) | (with_reducible refine lst (by with_unfolding_all rfl) (wp_fld0 hF5 Tryz.underlying9 rfl (by with_unfolding_all exact ⟨_, rfl, rfl⟩) docL_t0 ?_)) | (with_reducible refine lst (by with_unfolding_all rfl) (wp_fldA0 hF5 Tryz.underlying37 rfl (by with_unfolding_all exact ⟨_, rfl, rfl⟩) (ds := cf2) (by rw [hcl2.out]; kernel_rfl) (by rw [hcl2.out]; exact docL_cf hcl2.out) ?_)) | (with_reducible refine lst (by with_unfolding_all rfl) (wp_fld0 hF5 Tryz.underlying38 rfl (by with_unfolding_all exact ⟨_, rfl, rfl⟩) (docL_eg hcl2.out) ?_)) | (with_reducible refine lst (by with_unfolding_all rfl) (wp_fldA0 hF5 Tryz.underlying37 rfl (by with_unfolding_all exact ⟨_, rfl, rfl⟩) (ds := sj2) (by rw [hsl2.out]; kernel_rfl) (by rw [hsl2.out]; exact docL_sj hcl2.out hsl2.out) ?_)) | (with_reducible refine lst (by with_unfolding_all rfl) (wp_fld0 hF5 Tryz.underlying4 rfl (by with_unfolding_all exact ⟨_, rfl, rfl⟩) (docL_has hcl2.out hsl2.out) ?_)) | (with_reducible refine lst (by with_unfolding_all rfl) (wp_fld0 hF5 Tryz.underlying35 rfl (by with_unfolding_all exact ⟨_, rfl, rfl⟩) (docL_nt hcl2.out hsl2.out) ?_)))
 refine (sN.out _ hF5.below).mono ?_
 rintro e w6 ⟨rfl, hb6⟩
 have hF6 := hF5.call hb6
 go_wp2_with fail
 go_ret
 exact ⟨by simp, hF6.below⟩
end Go.Proofs.YtlhicfpmlncomaaGreatDoor
