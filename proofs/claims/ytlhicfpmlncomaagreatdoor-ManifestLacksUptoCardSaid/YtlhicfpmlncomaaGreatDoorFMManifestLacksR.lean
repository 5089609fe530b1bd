/-
 The law ManifestLacks: for every input of bulk at most 1048576 the call returns true, and the input reads as it did.
-/
import Derived.Test.YtlhicfpmlncomaaGreatDoorRows
import Derived.Test.YtlhicfpmlncomaaGreatDoorF01
import Derived.Test.YtlhicfpmlncomaaGreatDoorF19
import Derived.JoinedCond
import Derived.Test.YtlhicfpmlncomaaGreatDoorCards
import Derived.Test.YtlhicfpmlncomaaGreatDoorF20
import Derived.Test.YtlhicfpmlncomaaGreatDoorTie
import Derived.ProofKit
import Derived.OpenShut
import Derived.LaidMore
import Derived.LaidLaws
import Derived.Lay
import Derived.Deep.DeepHandedRow
import Derived.Test.YtlhicfpmlncomaaGreatDoorF05
import Derived.Test.YtlhicfpmlncomaaGreatDoorF00
set_option linter.unusedSimpArgs false
set_option linter.unusedVariables false
namespace Go.Proofs.YtlhicfpmlncomaaGreatDoor.manifestLacks
open Go.ChangeShapes Go.WideShapes Go.ChangeAt Go.RowKit
open Go.ChangeMaps (open_string shut_string)
theorem own : ownKnob Tryz.prog.godebug = none := by kernel_rfl
theorem laidOut : laidOutB Tryz.prog = true := by kernel_rfl
set_option maxRecDepth 100000 in
theorem contract (H : Type) (enc : TypeId × Value → H) (W : World) (base : Nat) (args : Array Value) (ds gs : List (DataW H)) (before : List MemPlace) (hk : Rows.uptoSmall H (ds ++ gs) = true) (hsh : W.ShapedOpen Tryz.prog) (hlaid : laidMetH Tryz.prog Rows.manifestLacksUptoRow.laid W)
  (hval : ∀ (j : Nat) t v, Tryz.f6.params[j]? = some t → args[j]? = some v → Value.okWide Tryz.prog W .any base t v)
  (hW : DataW.Whole enc Tryz.prog Tryz.f6.params.toList Rows.manifestLacksSpec.vars false W args.toList ds gs before) :
  Calls Tryz.prog 6 args W fun e W' => ∃ v, e = .returned v ∧ Rows.manifestLacksSpec.post enc Tryz.prog Tryz.f6 false true false false W args v W' := by
 have hW' := hW
 have hk2 := of_decide_eq_true hk
 obtain ⟨p, q, hA0, hV, rfl, hfz, hnd⟩ := hW
 have hA : DataW.TrodAll enc Tryz.prog W 0 (fun _ => true) true Tryz.f6.params.toList args.toList ds p := hA0
 rw [Tryz.params6] at hA hval
 obtain ⟨v0, vs0, d0, ds0, p0, q0, hargs, rfl, rfl, h0, r0⟩ := trodAll_cons hA
 obtain ⟨v1, vs1, d1, ds1, p1, q1, rfl, rfl, rfl, h1, r1⟩ := trodAll_cons r0
 obtain ⟨v2, vs2, d2, ds2, p2, q2, rfl, rfl, rfl, h2, r2⟩ := trodAll_cons r1
 obtain ⟨rfl, rfl, rfl⟩ := trodAll_nil r2
 obtain rfl : args = #[v0, v1, v2] := by cases args; simp_all
 obtain ⟨rfl, rfl⟩ := trodVars_none hV
 obtain ⟨a1, rfl, rfl, rfl, w1⟩ := open_int uq3 (hval 1 3 v1 rfl rfl) h1
 have hi1 := i64_of_wf w1
 obtain ⟨s2, rfl, rfl, rfl, hs2⟩ := open_string uq9 (hval 2 9 v2 rfl rfl) h2
 have k0 := h0
 have lt0 : ∀ x ∈ p0, x.block < W.heap.size := by obtain ⟨m, hm⟩ := k0; exact DataW.trod_lt m _ _ _ hm
 obtain ⟨D0, cs0, rfl, hv0, hw0⟩ := mdoc_in ⟨uq40, by kernel_rfl, rfl, by kernel_rfl, by kernel_rfl, ⟨rfl, rfl⟩⟩ ⟨uq37, by kernel_rfl, rfl, by kernel_rfl, by kernel_rfl, uq5, by kernel_rfl⟩ ⟨uq149, by kernel_rfl, rfl, by kernel_rfl, by kernel_rfl⟩ (hval 0 40 v0 rfl rfl) h0
 have hbulk : Rows.uptoBulk (d0 : DataW H) + Rows.uptoBulk (DataW.lit (.string s2.data.toList) : DataW H) ≤ 1048576 := by
  simp only [Rows.uptoBulkAll, List.append_nil, List.cons_append, List.nil_append] at hk2; omega
 have hu2 : s2.size + 1 ≤ Rows.uptoBulk (DataW.lit (.string s2.data.toList) : DataW H) := by simp [Rows.uptoBulk]
 clear hval
 refine (manifestLacks_any D0 cs0 a1 s2 W (mlibs_of W hsh hlaid) hv0 (by omega) (by omega)).mono fun e W' ⟨he, bel⟩ => ?_
 subst he
 exact ⟨_, rfl, _, _, _, [], _, [], hW', trodAll_mk1 (shut_bool uq4 _), (trodAll_cons_mk (Below.trod laidOut (by kernel_rfl) (of_decide_eq_true (by kernel_rfl)) k0 bel lt0) (trodAll_cons_mk (shut_int uq3 w1) (trodAll_cons_mk (shut_string uq9 hs2) trodAll_mk0))), rfl, bel.frame _, fun h => by cases h⟩
theorem laid_met (os : Os) : laidMetH Tryz.prog Rows.manifestLacksUptoRow.laid ((mWorld os).forCall (fun _ _ => 0) ⟨#[], #[.agg (List.toArray doc0), .int .i64 0, .string ByteArray.empty], []⟩).memory := mWorld_met os _
theorem reads (os : Os) {H : Type} (enc : TypeId × Value → H) : ∃ places, DataW.whole enc Tryz.prog ((mWorld os).forCall (fun _ _ => 0) ⟨#[], #[.agg (List.toArray doc0), .int .i64 0, .string ByteArray.empty], []⟩).memory Tryz.f6.params.toList Rows.manifestLacksSpec.vars false (#[.agg (List.toArray doc0), .int .i64 0, .string ByteArray.empty] : Array Value).toList 8 = some ([.agg [.lit (.string []), .lit (.string []), .agg [.lit (.string []), .agg (List.replicate 32 (.lit (.int .u8 0))), .lit (.int .i64 0), .nil], .nil, .agg [.lit (.string []), .agg (List.replicate 32 (.lit (.int .u8 0))), .lit (.int .i64 0), .nil], .lit (.bool false), .nil], .lit (.int .i64 0), .lit (.string [])], [], places) :=
 ⟨[], by kernel_rfl⟩
set_option maxRecDepth 100000 in
theorem lifted (os : Os) (started : os.Started) (H : Type) (enc : TypeId × Value → H) (F : Stop.Interp) :
  ReturnsInHanded {} Tryz.checked os 6 .any ((Rows.OpenSpec.upto Rows.manifestLacksSpec).preRow enc Tryz.prog Tryz.f6 Rows.manifestLacksUptoRow.domain false Rows.manifestLacksUptoRow.laid) (((Rows.OpenSpec.upto Rows.manifestLacksSpec).at F).post enc Tryz.prog Tryz.f6 false true false false) := by
 obtain ⟨places, hx⟩ := reads os enc
 refine returnsInHanded_of_row (C := Tryz.checked) (s := Rows.OpenSpec.upto Rows.manifestLacksSpec) own started (by kernel_rfl) Tryz.func6
  ⟨mWorld os, fun _ _ => 0, ⟨#[], #[.agg (List.toArray doc0), .int .i64 0, .string ByteArray.empty], []⟩, mWorld_os os, World.shaped_of_ZipB (by kernel_rfl) (by kernel_rfl), rfl, (Input.okWide_of_okWideB (base := 0) (by kernel_rfl)).2,
   OpenSpec.preRow_of_cond 8 hx (by kernel_rfl) (fun k hk => by cases hk; kernel_rfl) (by kernel_rfl) (laid_met os), by
    simp only [Assume.holds]
    exact ⟨by simp, by simp, fun _ => Modest.zero, by simp, by simp⟩⟩ ?_
 intro W base args ds gs before hval hW _ hk _ hlaid hsh _
 exact contract H enc W base args ds gs before (hk _ rfl) hsh hlaid hval hW
theorem said : Rows.ManifestLacksUptoSaid :=
 OpenClaim.holds_of_cond 6 Tryz.f6 rfl rfl rfl rfl rfl rfl rfl ⟨rfl, rfl, rfl, rfl, rfl⟩ rfl rfl rfl rfl rfl (by kernel_rfl) Tryz.func6 (by kernel_rfl)
  (of_decide_eq_true (by kernel_rfl)) (by unfold Func.isWrapper; first | (rw [if_pos (by decide +kernel)]; kernel_rfl) | (rw [if_neg (by decide +kernel)]; exact ⟨rfl, rfl⟩))
  (fun os started H enc _ F => by rw [OpenClaim.pre_eq_preRow]; exact lifted os started H enc F)
theorem plain (f : FuncId) (fn : Func) (hf : Tryz.pinned.checked.prog.funcNamed "hallmark/hallmarklaw08.ManifestLacks" = some f) (hfn : Tryz.pinned.checked.prog.funcs[f]? = some fn) :
  true = Tryz.pinned.checked.prog.looks [] ∧ ∀ (j : Nat) t, fn.params[j]? = some t → Tryz.pinned.checked.prog.wantsStandIn t = false := by
 obtain rfl : f = 6 := Option.some.inj ((show Tryz.prog.funcNamed "hallmark/hallmarklaw08.ManifestLacks" = some 6 by kernel_rfl).symm.trans hf) |>.symm
 obtain rfl : fn = Tryz.f6 := (Option.some.inj (Tryz.func6.symm.trans hfn)).symm
 refine ⟨by kernel_rfl, fun j t ht => ?_⟩
 rw [Tryz.params6] at ht
 have hall : (([40, 3, 9] : List TypeId).all fun u => !Tryz.prog.wantsStandIn u) = true := by kernel_rfl
 have hm : t ∈ ([40, 3, 9] : List TypeId) := by have := Array.mem_of_getElem? ht; simpa using this
 exact (show Tryz.prog.wantsStandIn t = false by simpa using List.all_eq_true.1 hall t hm)
theorem proved : Rows.ManifestLacksUptoCardSaid :=
 Claim7.holds_tied_plain_at .later [] _ _ _ _ said (fun _ h => by cases h) (by kernel_rfl) (fun _ h => by cases h) manifestLacksUpto_row_tie rfl ⟨rfl, rfl⟩ (by kernel_rfl) rfl plain (by kernel_rfl)
end Go.Proofs.YtlhicfpmlncomaaGreatDoor.manifestLacks
