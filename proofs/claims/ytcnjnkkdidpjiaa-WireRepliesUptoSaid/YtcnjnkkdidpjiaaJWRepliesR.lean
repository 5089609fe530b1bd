/-
  The law WireReplies: for every input of bulk at most 1048576 the call returns true, and the input reads as it did.
-/
import Derived.Test.YtcnjnkkdidpjiaaRows
import Derived.Test.YtcnjnkkdidpjiaaJ02
import Derived.Test.YtcnjnkkdidpjiaaJ24
import Derived.JoinedCond
import Derived.Test.YtcnjnkkdidpjiaaJ25
namespace Go.Proofs.Ytcnjnkkdidpjiaa.wireReplies
open Go.ChangeShapes Go.WideShapes Go.ChangeAt Go.RowKit
open Go.ChangeMaps (open_string shut_string)
set_option linter.unusedVariables false
set_option linter.unusedSimpArgs false

theorem own : ownKnob Try.prog.godebug = none := by kernel_rfl
theorem laidOut : laidOutB Try.prog = true := by kernel_rfl

set_option maxRecDepth 100000 in
theorem contract (H : Type) (enc : TypeId × Value → H) (W : World) (base : Nat) (args : Array Value) (ds gs : List (DataW H)) (before : List MemPlace) (hk : Rows.uptoSmall H (ds ++ gs) = true)
    (hval : ∀ (j : Nat) t v, Try.f5.params[j]? = some t → args[j]? = some v → Value.okWide Try.prog W .any base t v)
    (hW : DataW.Whole enc Try.prog Try.f5.params.toList Rows.wireRepliesSpec.vars false W args.toList ds gs before) :
    Calls Try.prog 5 args W fun e W' => ∃ v, e = .returned v ∧ Rows.wireRepliesSpec.post enc Try.prog Try.f5 false true false false W args v W' := by
  have hW' := hW
  have hk2 := of_decide_eq_true hk
  obtain ⟨p, q, hA0, hV, rfl, hfz, hnd⟩ := hW
  have hA : DataW.TrodAll enc Try.prog W 0 (fun _ => true) true Try.f5.params.toList args.toList ds p := hA0
  rw [Try.params5] at hA hval
  obtain ⟨v0, vs0, d0, ds0, p0, q0, hargs, rfl, rfl, h0, r0⟩ := trodAll_cons hA
  obtain ⟨v1, vs1, d1, ds1, p1, q1, rfl, rfl, rfl, h1, r1⟩ := trodAll_cons r0
  obtain ⟨rfl, rfl, rfl⟩ := trodAll_nil r1
  obtain rfl : args = #[v0, v1] := by cases args; simp_all
  obtain ⟨rfl, rfl⟩ := trodVars_none hV
  obtain ⟨a1, len1, cap1, rfl⟩ := okWide_slice Try.underlying23 (hval 1 23 v1 rfl rfl)
  have k1 := h1
  have lt1 : ∀ x ∈ p1, x.block < W.heap.size := by obtain ⟨m, hm⟩ := k1; exact DataW.trod_lt m _ _ _ hm
  obtain ⟨l1, hlc1, hcm1, hr1, hd1⟩ := bytes_in Try.underlying23 Try.underlying5 (by kernel_rfl) h1
  have k0 := h0
  have lt0 : ∀ x ∈ p0, x.block < W.heap.size := by obtain ⟨m, hm⟩ := k0; exact DataW.trod_lt m _ _ _ hm
  obtain ⟨R0, A0, B0, C0, c0, cb0, cc0, rfl, hr0, hb0, hbs0, hbt0⟩ := rep_in ⟨Try.underlying47, by kernel_rfl, rfl, by kernel_rfl, by kernel_rfl, Try.underlying5, by kernel_rfl, Try.underlying9, by kernel_rfl, Try.underlying22, by kernel_rfl⟩ (hval 0 47 v0 rfl rfl) h0
  have hbulk : Rows.uptoBulk (d0 : DataW H) + Rows.uptoBulk (d1 : DataW H) ≤ 1048576 := by
    simp only [Rows.uptoBulkAll, List.append_nil, List.cons_append, List.nil_append] at hk2; omega
  have hu1 : cap1 + 1 ≤ Rows.uptoBulk d1 := by
    rcases hd1 with ⟨rfl, h⟩ | ⟨es, sp, rfl, h⟩
    · simp [Rows.uptoBulk, h]
    · have := bulk_cap es sp; omega
  clear hval
  refine (wireReplies_any R0 A0 B0 C0 c0 cb0 cc0 a1 len1 cap1 l1 W hr0 (by omega) (by omega) (by omega) (by omega) hlc1 hr1).mono fun e W' ⟨he, bel⟩ => ?_
  subst he
  exact ⟨_, rfl, _, _, _, [], _, [], hW', trodAll_mk1 (shut_bool Try.underlying4 _), (trodAll_cons_mk (Below.trod laidOut (by kernel_rfl) (of_decide_eq_true (by kernel_rfl)) k0 bel lt0) (trodAll_cons_mk (Below.trod laidOut (by kernel_rfl) (of_decide_eq_true (by kernel_rfl)) k1 bel lt1) trodAll_mk0)), rfl, bel.frame _, fun h => by cases h⟩

set_option maxRecDepth 100000 in
theorem lifted (os : Os) (started : os.Started) (H : Type) (enc : TypeId × Value → H) (F : Stop.Interp) :
    ReturnsInHanded {} Try.checked os 5 .any ((Rows.OpenSpec.upto Rows.wireRepliesSpec).pre6 enc Try.prog Try.f5 Rows.wireRepliesUptoRow.domain false) (((Rows.OpenSpec.upto Rows.wireRepliesSpec).at F).post enc Try.prog Try.f5 false true false false) := by
  refine returnsInHanded_of_cond (C := Try.checked) (s := Rows.OpenSpec.upto Rows.wireRepliesSpec) (k := Rows.uptoSmall) rfl own started (by kernel_rfl) Try.func5
    (OpenSpec.witness (enc := enc) (C := Try.checked) (s := Rows.OpenSpec.upto Rows.wireRepliesSpec) (k := Rows.uptoSmall) rfl false ⟨#[], #[.agg (Rep.zero.cells none none none 0 0 0).toArray, .slice none 0 0], []⟩ 8 (by kernel_rfl) (by kernel_rfl) (by kernel_rfl)
      (x := ([.agg [.lit (.int .i64 0), .agg (List.replicate 32 (.lit (.int .u8 0))), .lit (.int .i64 0), .lit (.int .i64 0), .nil, .nil, .nil], .nil], [], [])) (by kernel_rfl) rfl (by kernel_rfl)) ?_
  intro W base args ds gs before hval hW _ hk _
  exact contract H enc W base args ds gs before hk hval hW

/-- The statement. -/
theorem proved : Rows.WireRepliesUptoSaid :=
  OpenClaim.holds_of_cond 5 Try.f5 rfl rfl rfl rfl rfl rfl rfl ⟨rfl, rfl, rfl, rfl, rfl⟩ rfl rfl rfl rfl rfl (by kernel_rfl) Try.func5 (by kernel_rfl)
    (of_decide_eq_true (by kernel_rfl)) (by unfold Func.isWrapper; rw [if_neg (by decide +kernel)]; exact ⟨rfl, rfl⟩)
    (fun os started H enc _ F => lifted os started H enc F)
end Go.Proofs.Ytcnjnkkdidpjiaa.wireReplies
