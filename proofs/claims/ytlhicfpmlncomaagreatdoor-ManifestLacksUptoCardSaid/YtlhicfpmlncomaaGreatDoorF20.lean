/-
 Layer 8: what the rows' listed variables hold, in the walks' words; a world that holds it.
-/
import Derived.Test.YtlhicfpmlncomaaGreatDoorF11
import Derived.Test.YtlhicfpmlncomaaGreatDoorRows
import Derived.Lib.LaidU8T
import Derived.Stop.LaidErr
import Derived.Lib.LaidTab
import Derived.MakeChecks
import Derived.LaidLaws
import Derived.LaidHandle
import Derived.LaidMore
import Derived.Lay
import Derived.Shelf.Vars
import Derived.Test.YtlhicfpmlncomaaGreatDoorF00
set_option linter.unusedSimpArgs false
set_option linter.unusedVariables false
namespace Go.Proofs.YtlhicfpmlncomaaGreatDoor
open Go.RowKit Go.Lib
theorem cell_old {w w' : World} (hb : Below w.heap.size w w') {a : Addr} {v : Value} (h : w.cell? a = some v) : w'.cell? a = some v := by
 have hlt : a.block < w.heap.size := by
  rcases Nat.lt_or_ge a.block w.heap.size with h' | h'
  ·exact h'
  ·exfalso
   unfold World.cell? at h
   rw [Array.getElem?_eq_none h'] at h
   cases h
 rw [← h]
 exact World.cell?_of_block (w := w) (hb.block _ hlt)
theorem var_old {P : Program} {w w' : World} (hb : Below w.heap.size w w') {n : String} {cs : Array Value} (h : w.var? P n = some cs) : w'.var? P n = some cs := by
 unfold World.var? at *
 cases hg : P.globalNamed n with
 | none => simp [hg] at h
 | some g =>
  simp only [hg, Option.bind_some] at h ⊢
  have hlt : g < w.heap.size := by
   rcases Nat.lt_or_ge g w.heap.size with h' | h'
   ·exact h'
   ·rw [Array.getElem?_eq_none h'] at h; simp at h
  rw [hb.block g hlt]
  exact h
theorem first_eq : Rows.laid_unicode_utf8_first = firstData := by kernel_rfl
theorem accept_eq : (Rows.laid_unicode_utf8_acceptRanges : DataW Unit) = acceptData := by kernel_rfl
theorem pow_eq : (Rows.laid_internal_strconv_uint64pow10 : DataW Unit) = tabData .u64 pow10Tab := by kernel_rfl
theorem star_errs : "*" ++ "errors.errorString" = "*errors.errorString" := by decide
theorem row_errs (u : TypeId) (h : Tryz.prog.typeName? 3 u = some "*errors.errorString") : u = 254 :=
 typeName_ptr_named (nm := "errors.errorString") (by rw [star_errs]; kernel_rfl) (by kernel_rfl) (by decide) u (by rw [star_errs]; exact h)
theorem row_ints : Tryz.prog.globalNamed "errors.errorType" = some 0 := by kernel_rfl
theorem row_rt : (Tryz.prog.cutTypes.find? (·.1 == "internal/reflectlite.rtype")).map (·.2) = some 177 := by kernel_rfl
theorem row_err : ((List.range Tryz.prog.types.size).filter fun t => Tryz.prog.rowNamed t [101, 114, 114, 111, 114]) = [80] := by kernel_rfl
theorem row_handle : typeHandle Tryz.prog 80 = .pointer (some ⟨9, 80, none⟩) := by kernel_rfl
def mPlain : List (String × DataW Unit) := [("math/bits.deBruijn32tab", Rows.laid_math_bits_deBruijn32tab), ("math/bits.deBruijn64tab", Rows.laid_math_bits_deBruijn64tab), ("internal/strconv.uint64pow10", Rows.laid_internal_strconv_uint64pow10), ("unicode/utf8.acceptRanges", Rows.laid_unicode_utf8_acceptRanges), ("strconv.ErrRange", Rows.laid_strconv_ErrRange), ("strconv.ErrSyntax", Rows.laid_strconv_ErrSyntax), ("unicode/utf8.first", Rows.laid_unicode_utf8_first)]
theorem laid_both (W : World) (h : laidMetH Tryz.prog Rows.manifestReadsUptoRow.laid W) : laidMet Tryz.prog mPlain W ∧ handlesMet Tryz.prog [("errors.errorType", Rows.laid_errors_errorType)] W := h
theorem handle_of (W : World) (h : handlesMet Tryz.prog [("errors.errorType", Rows.laid_errors_errorType)] W) : W.cell? ⟨0, 0, none⟩ = some (.iface 177 (.agg #[.pointer (some ⟨9, 80, none⟩)])) := by
 obtain ⟨name, u, ty, e1, e2, e3, e4, e5⟩ := h _ (List.mem_singleton.2 rfl)
 have en : name = [101, 114, 114, 111, 114] := (Option.some.inj e1).symm
 subst en
 obtain rfl := Option.some.inj (row_rt.symm.trans e2)
 have hm : ty ∈ (List.range Tryz.prog.types.size).filter fun t => Tryz.prog.rowNamed t [101, 114, 114, 111, 114] := List.mem_filter.2 ⟨List.mem_range.2 e3, e4⟩
 rw [row_err] at hm
 obtain rfl := List.mem_singleton.1 hm
 rw [row_handle] at e5
 simpa using World.var?_cell row_ints e5 0
theorem maxW_of {w : World} (h : w.ShapedOpen Tryz.prog) : MaxW w := Go.Proofs.cell_of_shapedOpen_int (zero := #[.int .i64 0]) (t := 3) h (of_decide_eq_true (by kernel_rfl)) (by kernel_rfl) rfl (by kernel_rfl) (by kernel_rfl) uq3
theorem libs_of (W : World) (hL : laidMet Tryz.prog mPlain W) : LibsAt W.heap.size W := by
 have hL2 : laidMet Tryz.prog [("math/bits.deBruijn32tab", Rows.laid_math_bits_deBruijn32tab), ("math/bits.deBruijn64tab", Rows.laid_math_bits_deBruijn64tab), ("internal/strconv.uint64pow10", Rows.laid_internal_strconv_uint64pow10), ("unicode/utf8.acceptRanges", Rows.laid_unicode_utf8_acceptRanges), ("strconv.ErrRange", Rows.laid_strconv_ErrRange), ("strconv.ErrSyntax", Rows.laid_strconv_ErrSyntax), ("unicode/utf8.first", Rows.laid_unicode_utf8_first)] W := hL
 rw [first_eq, accept_eq, pow_eq] at hL2
 have hU : U8Tabs W := utf8Tabs_of_readsT (U8Types.of196 Tryz.laysValid) ⟨by kernel_rfl, by kernel_rfl, by kernel_rfl, by kernel_rfl, by kernel_rfl, by kernel_rfl, by kernel_rfl⟩ (laidMet.reads hL2 (by simp)) (laidMet.reads hL2 (by simp))
 have hP : TabIs Tryz.prog W "internal/strconv.uint64pow10" .u64 pow10Tab := tabIs_of_head (g := 6) (by kernel_rfl) (by kernel_rfl) (t := 249) uq249 uq224 (by kernel_rfl) (by kernel_rfl) hL2.tail.tail
 obtain ⟨a1, s1, hv1, _⟩ := laid_sentinel (g := 5) hL2.tail.tail.tail.tail (by kernel_rfl) (by kernel_rfl) uq80 row_errs uq254 uq256 rfl rfl uq9 (by kernel_rfl) (by kernel_rfl)
 obtain ⟨a2, s2, hv2, _⟩ := laid_sentinel (g := 4) hL2.tail.tail.tail.tail.tail (by kernel_rfl) (by kernel_rfl) uq80 row_errs uq254 uq256 rfl rfl uq9 (by kernel_rfl) (by kernel_rfl)
 exact ⟨fun w' hb => ⟨fun c hc => cell_old hb (hU.1 c hc), fun i hi => ⟨cell_old hb (hU.2 i hi).1, cell_old hb (hU.2 i hi).2⟩⟩, tabBelow_of_tabIs hP, ⟨_, _, fun w' hb => var_old hb hv2⟩, ⟨_, _, fun w' hb => var_old hb hv1⟩⟩
theorem mlibs_of (W : World) (hs : W.ShapedOpen Tryz.prog) (h : laidMetH Tryz.prog Rows.manifestReadsUptoRow.laid W) : MLibs W.heap.size W := by
 obtain ⟨h1, h2⟩ := laid_both W h
 exact ⟨libs_of W h1, fun w' hb => by
  obtain ⟨m, hm⟩ := maxW_of hs
  exact ⟨m, cell_old hb hm⟩, fun w' hb => cell_old hb (handle_of W h2)⟩
noncomputable def mWorld0 (os : Os) : World :=
 let w0 := World.holding Tryz.prog os ⟨#[], #[], []⟩
 { w0 with heap := w0.heap.modify 0 fun
   | .cells _ t frozen => .cells #[.iface 177 (.agg #[.pointer (some ⟨9, 80, none⟩)])] t frozen
   | o => o }
noncomputable def mWorld (os : Os) : World := (mWorld0 os).layVars Tryz.prog mPlain
theorem mWorld_plain (os : Os) : laidMet Tryz.prog mPlain (mWorld os) := by
 have e1 : (mPlain.filter fun x => (mPlain.map (·.1)).contains x.1) = mPlain := List.filter_eq_self.2 fun x hx => List.contains_iff_mem.2 (List.mem_map.2 ⟨x, hx, rfl⟩)
 have e2 : (mPlain.filter fun x => !(mPlain.map (·.1)).contains x.1) = [] := List.filter_eq_nil_iff.2 fun x hx => by rw [List.contains_iff_mem.2 (List.mem_map.2 ⟨x, hx, rfl⟩)]; simp
 exact laidMet_layVars (w0 := mWorld0 os) (mPlain.map (·.1)) [] (by rw [e1]; rfl) (by rw [e1]; kernel_rfl) (by rw [e1]; kernel_rfl) (by rw [e2]; exact LaidIn.none)
theorem mWorld_met (os : Os) (args : Array Value) : laidMetH Tryz.prog Rows.manifestReadsUptoRow.laid ((mWorld os).forCall (fun _ _ => 0) ⟨#[], args, []⟩).memory :=
 laidMetH_of_parts (show laidMet Tryz.prog mPlain _ from (mWorld_plain os).of_heap (by simp [World.memory, World.forCall, Input.heap])) (by kernel_rfl)
theorem mWorld_os (os : Os) : (mWorld os).os = os := World.layVars_os _ _ _
end Go.Proofs.YtlhicfpmlncomaaGreatDoor
