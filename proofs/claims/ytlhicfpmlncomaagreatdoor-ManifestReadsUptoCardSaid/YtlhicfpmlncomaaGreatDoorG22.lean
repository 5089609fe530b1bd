/-
 Layer 8: the law ManifestReads, walked.
 Layer 8: what the rows' listed variables hold, in the walks' words; a world that holds it.
 What the second form's bound gives of a slice: its room.
-/
import Derived.Test.YtlhicfpmlncomaaGreatDoorG20
import Derived.Test.YtlhicfpmlncomaaGreatDoorG02
import Derived.Test.YtlhicfpmlncomaaGreatDoorG21
import Derived.Test.YtlhicfpmlncomaaGreatDoorG11
import Derived.Test.YtlhicfpmlncomaaGreatDoorRows
import Derived.Lib.LaidU8T
import Derived.Stop.LaidErr
import Derived.Lib.LaidTab
import Derived.MakeChecks
import Derived.LaidLaws
import Derived.LaidHandle
import Derived.LaidMore
import Derived.Lay
import Derived.Shelf.Vars
namespace Go.Proofs.YtlhicfpmlncomaaGreatDoor
open Go.RowKit
set_option linter.unusedSimpArgs false
set_option linter.unusedVariables false
theorem mDc_mb (b : List UInt8) : MB (mDc (mParse b)) := by
 cases h : mParse b with
 | ok d => exact (mParse_mb h).mb
 | error e => exact MBs.zero.mb
set_option maxRecDepth 20000 in
set_option maxHeartbeats 12800000 in
theorem manifestReads_any (A : Option Addr) (n c : Nat) (b : List UInt8) (w : World) (hL : MLibs w.heap.size w) (hnc : n ≤ c) (hn47 : n ≤ 1048576) (hr : Rd w (· < w.heap.size) A 1 n (b.map bv)) :
  Calls Tryz.prog 3 #[.slice A n c] w fun e w' => e = .returned (.bool true) ∧ Below w.heap.size w w' := by
 have hmb := box (mDc_mb b)
 obtain ⟨R, hR⟩ : ∃ R, R = mParse b := ⟨_, rfl⟩
 have hbl := hr.bytes_len
 have htw := box (twin_any A n c b w (by omega) hr)
 have hn48 : n ≤ 140737488355328 := by omega
 have hsb := box (fun (A1 : Option Addr) (c1 : Nat) (w' : World) hr1 hr2 => sameB_self A A1 n n c c1 b w' (by omega) hr1 hr2)
 have hp0 := box (fun (w' : World) (hb : Below w.heap.size w w') => mparse_any A n c b w' ((hL.on hb).up hb.size) hnc hn48 (hr.on hb))
 have hq0 := box (fun (w' : World) (hb : Below w.heap.size w w') => rmparse_any A n c b w' hnc hn48 (hr.on hb))
 rw [← hR] at hmb hp0 hq0
 clear hR
 go_enter Tryz.func3, Tryz.ntmps3
 go_wp2_with fail
 refine htw.out.mono ?_
 rintro e w1 ⟨v1, rfl, ho, hb1⟩
 obtain ⟨A1, c1, rfl, hc1, hr1⟩ := ho.arg
 rw [hbl] at hc1 hr1 ⊢
 have hrw := hr.on hb1
 have hLw := (hL.on hb1).up hb1.size
 replace hbl := box hbl
 replace hn47 := box hn47
 replace hn48 := box hn48
 clear htw ho
 have hp := box (hp0.out w1 hb1)
 go_wp2_with fail
 refine hp.out.mono ?_
 rintro e w2 ⟨cs, es, rfl, hD, hF2⟩
 have hvl := box hD.len
 have hvo := box hD.ones
 replace hD := box hD
 clear hp hp0
 go_upto_region 3 with (first | ((with_reducible refine lst (by with_unfolding_all rfl) (wp_falloc hF2 (cs := doc0) (z := .agg (List.toArray (doc0))) rfl (by kernel_rfl) (by with_unfolding_all rfl) ?_)); intro w3 g3 hF3 hz3) | ((with_reducible refine lst (by with_unfolding_all rfl) (wp_fstA0 hF3 (by with_unfolding_all exact ⟨_, _, rfl, rfl, rfl⟩) (by rw [hvl.out]; kernel_rfl) hvo.out (by rw [hvl.out]; decide) (spl_all (by rw [hvl.out, doc0_len])) ?_)); intro w4 hF4 hz4))
 clear hF2 hF3
 have hq := box (hq0.out w4 (hb1.trans (hF4.below.mono hb1.size)))
 go_wp2_with fail
 refine hq.out.mono ?_
 rintro e w5 ⟨cs5, es5, rfl, hD5, h5⟩
 have hF5 := hF4.joinR h5
 simp only [List.cons_append] at hF5
 have hvl5 := box hD5.len
 have hvo5 := box hD5.ones
 replace hD5 := box hD5
 clear hq hq0 h5 hF4
 go_upto_region 4 with (first | ((with_reducible refine lst (by with_unfolding_all rfl) (wp_falloc hF5 (cs := doc0) (z := .agg (List.toArray (doc0))) rfl (by kernel_rfl) (by with_unfolding_all rfl) ?_)); intro w6 g6 hF6 hz6) | ((with_reducible refine lst (by with_unfolding_all rfl) (wp_fstA0 hF6 (by with_unfolding_all exact ⟨_, _, rfl, rfl, rfl⟩) (by rw [hvl5.out]; kernel_rfl) hvo5.out (by rw [hvl5.out]; decide) (spl_all (by rw [hvl5.out, doc0_len])) ?_)); intro w7 hF7 hz7))
 clear hF5 hF6
 have hfr1 := box (fun (w' : World) (es' : List Ent) (hF : Fr [] w1 w' es') (hs : ∀ e ∈ es, e ∈ es') => From_any (mDc R) cs w' (hD.out.rdDoc hF hs) hmb.out)
 have hFd := hF7.drew
 clear hF7
 refine wp_region_held (S := fun w' => w'.heap[g6]? = some (.cells (List.toArray cs5) 40 (0, 0)) ∧ w'.heap[g3]? = some (.cells (List.toArray cs) 31 (0, 0))) (by kernel_rfl) ?_
 change wpAnyH _ _ _ _ _ _ _ _ (World.drew _)
 refine rdy1 0 (fun K hK => ?_)
 refine stp (by with_unfolding_all rfl) (wp_call Tryz.func13 rfl (by with_unfolding_all rfl) (by with_unfolding_all rfl) (by with_unfolding_all rfl) (mawake_any _ _ (hFd.below.size) (hLw.on hFd.below)) ?_)
 rintro e w31 ⟨rfl, hb31⟩
 refine ⟨_, rfl, ?_⟩
 have hF31 := hFd.call hb31
 refine hK.out _ _ (⟨hF31.blk (i := 0) rfl, hF31.blk (i := 1) rfl⟩) (fun _ => ?_)
 clear hK K
 (try simp only [Act.put, List.setIfInBounds_toArray, List.set_cons_zero, List.set_cons_succ])
 refine tkp 1 ⟨hF31.blk (i := 0) rfl, hF31.blk (i := 1) rfl⟩ ?_
 (try simp only [Act.put, List.setIfInBounds_toArray, List.set_cons_zero, List.set_cons_succ])
 refine tkp 2 ⟨hF31.blk (i := 0) rfl, hF31.blk (i := 1) rfl⟩ ?_
 (try simp only [Act.put, List.setIfInBounds_toArray, List.set_cons_zero, List.set_cons_succ])
 refine tkp 3 ⟨hF31.blk (i := 0) rfl, hF31.blk (i := 1) rfl⟩ ?_
 (try simp only [Act.put, List.setIfInBounds_toArray, List.set_cons_zero, List.set_cons_succ])
 refine tkp 4 ⟨hF31.blk (i := 0) rfl, hF31.blk (i := 1) rfl⟩ ?_
 (try simp only [Act.put, List.setIfInBounds_toArray, List.set_cons_zero, List.set_cons_succ])
 refine tkp 5 ⟨hF31.blk (i := 0) rfl, hF31.blk (i := 1) rfl⟩ ?_
 (try simp only [Act.put, List.setIfInBounds_toArray, List.set_cons_zero, List.set_cons_succ])
 refine tkp 6 ⟨hF31.blk (i := 0) rfl, hF31.blk (i := 1) rfl⟩ ?_
 (try simp only [Act.put, List.setIfInBounds_toArray, List.set_cons_zero, List.set_cons_succ])
 refine tky 7 (y := yi_fldA (by with_unfolding_all rfl) (fun _ h => h.2) Tryz.underlying31 rfl (by with_unfolding_all exact ⟨_, rfl, rfl⟩) (ds := cs) (by rw [hvl.out]; kernel_rfl) (take_all _)) (s := ⟨hF31.blk (i := 0) rfl, hF31.blk (i := 1) rfl⟩) (h := ?_)
 (try simp only [Act.put, List.setIfInBounds_toArray, List.set_cons_zero, List.set_cons_succ])
 refine tky 9 (y := yi_fldA (by with_unfolding_all rfl) (fun _ h => h.1) Tryz.underlying40 rfl (by with_unfolding_all exact ⟨_, rfl, rfl⟩) (ds := cs5) (by rw [hvl5.out]; kernel_rfl) (take_all _)) (s := ⟨hF31.blk (i := 0) rfl, hF31.blk (i := 1) rfl⟩) (h := ?_)
 (try simp only [Act.put, List.setIfInBounds_toArray, List.set_cons_zero, List.set_cons_succ])
 refine rdy1 8 (fun K hK => ?_)
 refine stp (by with_unfolding_all rfl) (wp_call Tryz.func15 rfl (by with_unfolding_all rfl) (by with_unfolding_all rfl) (by with_unfolding_all rfl) (hfr1.out _ _ hF31 (by intro e he; simp [he])) ?_)
 rintro e w32 ⟨cs32, es32, rfl, hvt32, hv32⟩
 refine ⟨_, rfl, ?_⟩
 have hF32 := hF31.joinR hv32
 simp only [List.cons_append] at hF32
 refine hK.out _ _ (⟨hF32.blk (i := 0) rfl, hF32.blk (i := 1) rfl⟩) (fun _ => ?_)
 clear hK K
 (try simp only [Act.put, List.setIfInBounds_toArray, List.set_cons_zero, List.set_cons_succ])
 refine rdy1 10 (fun K hK => ?_)
 refine stp (by with_unfolding_all rfl) (wp_call Tryz.func14 rfl (by with_unfolding_all rfl) (by with_unfolding_all rfl) (by with_unfolding_all rfl) (msame_any _ _ _ _ hmb.out (hvt32.rdDoc hF32 (by intro e he; simp [he])) (hD5.out.rdDoc hF32 (by intro e he; simp [he]))) ?_)
 rintro e w33 ⟨rfl, hb33⟩
 refine ⟨_, rfl, ?_⟩
 have hF33 := hF32.call hb33
 refine hK.out _ _ (⟨hF33.blk (i := 0) rfl, hF33.blk (i := 1) rfl⟩) (fun _ => ?_)
 clear hK K
 (try simp only [Act.put, List.setIfInBounds_toArray, List.set_cons_zero, List.set_cons_succ])
 refine tkp 11 ⟨hF33.blk (i := 0) rfl, hF33.blk (i := 1) rfl⟩ ?_
 (try simp only [Act.put, List.setIfInBounds_toArray, List.set_cons_zero, List.set_cons_succ])
 refine tkp 12 ⟨hF33.blk (i := 0) rfl, hF33.blk (i := 1) rfl⟩ ?_
 (try simp only [Act.put, List.setIfInBounds_toArray, List.set_cons_zero, List.set_cons_succ])
 refine tkp 13 ⟨hF33.blk (i := 0) rfl, hF33.blk (i := 1) rfl⟩ ?_
 (try simp only [Act.put, List.setIfInBounds_toArray, List.set_cons_zero, List.set_cons_succ])
 refine tkp 14 ⟨hF33.blk (i := 0) rfl, hF33.blk (i := 1) rfl⟩ ?_
 (try simp only [Act.put, List.setIfInBounds_toArray, List.set_cons_zero, List.set_cons_succ])
 refine rdy1 15 (fun K hK => ?_)
 refine stp (by with_unfolding_all rfl) (wp_call Tryz.func16 rfl (by with_unfolding_all rfl) (by with_unfolding_all rfl) (by with_unfolding_all rfl) (hsb.out _ _ _ (hrw.on hF33.below) (hr1.on hF33.below)) ?_)
 rintro e w34 ⟨rfl, hb34⟩
 refine ⟨_, rfl, ?_⟩
 have hF34 := hF33.call hb34
 refine hK.out _ _ (⟨hF34.blk (i := 0) rfl, hF34.blk (i := 1) rfl⟩) (fun _ => ?_)
 clear hK K
 (try simp only [Act.put, List.setIfInBounds_toArray, List.set_cons_zero, List.set_cons_succ])
 refine tkp 16 ⟨hF34.blk (i := 0) rfl, hF34.blk (i := 1) rfl⟩ ?_
 (try simp only [Act.put, List.setIfInBounds_toArray, List.set_cons_zero, List.set_cons_succ])
 refine tkp 17 ⟨hF34.blk (i := 0) rfl, hF34.blk (i := 1) rfl⟩ ?_
 (try simp only [Act.put, List.setIfInBounds_toArray, List.set_cons_zero])
 refine wpAnyH_done (by kernel_rfl) ?_ _
 go_wp2_with fail
 go_ret
 exact ⟨rfl, hb1.trans (hF34.below.mono hb1.size)⟩
end Go.Proofs.YtlhicfpmlncomaaGreatDoor

namespace Go.Proofs.YtlhicfpmlncomaaGreatDoor
open Go.RowKit Go.Lib
theorem cell_old {w w' : World} (hb : Below w.heap.size w w') {a : Addr} {v : Value} (h : w.cell? a = some v) : w'.cell? a = some v := by
 have hlt : a.block < w.heap.size := by
  rcases Nat.lt_or_ge a.block w.heap.size with h' | h'
  ·exact h'
  ·exfalso
   unfold World.cell? at h
   rw [Array.getElem?_eq_none h'] at h
   cases h
 rw [← h]
 exact World.cell?_of_block (w := w) (hb.block _ hlt)
theorem var_old {P : Program} {w w' : World} (hb : Below w.heap.size w w') {n : String} {cs : Array Value} (h : w.var? P n = some cs) : w'.var? P n = some cs := by
 unfold World.var? at *
 cases hg : P.globalNamed n with
 | none => simp [hg] at h
 | some g =>
  simp only [hg, Option.bind_some] at h ⊢
  have hlt : g < w.heap.size := by
   rcases Nat.lt_or_ge g w.heap.size with h' | h'
   ·exact h'
   ·rw [Array.getElem?_eq_none h'] at h; simp at h
  rw [hb.block g hlt]
  exact h
theorem first_eq : Rows.laid_unicode_utf8_first = firstData := by kernel_rfl
theorem accept_eq : (Rows.laid_unicode_utf8_acceptRanges : DataW Unit) = acceptData := by kernel_rfl
theorem pow_eq : (Rows.laid_internal_strconv_uint64pow10 : DataW Unit) = tabData .u64 pow10Tab := by kernel_rfl
theorem star_errs : "*" ++ "errors.errorString" = "*errors.errorString" := by decide
theorem row_errs (u : TypeId) (h : Tryz.prog.typeName? 3 u = some "*errors.errorString") : u = 254 :=
 typeName_ptr_named (nm := "errors.errorString") (by rw [star_errs]; kernel_rfl) (by kernel_rfl) (by decide) u (by rw [star_errs]; exact h)
theorem row_ints : Tryz.prog.globalNamed "errors.errorType" = some 0 := by kernel_rfl
theorem row_rt : (Tryz.prog.cutTypes.find? (·.1 == "internal/reflectlite.rtype")).map (·.2) = some 177 := by kernel_rfl
theorem row_err : ((List.range Tryz.prog.types.size).filter fun t => Tryz.prog.rowNamed t [101, 114, 114, 111, 114]) = [80] := by kernel_rfl
theorem row_handle : typeHandle Tryz.prog 80 = .pointer (some ⟨9, 80, none⟩) := by kernel_rfl
/-- The listed variables that are no handles. -/
def mPlain : List (String × DataW Unit) := [("math/bits.deBruijn32tab", Rows.laid_math_bits_deBruijn32tab), ("math/bits.deBruijn64tab", Rows.laid_math_bits_deBruijn64tab), ("internal/strconv.uint64pow10", Rows.laid_internal_strconv_uint64pow10), ("unicode/utf8.acceptRanges", Rows.laid_unicode_utf8_acceptRanges), ("strconv.ErrRange", Rows.laid_strconv_ErrRange), ("strconv.ErrSyntax", Rows.laid_strconv_ErrSyntax), ("unicode/utf8.first", Rows.laid_unicode_utf8_first)]
theorem laid_both (W : World) (h : laidMetH Tryz.prog Rows.manifestReadsUptoRow.laid W) : laidMet Tryz.prog mPlain W ∧ handlesMet Tryz.prog [("errors.errorType", Rows.laid_errors_errorType)] W := h
theorem handle_of (W : World) (h : handlesMet Tryz.prog [("errors.errorType", Rows.laid_errors_errorType)] W) : W.cell? ⟨0, 0, none⟩ = some (.iface 177 (.agg #[.pointer (some ⟨9, 80, none⟩)])) := by
 obtain ⟨name, u, ty, e1, e2, e3, e4, e5⟩ := h _ (List.mem_singleton.2 rfl)
 have en : name = [101, 114, 114, 111, 114] := (Option.some.inj e1).symm
 subst en
 obtain rfl := Option.some.inj (row_rt.symm.trans e2)
 have hm : ty ∈ (List.range Tryz.prog.types.size).filter fun t => Tryz.prog.rowNamed t [101, 114, 114, 111, 114] := List.mem_filter.2 ⟨List.mem_range.2 e3, e4⟩
 rw [row_err] at hm
 obtain rfl := List.mem_singleton.1 hm
 rw [row_handle] at e5
 simpa using World.var?_cell row_ints e5 0
theorem maxW_of {w : World} (h : w.ShapedOpen Tryz.prog) : MaxW w := Go.Proofs.cell_of_shapedOpen_int (zero := #[.int .i64 0]) (t := 3) h (of_decide_eq_true (by kernel_rfl)) (by kernel_rfl) rfl (by kernel_rfl) (by kernel_rfl) Tryz.underlying3
theorem libs_of (W : World) (hL : laidMet Tryz.prog mPlain W) : LibsAt W.heap.size W := by
 have hL2 : laidMet Tryz.prog [("math/bits.deBruijn32tab", Rows.laid_math_bits_deBruijn32tab), ("math/bits.deBruijn64tab", Rows.laid_math_bits_deBruijn64tab), ("internal/strconv.uint64pow10", Rows.laid_internal_strconv_uint64pow10), ("unicode/utf8.acceptRanges", Rows.laid_unicode_utf8_acceptRanges), ("strconv.ErrRange", Rows.laid_strconv_ErrRange), ("strconv.ErrSyntax", Rows.laid_strconv_ErrSyntax), ("unicode/utf8.first", Rows.laid_unicode_utf8_first)] W := hL
 rw [first_eq, accept_eq, pow_eq] at hL2
 have hU : U8Tabs W := utf8Tabs_of_readsT (U8Types.of196 Tryz.laysValid) ⟨by kernel_rfl, by kernel_rfl, by kernel_rfl, by kernel_rfl, by kernel_rfl, by kernel_rfl, by kernel_rfl⟩ (laidMet.reads hL2 (by simp)) (laidMet.reads hL2 (by simp))
 have hP : TabIs Tryz.prog W "internal/strconv.uint64pow10" .u64 pow10Tab := tabIs_of_head (g := 6) (by kernel_rfl) (by kernel_rfl) (t := 249) Tryz.underlying249 Tryz.underlying224 (by kernel_rfl) (by kernel_rfl) hL2.tail.tail
 obtain ⟨a1, s1, hv1, _⟩ := laid_sentinel (g := 5) hL2.tail.tail.tail.tail (by kernel_rfl) (by kernel_rfl) Tryz.underlying80 row_errs Tryz.underlying254 Tryz.underlying256 rfl rfl Tryz.underlying9 (by kernel_rfl) (by kernel_rfl)
 obtain ⟨a2, s2, hv2, _⟩ := laid_sentinel (g := 4) hL2.tail.tail.tail.tail.tail (by kernel_rfl) (by kernel_rfl) Tryz.underlying80 row_errs Tryz.underlying254 Tryz.underlying256 rfl rfl Tryz.underlying9 (by kernel_rfl) (by kernel_rfl)
 exact ⟨fun w' hb => ⟨fun c hc => cell_old hb (hU.1 c hc), fun i hi => ⟨cell_old hb (hU.2 i hi).1, cell_old hb (hU.2 i hi).2⟩⟩, tabBelow_of_tabIs hP, ⟨_, _, fun w' hb => var_old hb hv2⟩, ⟨_, _, fun w' hb => var_old hb hv1⟩⟩
/-- What the walks ask for. -/
theorem mlibs_of (W : World) (hs : W.ShapedOpen Tryz.prog) (h : laidMetH Tryz.prog Rows.manifestReadsUptoRow.laid W) : MLibs W.heap.size W := by
 obtain ⟨h1, h2⟩ := laid_both W h
 exact ⟨libs_of W h1, fun w' hb => by
  obtain ⟨m, hm⟩ := maxW_of hs
  exact ⟨m, cell_old hb hm⟩, fun w' hb => cell_old hb (handle_of W h2)⟩
/-- A world that meets the condition: the handle, then the plain data laid. -/
noncomputable def mWorld0 (os : Os) : World :=
 let w0 := World.holding Tryz.prog os ⟨#[], #[], []⟩
 { w0 with heap := w0.heap.modify 0 fun
   | .cells _ t frozen => .cells #[.iface 177 (.agg #[.pointer (some ⟨9, 80, none⟩)])] t frozen
   | o => o }
noncomputable def mWorld (os : Os) : World := (mWorld0 os).layVars Tryz.prog mPlain
theorem mWorld_plain (os : Os) : laidMet Tryz.prog mPlain (mWorld os) := by
 have e1 : (mPlain.filter fun x => (mPlain.map (·.1)).contains x.1) = mPlain := List.filter_eq_self.2 fun x hx => List.contains_iff_mem.2 (List.mem_map.2 ⟨x, hx, rfl⟩)
 have e2 : (mPlain.filter fun x => !(mPlain.map (·.1)).contains x.1) = [] := List.filter_eq_nil_iff.2 fun x hx => by rw [List.contains_iff_mem.2 (List.mem_map.2 ⟨x, hx, rfl⟩)]; simp
 exact laidMet_layVars (w0 := mWorld0 os) (mPlain.map (·.1)) [] (by rw [e1]; rfl) (by rw [e1]; kernel_rfl) (by rw [e1]; kernel_rfl) (by rw [e2]; exact LaidIn.none)
theorem mWorld_met (os : Os) (args : Array Value) : laidMetH Tryz.prog Rows.manifestReadsUptoRow.laid ((mWorld os).forCall (fun _ _ => 0) ⟨#[], args, []⟩).memory :=
 laidMetH_of_parts (show laidMet Tryz.prog mPlain _ from (mWorld_plain os).of_heap (by simp [World.memory, World.forCall, Input.heap])) (by kernel_rfl)
theorem mWorld_os (os : Os) : (mWorld os).os = os := World.layVars_os _ _ _
end Go.Proofs.YtlhicfpmlncomaaGreatDoor

namespace Go.Proofs.YtlhicfpmlncomaaGreatDoor
theorem bulk_pos {H : Type} : ∀ d : DataW H, 1 ≤ Rows.uptoBulk d
 | .lit l => by cases l <;> simp [Rows.uptoBulk]
 | .nil => by simp [Rows.uptoBulk]
 | .ptr d => by simp [Rows.uptoBulk]
 | .slice e s => by simp [Rows.uptoBulk]
 | .agg p => by simp [Rows.uptoBulk]
 | .iface t d => by simp [Rows.uptoBulk]
 | .map e => by simp [Rows.uptoBulk]
 | .held h => by simp [Rows.uptoBulk]
theorem bulk_len {H : Type} : ∀ l : List (DataW H), l.length ≤ Rows.uptoBulkAll l
 | [] => Nat.zero_le _
 | d :: r => by have h1 := bulk_pos d; have h2 := bulk_len r; simp only [Rows.uptoBulkAll, List.length_cons]; omega
theorem bulk_cap {H : Type} (e s : List (DataW H)) : e.length + s.length + 1 ≤ Rows.uptoBulk (.slice e s) := by
 have h1 := bulk_len e
 have h2 := bulk_len s
 simp only [Rows.uptoBulk]; omega
end Go.Proofs.YtlhicfpmlncomaaGreatDoor
