/-
 Layer 8: the program's Parse, walked.
 Layer 8: answers that the document fixes.
 Layer 8: the laws' From, and parts of To: notes, descriptors and documents laid anew.
 Layer 8: descriptors laid anew.
-/
import Derived.Test.YtlhicfpmlncomaaGreatDoorQ16
import Derived.Test.YtlhicfpmlncomaaGreatDoorQ03
namespace Go.Proofs.YtlhicfpmlncomaaGreatDoor
open Go.RowKit
set_option linter.unusedSimpArgs false
set_option linter.unusedVariables false
theorem MaxAt.up {B B' : Nat} {w : World} (h : MaxAt B w) (hb : B ≤ B') : MaxAt B' w := fun w' h2 => h w' (h2.mono hb)
/-- The library's variable errorType holds what it was laid with. -/
def ErrAt (B : Nat) (w : World) : Prop := ∀ w', Below B w w' → w'.cell? ⟨0, 0, none⟩ = some (.iface 177 (.agg #[.pointer (some ⟨9, 80, none⟩)]))
theorem ErrAt.on {B : Nat} {w w' : World} (h : ErrAt B w) (hb : Below B w w') : ErrAt B w' := fun w'' h2 => h w'' (hb.trans h2)
theorem ErrAt.up {B B' : Nat} {w : World} (h : ErrAt B w) (hb : B ≤ B') : ErrAt B' w := fun w' h2 => h w' (h2.mono hb)
/-- What the library's variables hold. -/
structure MLibs (B : Nat) (w : World) : Prop where
 j : LibsAt B w
 m : MaxAt B w
 e : ErrAt B w
theorem MLibs.on {B : Nat} {w w' : World} (h : MLibs B w) (hb : Below B w w') : MLibs B w' := ⟨h.j.on hb, h.m.on hb, h.e.on hb⟩
theorem MLibs.up {B B' : Nat} {w : World} (h : MLibs B w) (hb : B ≤ B') : MLibs B' w := ⟨h.j.up hb, h.m.up hb, h.e.up hb⟩
theorem VT.rdS {v : JV} {cs : List Value} {es' es : List Ent} {X : List Nat} {w0 w : World} (h : VT v cs es') (hF : Fr X w0 w es) (hs : ∀ e ∈ es', e ∈ es) : VRd w (· < w.heap.size) v cs :=
 VT.rd v h fun e he => by
  obtain ⟨i, hi⟩ := List.mem_iff_getElem?.1 (hs e he)
  exact ⟨hF.holds i e hi, fun b hb => Ent.lt (hF.holds i e hi) hb⟩
def mCode {α : Type} (r : MR α) : Nat := match r with
 | .ok _ => 0
 | .error e => e
/-- What Parse tells. -/
def MPs (w : World) (r : MR MDoc) (e : Ending) (w' : World) : Prop := ∃ cs es, e = .returned (.tuple #[.agg cs.toArray, .int .i64 (mCode r : Int)]) ∧ VDoc (mDc r) cs es ∧ Fr [] w w' es
set_option maxRecDepth 20000 in
set_option maxHeartbeats 6400000 in
theorem mparse_any (A : Option Addr) (n c : Nat) (b : List UInt8) (w : World) (hL : MLibs w.heap.size w) (hnc : n ≤ c) (hn47 : n ≤ 140737488355328) (hr : Rd w (· < w.heap.size) A 1 n (b.map bv)) :
  Calls Tryz.prog 11 #[.slice A n c] w (MPs w (mParse b)) := by
 have hF0 := Fr.nil w
 have hJ : mParse b = match jParse b with
  | .ok v => mRead v
  | .error x => .error x.2 := rfl
 have hpa := box (fun w' (es : List Ent) (hF : Fr [] w w' es) => parse_F hF (hL.j.on hF.below) hF.below.size hnc hn47 (hr.on hF.below))
 replace hn47 := box hn47
 cases hj : jParse b with
 | error x =>
  have hx2 := jParse_er b x hj
  rw [hj] at hJ
  simp only [] at hJ
  have hq : ((x.2 : Int) != 0) = true := by rw [bne_iff_ne]; omega
  have hpa' := hpa.out
  unfold ParseEndF at hpa'
  rw [hj] at hpa'
  simp only [] at hpa'
  replace hpa' := box hpa'
  replace hJ := box hJ
  clear hpa hj hx2
  go_enter Tryz.func11, Tryz.ntmps11
  go_wp2_with (first | ((with_reducible refine lst (by with_unfolding_all rfl) (wp_falloc hF0 (cs := doc0) (z := .agg (List.toArray (doc0))) rfl (by kernel_rfl) (by with_unfolding_all rfl) ?_)); intro w1 g1 hF1 hz1))
  refine (hpa'.out _ _ hF1).mono ?_
  rintro e w2 ⟨rfl, hF2⟩
  clear hpa'
  go_wp2_with (first | ((with_reducible refine lst (by with_unfolding_all rfl) (wp_falloc hF2 (cs := vl0) (z := .agg (List.toArray (vl0))) rfl (by kernel_rfl) (by with_unfolding_all rfl) ?_)); intro w3 g3 hF3 hz3) | ((with_reducible refine lst (by with_unfolding_all rfl) (wp_fstA0 hF3 (by with_unfolding_all exact ⟨_, _, rfl, rfl, rfl⟩) (by rw [vlL_len]; kernel_rfl) vlL_one vlL_fit vlL_spl ?_)); intro w4 hF4 hz4) | (with_reducible refine lst (by with_unfolding_all rfl) (wp_fbuild Tryz.underlying31 (z := .agg (List.toArray doc0)) (by kernel_rfl) (pl := docP) (by kernel_rfl) (cs := doc0) rfl (vs := []) (by with_unfolding_all rfl) (by with_unfolding_all rfl) ?_)) | ((with_reducible refine lst (by with_unfolding_all rfl) (wp_fstA1 hF4 (by with_unfolding_all exact ⟨_, _, rfl, rfl, rfl⟩) (by rw [doc0_len]; kernel_rfl) doc0_one (Nat.le_of_eq (Nat.zero_add _)) (spl_all rfl) ?_)); intro w5 hF5 hz5))
  exact bodyPost_ret (results_cellF2 rfl _ hF5 (i := 1) rfl rfl Tryz.underlying31 rfl (by rw [doc0_len]; kernel_rfl)) rfl (by
   unfold MPs
   rw [hJ.out]
   exact ⟨_, _, rfl, VDoc.zero, hF5⟩)
 | ok v =>
  rw [hj] at hJ
  simp only [] at hJ
  have hob := jParse_ob hj
  have hpa' := hpa.out
  unfold ParseEndF at hpa'
  rw [hj] at hpa'
  simp only [] at hpa'
  replace hpa' := box hpa'
  clear hpa hj
  obtain ⟨R, hR⟩ : ∃ R, R = mRead v := ⟨_, rfl⟩
  rw [← hR] at hJ
  replace hJ := box hJ
  go_enter Tryz.func11, Tryz.ntmps11
  go_wp2_with (first | ((with_reducible refine lst (by with_unfolding_all rfl) (wp_falloc hF0 (cs := doc0) (z := .agg (List.toArray (doc0))) rfl (by kernel_rfl) (by with_unfolding_all rfl) ?_)); intro w1 g1 hF1 hz1))
  refine (hpa'.out _ _ hF1).mono ?_
  rintro e w2 ⟨cs, es, rfl, hvt, hF2'⟩
  have hF2 := hF2'.perm (es' := .blk g1 31 doc0 :: es) List.perm_append_comm
  have hvl := box hvt.len
  have hvo := box hvt.one
  replace hvt := box hvt
  clear hpa' hF2'
  go_wp2_with (first | ((with_reducible refine lst (by with_unfolding_all rfl) (wp_falloc hF2 (cs := vl0) (z := .agg (List.toArray (vl0))) rfl (by kernel_rfl) (by with_unfolding_all rfl) ?_)); intro w3 g3 hF3 hz3) | ((with_reducible refine lst (by with_unfolding_all rfl) (wp_fstA0 hF3 (by with_unfolding_all exact ⟨_, _, rfl, rfl, rfl⟩) (by rw [hvl.out]; kernel_rfl) hvo.out (by rw [hvl.out]; decide) (spl_all (by rw [hvl.out, vlL_len])) ?_)); intro w4 hF4 hz4) | (with_reducible refine lst (by with_unfolding_all rfl) (wp_fldA0 hF4 Tryz.underlying76 rfl (by with_unfolding_all exact ⟨_, rfl, rfl⟩) (ds := cs) (by rw [hvl.out]; kernel_rfl) (take_all _) ?_)))
  have hrd := mread_any v cs w4 ((hL.on hF4.below).up hF4.below.size).m (hvt.out.rdS hF4 (by intro e he; simp [he])) hob
  rw [← hR] at hrd
  replace hrd := box hrd
  clear hR hob
  refine hrd.out.mono ?_
  rintro e w5 ⟨cd, ed, rfl, hD, h5⟩
  have hF5 := hF4.joinR h5
  simp only [List.cons_append] at hF5
  have hdl := box hD.len
  have hdo := box hD.ones
  clear hrd h5
  cases R with
  | ok d =>
   simp only [mErr]
   replace hD := box hD
   go_wp2_with (first | ((with_reducible refine lst (by with_unfolding_all rfl) (wp_falloc hF5 (cs := doc0) (z := .agg (List.toArray (doc0))) rfl (by kernel_rfl) (by with_unfolding_all rfl) ?_)); intro w6 g6 hF6 hz6) | ((with_reducible refine lst (by with_unfolding_all rfl) (wp_fstA0 hF6 (by with_unfolding_all exact ⟨_, _, rfl, rfl, rfl⟩) (by rw [hdl.out]; kernel_rfl) hdo.out (by rw [hdl.out, doc0_len]; decide) (spl_all (by rw [hdl.out, doc0_len])) ?_)); intro w7 hF7 hz7) | ((with_reducible refine lst (by with_unfolding_all rfl) (wp_falloc hF7 (cs := [.int .i64 0]) (z := .agg (List.toArray ([.int .i64 0]))) rfl (by kernel_rfl) (by with_unfolding_all rfl) ?_)); intro w8 g8 hF8 hz8))
   refine (as_nil _ _).mono ?_
   rintro e w9 ⟨rfl, rfl⟩
   go_wp2_with (first | (with_reducible refine lst (by with_unfolding_all rfl) (wp_fldA1 hF8 Tryz.underlying31 rfl (by with_unfolding_all exact ⟨_, rfl, rfl⟩) (ds := cd) (by rw [hdl.out]; kernel_rfl) (take_all _) ?_)) | ((with_reducible refine lst (by with_unfolding_all rfl) (wp_fstA3 hF8 (by with_unfolding_all exact ⟨_, _, rfl, rfl, rfl⟩) (by rw [hdl.out]; kernel_rfl) hdo.out (by rw [hdl.out, doc0_len]; decide) (spl_all (by rw [hdl.out, doc0_len])) ?_)); intro w10 hF10 hz10))
   exact bodyPost_ret (results_cellF2 rfl _ hF10 (i := 3) rfl rfl Tryz.underlying31 rfl (by rw [hdl.out]; kernel_rfl)) rfl (by
    unfold MPs
    rw [hJ.out]
    exact ⟨_, _, rfl, hD.out.mono (fun _ h => by simp [h]), hF10⟩)
  | error ee =>
   simp only [mErr]
   clear hD
   go_wp2_with (first | ((with_reducible refine lst (by with_unfolding_all rfl) (wp_falloc hF5 (cs := doc0) (z := .agg (List.toArray (doc0))) rfl (by kernel_rfl) (by with_unfolding_all rfl) ?_)); intro w6 g6 hF6 hz6) | ((with_reducible refine lst (by with_unfolding_all rfl) (wp_fstA0 hF6 (by with_unfolding_all exact ⟨_, _, rfl, rfl, rfl⟩) (by rw [hdl.out]; kernel_rfl) hdo.out (by rw [hdl.out, doc0_len]; decide) (spl_all (by rw [hdl.out, doc0_len])) ?_)); intro w7 hF7 hz7) | ((with_reducible refine lst (by with_unfolding_all rfl) (wp_falloc hF7 (cs := [.int .i64 0]) (z := .agg (List.toArray ([.int .i64 0]))) rfl (by kernel_rfl) (by with_unfolding_all rfl) ?_)); intro w8 g8 hF8 hz8))
   have hE := hL.e _ hF8.below
   refine (xas_hit hF8 (i := 0) (ee : Int) rfl hE).mono ?_
   rintro e w9 ⟨rfl, hF9⟩
   simp only [List.set_cons_zero] at hF9
   clear hE
   go_upto_region 7 with (fail)
   have hFd := hF9.drew
   clear hF9 hF8 hF7 hF6 hF5
   refine wp_region_held (S := fun w' => w'.heap[g8]? = some (.cells (List.toArray [.int .i64 (ee : Int)]) 84 (0, 0))) (by kernel_rfl) ?_
   change wpAnyH _ _ _ _ _ _ _ _ (World.drew _)
   refine tkp 0 (hFd.blk (i := 0) rfl) ?_
   (try simp only [Act.put, List.setIfInBounds_toArray, List.set_cons_zero, List.set_cons_succ])
   refine tkp 1 (hFd.blk (i := 0) rfl) ?_
   (try simp only [Act.put, List.setIfInBounds_toArray, List.set_cons_zero, List.set_cons_succ])
   refine tky 2 (y := yi_fld (by with_unfolding_all rfl) (fun _ h => h) Tryz.underlying32 rfl (by with_unfolding_all exact ⟨_, rfl, rfl⟩) rfl) (s := (hFd.blk (i := 0) rfl)) (h := ?_)
   (try simp only [Act.put, List.setIfInBounds_toArray, List.set_cons_zero, List.set_cons_succ])
   refine rdy1 3 (fun K hK => ?_)
   refine stp (by with_unfolding_all rfl) (wp_fstA hFd (i := 3) rfl (ds := doc0) (by with_unfolding_all exact ⟨_, _, rfl, rfl, rfl⟩) (by rw [doc0_len]; kernel_rfl) doc0_one (Nat.le_of_eq (Nat.zero_add _)) ?_)
   intro w31 hF31 hz31
   (try simp only [List.set_cons_zero, List.set_cons_succ] at hF31)
   rw [(spl_all rfl : spl doc0 0 doc0 = doc0)] at hF31
   refine hK.out _ _ ((hF31.blk (i := 0) rfl)) (fun _ => ?_)
   clear hK K
   (try simp only [Act.put, List.setIfInBounds_toArray, List.set_cons_zero, List.set_cons_succ])
   refine tkp 4 (hF31.blk (i := 0) rfl) ?_
   (try simp only [Act.put, List.setIfInBounds_toArray, List.set_cons_zero])
   refine wpAnyH_done (by kernel_rfl) ?_ _
   go_wp2_with fail
   exact bodyPost_ret (results_cellF2 rfl _ hF31 (i := 3) rfl rfl Tryz.underlying31 rfl (by rw [doc0_len]; kernel_rfl)) rfl (by
    unfold MPs
    rw [hJ.out]
    exact ⟨_, _, rfl, VDoc.zero, hF31⟩)
end Go.Proofs.YtlhicfpmlncomaaGreatDoor

namespace Go.Proofs.YtlhicfpmlncomaaGreatDoor
open Go.RowKit
set_option linter.unusedSimpArgs false
set_option linter.unusedVariables false
def awkB : List UInt8 := [123, 34, 115, 99, 104, 101, 109, 97, 86, 101, 114, 115, 105, 111, 110, 34, 58, 50, 44, 34, 109, 101, 100, 105, 97, 84, 121, 112, 101, 34, 58, 34, 97, 112, 112, 108, 105, 99, 97, 116, 105, 111, 110, 47, 118, 110, 100, 46, 111, 99, 105, 46, 105, 109, 97, 103, 101, 46, 105, 110, 100, 101, 120, 46, 118, 49, 43, 106, 115, 111, 110, 34, 44, 34, 109, 97, 110, 105, 102, 101, 115, 116, 115, 34, 58, 91, 93, 125]
theorem mawk1 : mParse awkB = .ok ⟨[97, 112, 112, 108, 105, 99, 97, 116, 105, 111, 110, 47, 118, 110, 100, 46, 111, 99, 105, 46, 105, 109, 97, 103, 101, 46, 105, 110, 100, 101, 120, 46, 118, 49, 43, 106, 115, 111, 110], [], .zero, [], .zero, false, []⟩ := by kernel_rfl
theorem mawk2 : mParse [91, 93] = .error 80 := by kernel_rfl
set_option maxRecDepth 20000 in
set_option maxHeartbeats 6400000 in
theorem mawake_any (w : World) (B : Nat) (hB : B ≤ w.heap.size) (hL : MLibs B w) :
  Calls Tryz.prog 13 #[] w fun e w' => e = .returned (.bool true) ∧ Below w.heap.size w w' := by
 have hF0 := Fr.nil w
 have hL1 := hL.up hB
 go_enter Tryz.func13, Tryz.ntmps13
 go_wp2_with (first | ((with_reducible refine lst (by with_unfolding_all rfl) (wp_fbsl T_u8 hF0 (vs := [bv 123, bv 34, bv 115, bv 99, bv 104, bv 101, bv 109, bv 97, bv 86, bv 101, bv 114, bv 115, bv 105, bv 111, bv 110, bv 34, bv 58, bv 50, bv 44, bv 34, bv 109, bv 101, bv 100, bv 105, bv 97, bv 84, bv 121, bv 112, bv 101, bv 34, bv 58, bv 34, bv 97, bv 112, bv 112, bv 108, bv 105, bv 99, bv 97, bv 116, bv 105, bv 111, bv 110, bv 47, bv 118, bv 110, bv 100, bv 46, bv 111, bv 99, bv 105, bv 46, bv 105, bv 109, bv 97, bv 103, bv 101, bv 46, bv 105, bv 110, bv 100, bv 101, bv 120, bv 46, bv 118, bv 49, bv 43, bv 106, bv 115, bv 111, bv 110, bv 34, bv 44, bv 34, bv 109, bv 97, bv 110, bv 105, bv 102, bv 101, bv 115, bv 116, bv 115, bv 34, bv 58, bv 91, bv 93, bv 125]) (by with_unfolding_all rfl) (by with_unfolding_all rfl) (by with_unfolding_all rfl) (by decide) (by simp [bv, Value.cells]) ?_)); intro w1 g1 hF1 hz1; have hr1 : Rd w1 (· < w1.heap.size) (some ⟨g1, 0, none⟩) 1 88 (([123,34,115,99,104,101,109,97,86,101,114,115,105,111,110,34,58,50,44,34,109,101,100,105,97,84,121,112,101,34,58,34,97,112,112,108,105,99,97,116,105,111,110,47,118,110,100,46,111,99,105,46,105,109,97,103,101,46,105,110,100,101,120,46,118,49,43,106,115,111,110,34,44,34,109,97,110,105,102,101,115,116,115,34,58,91,93,125] : List UInt8).map bv) := hF1.rdOwn (i := 0) rfl) | ((with_reducible refine lst (by with_unfolding_all rfl) (wp_fmark T_u8 Tryz.underlying5 hF1 (by with_unfolding_all exact ⟨_, rfl, rfl⟩) ?_)); intro w2 hF2 hz2))
 have hp := mparse_any (some ⟨g1, 0, none⟩) 88 88 awkB w2 ((hL1.on hF2.below).up hF2.below.size) (Nat.le_refl _) (by decide) (hF2.rd (i := 0) rfl)
 rw [mawk1] at hp
 replace hp := box hp
 refine hp.out.mono ?_
 rintro e w3 ⟨cs, es, rfl, hD, h3⟩
 have hF3 := hF2.joinR h3
 simp only [List.cons_append, List.nil_append] at hF3
 obtain ⟨cf, eg, sj, nt, hC, ⟨A, n, c, xs, hnc, hn0, rfl, _, _⟩, hS, hN, rfl⟩ := hD
 simp only [mDc, List.length_nil] at hn0
 subst hn0
 have hcl := box hC.len
 have hsl := box hS.len
 have hco := box hC.ones
 have hso := box hS.ones
 have hno := hN.one
 simp only [mDc]
 clear hp h3 hC hS hN hF1 hF2
 have hdl := box (docL_len (m := [97, 112, 112, 108, 105, 99, 97, 116, 105, 111, 110, 47, 118, 110, 100, 46, 111, 99, 105, 46, 105, 109, 97, 103, 101, 46, 105, 110, 100, 101, 120, 46, 118, 49, 43, 106, 115, 111, 110]) (t := []) (eg := .slice A 0 c) (has := false) (nt := nt) hcl.out hsl.out)
 have hdo := box (docL_one (m := [97, 112, 112, 108, 105, 99, 97, 116, 105, 111, 110, 47, 118, 110, 100, 46, 111, 99, 105, 46, 105, 109, 97, 103, 101, 46, 105, 110, 100, 101, 120, 46, 118, 49, 43, 106, 115, 111, 110]) (t := []) (has := false) hco.out hso.out (rfl : (Value.slice A 0 c).oneCell' = true) hno)
 replace hno := box hno
 go_wp2_with (first | ((with_reducible refine lst (by with_unfolding_all rfl) (wp_falloc hF3 (cs := doc0) (z := .agg (List.toArray (doc0))) rfl (by kernel_rfl) (by with_unfolding_all rfl) ?_)); intro w4 g4 hF4 hz4) | ((with_reducible refine lst (by with_unfolding_all rfl) (wp_fstA0 hF4 (by with_unfolding_all exact ⟨_, _, rfl, rfl, rfl⟩) (by rw [hdl.out]; kernel_rfl) hdo.out (by rw [hdl.out, doc0_len]; decide) (spl_all (by rw [hdl.out, doc0_len])) ?_)); intro w5 hF5 hz5) | ((with_reducible refine lst (by with_unfolding_all rfl) (wp_fbsl T_u8 hF5 (vs := [bv 91, bv 93]) (by with_unfolding_all rfl) (by with_unfolding_all rfl) (by with_unfolding_all rfl) (by decide) (by simp [bv, Value.cells]) ?_)); intro w6 g6 hF6 hz6; have hr6 : Rd w6 (· < w6.heap.size) (some ⟨g6, 0, none⟩) 1 2 (([91,93] : List UInt8).map bv) := hF6.rdOwn (i := 0) rfl) | ((with_reducible refine lst (by with_unfolding_all rfl) (wp_fmark T_u8 Tryz.underlying5 hF6 (by with_unfolding_all exact ⟨_, rfl, rfl⟩) ?_)); intro w7 hF7 hz7))
 have hp := mparse_any (some ⟨g6, 0, none⟩) 2 2 [91, 93] w7 ((hL1.on hF7.below).up hF7.below.size) (Nat.le_refl _) (by decide) (hF7.rd (i := 0) rfl)
 rw [mawk2] at hp
 replace hp := box hp
 refine hp.out.mono ?_
 rintro e w8 ⟨cs8, es8, rfl, hD8, h8⟩
 have hF8 := hF7.joinR h8
 simp only [List.cons_append, List.nil_append] at hF8
 have hl8 := box hD8.len
 have ho8 := box hD8.ones
 simp only [mCode]
 clear hp h8 hD8 hF3 hF4 hF5 hF6 hF7
 go_wp2_with (first | ((with_reducible refine lst (by with_unfolding_all rfl) (wp_falloc hF8 (cs := doc0) (z := .agg (List.toArray (doc0))) rfl (by kernel_rfl) (by with_unfolding_all rfl) ?_)); intro w9 g9 hF9 hz9) | ((with_reducible refine lst (by with_unfolding_all rfl) (wp_fstA0 hF9 (by with_unfolding_all exact ⟨_, _, rfl, rfl, rfl⟩) (by rw [hl8.out]; kernel_rfl) ho8.out (by rw [hl8.out, doc0_len]; decide) (spl_all (by rw [hl8.out, doc0_len])) ?_)); intro w10 hF10 hz10) | (with_reducible refine lst (by with_unfolding_all rfl) (wp_fld2 hF10 Tryz.underlying9 rfl (by with_unfolding_all exact ⟨_, rfl, rfl⟩) docL_m0 ?_)) | (with_reducible refine lst (by with_unfolding_all rfl) (wp_fld2 hF10 Tryz.underlying29 rfl (by with_unfolding_all exact ⟨_, rfl, rfl⟩) (docL_eg hcl.out) ?_)))
 go_ret
 exact ⟨rfl, hF10.below⟩
end Go.Proofs.YtlhicfpmlncomaaGreatDoor

namespace Go.Proofs.YtlhicfpmlncomaaGreatDoor
open Go.RowKit
set_option linter.unusedSimpArgs false
set_option linter.unusedVariables false
theorem T_rnotes : SlT Tryz.prog 35 149 2 32 (.agg #[.string ⟨#[]⟩, .string ⟨#[]⟩]) := ⟨Tryz.underlying35, by kernel_rfl, rfl, by decide⟩
theorem T_rdescs : SlT Tryz.prog 38 37 35 80 (.agg ds0.toArray) := ⟨Tryz.underlying38, by kernel_rfl, by kernel_rfl, by decide⟩
theorem ds_fill {m dig : List UInt8} {z : Int} {A : Option Addr} {n c : Nat} (hd : dig.length = 32) : Instr.fill (fun i : Nat => dsP[i]?) ds0.toArray [(0, .string ⟨m.toArray⟩), (1, .agg (dig.map bv).toArray), (2, .int .i64 z), (3, .slice A n c)] = some (dsL m dig z (.slice A n c)).toArray := by
 have hz : zeros.length = 32 := by decide
 unfold ds0
 rw [fill_step (off := 0) (size := 1) rfl rfl (by rw [dsL_len hz]; omega), show (Value.string ⟨m.toArray⟩).cells.toList = [.string ⟨m.toArray⟩] from rfl, dsL_0s,
  fill_step (off := 1) (size := 32) rfl (by simpa [Value.cells] using hd) (by rw [dsL_len hz]; omega), show (Value.agg (dig.map bv).toArray).cells.toList = dig.map bv from rfl, dsL_1 (by rw [hz, hd]),
  fill_step (off := 33) (size := 1) rfl rfl (by rw [dsL_len hd]; omega), show (Value.int .i64 z).cells.toList = [.int .i64 z] from rfl, dsL_33 hd,
  fill_step (off := 34) (size := 1) rfl rfl (by rw [dsL_len hd]; omega), show (Value.slice A n c).cells.toList = [.slice A n c] from rfl, dsL_34 hd]
 rfl
set_option maxRecDepth 20000 in
set_option maxHeartbeats 3200000 in
theorem backNotes_any (A : Option Addr) (n c : Nat) (l : List MNote) (w : World) (hn : n = l.length) (hbd : n ≤ 1048576) (hr : Rd w (· < w.heap.size) A 2 n (ntsL l)) :
  Calls Tryz.prog 37 #[.slice A n c] w fun e w' => ∃ nt es, e = .returned nt ∧ VN l nt es ∧ Fr [] w w' es := by
 have hF0 := Fr.nil w
 replace hn := box hn
 go_enter Tryz.func37, Tryz.ntmps37
 go_wp2_with fail
 have hF1 := hF0.none_ w.heap.size 149 2
 go_loopg [3, 8] n (fun g ov iv wr => ∃ (i : Nat) (B : Option Addr) (d : Nat), i ≤ n ∧ Box (g = n - i) ∧ iv = .int .i64 (i : Int) ∧ ov = .slice B i d ∧ i ≤ d ∧ Fr [] w wr [.own w.heap.size 149 2 (.slice B i d) i (ntsL (l.take i))])
 case atStart => exact ⟨0, none, 0, by omega, box rfl, rfl, rfl, by omega, hF1⟩
 case round =>
  clear hF0 hF1
  obtain ⟨i, B, d, hi, hgi, rfl, rfl, hid, hF⟩ := hrel
  have hkk : Box (_ = n - i) := hgi
  clear hgi
  have hr' := hr.below hF.below
  by_cases hlt : i < n
  ·obtain ⟨x, hx⟩ : ∃ x, l[i]? = some x := ⟨l[i]'(by rw [← hn.out]; exact hlt), by simp⟩
   have hxc := box (ntsL_at hx)
   have hsn : Box (ntsL (l.take (i + 1)) = ntsL (l.take i) ++ ntL x) := box (by rw [List.take_add_one, hx, ← ntsL_snoc]; rfl)
   clear hx
   go_wp2_with (first | (with_reducible refine lst (by with_unfolding_all rfl) (wp_indexAddr T_notes hr' (by with_unfolding_all exact ⟨_, _, _, _, rfl, rfl, rfl⟩) (by omega) (by omega) ?_)) | (with_reducible refine lst (by with_unfolding_all rfl) (wp_loadA hr' Tryz.underlying70 rfl (by with_unfolding_all exact ⟨_, rfl, rfl⟩) (ds := (ntL x)) (by kernel_rfl) (by with_unfolding_all exact hxc.out) ?_)) | ((with_reducible refine lst (by with_unfolding_all rfl) (wp_falloc hF (cs := nt0) (z := .agg (List.toArray (nt0))) rfl (by kernel_rfl) (by with_unfolding_all rfl) ?_)); intro w2 g2 hF2 hz2) | ((with_reducible refine lst (by with_unfolding_all rfl) (wp_fstA0 hF2 (by with_unfolding_all exact ⟨_, _, rfl, rfl, rfl⟩) (by kernel_rfl) (ntL_one _) (Nat.le_refl 2) (spl_all rfl) ?_)); intro w3 hF3 hz3) | (with_reducible refine lst (by with_unfolding_all rfl) (wp_fld0 hF3 Tryz.underlying9 rfl (by with_unfolding_all exact ⟨_, rfl, rfl⟩) rfl ?_)) | (with_reducible refine lst (by with_unfolding_all rfl) (wp_fbuild Tryz.underlying149 (z := .agg (List.toArray nt0)) (by kernel_rfl) (pl := ntP) (by kernel_rfl) (cs := (ntL x)) rfl (vs := [(0, strv x.key), (1, strv x.val)]) (by with_unfolding_all rfl) (by with_unfolding_all rfl) ?_)) | ((with_reducible refine lst (by with_unfolding_all rfl) (wp_fbs1 T_rnotes hF3 (by with_unfolding_all rfl) (ds := (ntL x)) (by with_unfolding_all rfl) (ntL_len _) (by decide) ?_)); intro w4 g4 hF4 hz4) | ((with_reducible refine lst (by with_unfolding_all rfl) (wp_fappG T_rnotes hF4 (i := 2) rfl (Nat.le_refl _) (hF4.rdOwn (i := 0) rfl) (ntL_one _) (by with_unfolding_all exact ⟨_, _, rfl, rfl, rfl⟩) (by unfold maxLen; omega) (by omega) ?_)); intro v5 w5 hF5 hz5; simp only [List.set_cons_zero, List.set_cons_succ] at hF5; obtain ⟨A5, c5, rfl, hc5⟩ := hF5.ownParts (i := 2) rfl))
   go_roundg (n - (i + 1))
   case rel => exact ⟨i + 1, A5, c5, by omega, box rfl, by go_num, rfl, hc5, by rw [hsn.out]; exact hF5.tail.tail⟩
   case measure => have := hkk.out; omega
  ·obtain rfl : n = i := by omega
   have hta : Box (l.take n = l) := box (List.take_of_length_le (by rw [hn.out]; exact Nat.le_refl _))
   rw [hta.out] at hF
   go_wp2_with fail
   go_ret
   have hF3 := hF.toRd (i := 0) rfl
   exact ⟨_, _, rfl, ⟨B, n, d, hid, hn.out, rfl, .inr (by simp)⟩, hF3⟩
set_option maxRecDepth 20000 in
set_option maxHeartbeats 3200000 in
theorem notes_any (A : Option Addr) (n c : Nat) (l : List MNote) (w : World) (hn : n = l.length) (hbd : n ≤ 1048576) (hr : Rd w (· < w.heap.size) A 2 n (ntsL l)) :
  Calls Tryz.prog 55 #[.slice A n c] w fun e w' => ∃ nt es, e = .returned nt ∧ VN l nt es ∧ Fr [] w w' es := by
 have hF0 := Fr.nil w
 replace hn := box hn
 go_enter Tryz.func55, Tryz.ntmps55
 go_wp2_with fail
 have hF1 := hF0.none_ w.heap.size 70 2
 go_loopg [3, 8] n (fun g ov iv wr => ∃ (i : Nat) (B : Option Addr) (d : Nat), i ≤ n ∧ Box (g = n - i) ∧ iv = .int .i64 (i : Int) ∧ ov = .slice B i d ∧ i ≤ d ∧ Fr [] w wr [.own w.heap.size 70 2 (.slice B i d) i (ntsL (l.take i))])
 case atStart => exact ⟨0, none, 0, by omega, box rfl, rfl, rfl, by omega, hF1⟩
 case round =>
  clear hF0 hF1
  obtain ⟨i, B, d, hi, hgi, rfl, rfl, hid, hF⟩ := hrel
  have hkk : Box (_ = n - i) := hgi
  clear hgi
  have hr' := hr.below hF.below
  by_cases hlt : i < n
  ·obtain ⟨x, hx⟩ : ∃ x, l[i]? = some x := ⟨l[i]'(by rw [← hn.out]; exact hlt), by simp⟩
   have hxc := box (ntsL_at hx)
   have hsn : Box (ntsL (l.take (i + 1)) = ntsL (l.take i) ++ ntL x) := box (by rw [List.take_add_one, hx, ← ntsL_snoc]; rfl)
   clear hx
   go_wp2_with (first | (with_reducible refine lst (by with_unfolding_all rfl) (wp_indexAddr T_rnotes hr' (by with_unfolding_all exact ⟨_, _, _, _, rfl, rfl, rfl⟩) (by omega) (by omega) ?_)) | (with_reducible refine lst (by with_unfolding_all rfl) (wp_loadA hr' Tryz.underlying149 rfl (by with_unfolding_all exact ⟨_, rfl, rfl⟩) (ds := (ntL x)) (by kernel_rfl) (by with_unfolding_all exact hxc.out) ?_)) | ((with_reducible refine lst (by with_unfolding_all rfl) (wp_falloc hF (cs := nt0) (z := .agg (List.toArray (nt0))) rfl (by kernel_rfl) (by with_unfolding_all rfl) ?_)); intro w2 g2 hF2 hz2) | ((with_reducible refine lst (by with_unfolding_all rfl) (wp_fstA0 hF2 (by with_unfolding_all exact ⟨_, _, rfl, rfl, rfl⟩) (by kernel_rfl) (ntL_one _) (Nat.le_refl 2) (spl_all rfl) ?_)); intro w3 hF3 hz3) | (with_reducible refine lst (by with_unfolding_all rfl) (wp_fld0 hF3 Tryz.underlying9 rfl (by with_unfolding_all exact ⟨_, rfl, rfl⟩) rfl ?_)) | (with_reducible refine lst (by with_unfolding_all rfl) (wp_fbuild Tryz.underlying70 (z := .agg (List.toArray nt0)) (by kernel_rfl) (pl := ntP) (by kernel_rfl) (cs := (ntL x)) rfl (vs := [(0, strv x.key), (1, strv x.val)]) (by with_unfolding_all rfl) (by with_unfolding_all rfl) ?_)) | ((with_reducible refine lst (by with_unfolding_all rfl) (wp_fbs1 T_notes hF3 (by with_unfolding_all rfl) (ds := (ntL x)) (by with_unfolding_all rfl) (ntL_len _) (by decide) ?_)); intro w4 g4 hF4 hz4) | ((with_reducible refine lst (by with_unfolding_all rfl) (wp_fappG T_notes hF4 (i := 2) rfl (Nat.le_refl _) (hF4.rdOwn (i := 0) rfl) (ntL_one _) (by with_unfolding_all exact ⟨_, _, rfl, rfl, rfl⟩) (by unfold maxLen; omega) (by omega) ?_)); intro v5 w5 hF5 hz5; simp only [List.set_cons_zero, List.set_cons_succ] at hF5; obtain ⟨A5, c5, rfl, hc5⟩ := hF5.ownParts (i := 2) rfl))
   go_roundg (n - (i + 1))
   case rel => exact ⟨i + 1, A5, c5, by omega, box rfl, by go_num, rfl, hc5, by rw [hsn.out]; exact hF5.tail.tail⟩
   case measure => have := hkk.out; omega
  ·obtain rfl : n = i := by omega
   have hta : Box (l.take n = l) := box (List.take_of_length_le (by rw [hn.out]; exact Nat.le_refl _))
   rw [hta.out] at hF
   go_wp2_with fail
   go_ret
   have hF3 := hF.toRd (i := 0) rfl
   exact ⟨_, _, rfl, ⟨B, n, d, hid, hn.out, rfl, .inr (by simp)⟩, hF3⟩
end Go.Proofs.YtlhicfpmlncomaaGreatDoor

namespace Go.Proofs.YtlhicfpmlncomaaGreatDoor
open Go.RowKit
set_option linter.unusedSimpArgs false
set_option linter.unusedVariables false
set_option maxRecDepth 20000 in
set_option maxHeartbeats 3200000 in
theorem backDesc_any (d : MDesc) (cs : List Value) (A : Option Addr) (n c : Nat) (w : World) (hd' : d.dig.length = 32) (hcs : cs = dsL d.media d.dig d.size (.slice A n c)) (hn : n = d.notes.length) (hbd : n ≤ 1048576) (hr : Rd w (· < w.heap.size) A 2 n (ntsL d.notes)) :
  Calls Tryz.prog 36 #[.agg cs.toArray] w fun e w' => ∃ cs' es, e = .returned (.agg cs'.toArray) ∧ VD d cs' es ∧ Fr [] w w' es := by
 have hF0 := Fr.nil w
 obtain ⟨m, dg, z, nts⟩ := d
 simp only [] at hcs hn hd' hr
 subst hcs
 have hd := box hd'
 have hbn := box (fun w' (hb : Below w.heap.size w w') => backNotes_any A n c nts w' hn hbd (hr.on hb))
 clear hn hbd hr hd'
 go_enter Tryz.func36, Tryz.ntmps36
 go_upto_region 1 with (first | ((with_reducible refine lst (by with_unfolding_all rfl) (wp_fbox hF0 (cs := (dsL m dg z (.slice A n c))) rfl (by with_unfolding_all rfl) (by with_unfolding_all rfl) ?_)); intro w1 g1 hF1 hz1) | ((with_reducible refine lst (by with_unfolding_all rfl) (wp_falloc hF1 (cs := ds0) (z := .agg (List.toArray (ds0))) rfl (by kernel_rfl) (by with_unfolding_all rfl) ?_)); intro w2 g2 hF2 hz2))
 have hFd := (hF2.perm (List.Perm.swap _ _ _)).drew
 clear hF0 hF1 hF2
 refine wp_region_held (S := fun w' => w'.heap[g1]? = some (.cells (List.toArray (dsL m dg z (.slice A n c))) 28 (0, 0))) (by kernel_rfl) ?_
 change wpAnyH _ _ _ _ _ _ _ _ (World.drew _)
 refine tkp 0 (hFd.blk (i := 0) rfl) ?_
 (try simp only [Act.put, List.setIfInBounds_toArray, List.set_cons_zero, List.set_cons_succ])
 refine tky 1 (y := yi_fld (by with_unfolding_all rfl) (fun _ h => h) Tryz.underlying9 rfl (by with_unfolding_all exact ⟨_, rfl, rfl⟩) dsL_m0) (s := (hFd.blk (i := 0) rfl)) (h := ?_)
 (try simp only [Act.put, List.setIfInBounds_toArray, List.set_cons_zero, List.set_cons_succ])
 refine tkp 2 (hFd.blk (i := 0) rfl) ?_
 (try simp only [Act.put, List.setIfInBounds_toArray, List.set_cons_zero, List.set_cons_succ])
 refine tky 3 (y := yi_fldA (by with_unfolding_all rfl) (fun _ h => h) Tryz.underlying25 rfl (by with_unfolding_all exact ⟨_, rfl, rfl⟩) (ds := (dg.map bv)) (by rw [List.length_map, hd.out]; kernel_rfl) (by rw [List.length_map, hd.out]; exact dsL_dig hd.out)) (s := (hFd.blk (i := 0) rfl)) (h := ?_)
 (try simp only [Act.put, List.setIfInBounds_toArray, List.set_cons_zero, List.set_cons_succ])
 refine tkp 4 (hFd.blk (i := 0) rfl) ?_
 (try simp only [Act.put, List.setIfInBounds_toArray, List.set_cons_zero, List.set_cons_succ])
 refine tky 5 (y := yi_fld (by with_unfolding_all rfl) (fun _ h => h) Tryz.underlying3 rfl (by with_unfolding_all exact ⟨_, rfl, rfl⟩) (dsL_size hd.out)) (s := (hFd.blk (i := 0) rfl)) (h := ?_)
 (try simp only [Act.put, List.setIfInBounds_toArray, List.set_cons_zero, List.set_cons_succ])
 refine tkp 6 (hFd.blk (i := 0) rfl) ?_
 (try simp only [Act.put, List.setIfInBounds_toArray, List.set_cons_zero, List.set_cons_succ])
 refine tky 7 (y := yi_fld (by with_unfolding_all rfl) (fun _ h => h) Tryz.underlying26 rfl (by with_unfolding_all exact ⟨_, rfl, rfl⟩) (dsL_notes hd.out)) (s := (hFd.blk (i := 0) rfl)) (h := ?_)
 (try simp only [Act.put, List.setIfInBounds_toArray, List.set_cons_zero, List.set_cons_succ])
 refine rdy1 8 (fun K hK => ?_)
 refine stp (by with_unfolding_all rfl) (wp_call Tryz.func37 rfl (by with_unfolding_all rfl) (by with_unfolding_all rfl) (by with_unfolding_all rfl) (hbn.out _ hFd.below) ?_)
 rintro e w31 ⟨nt31, es31, rfl, hvn31, hv31⟩
 refine ⟨_, rfl, ?_⟩
 have hF31 := hFd.joinR hv31
 simp only [List.cons_append, List.nil_append] at hF31
 obtain ⟨A31, l31, c31, hlc31, hll31, rfl, hm31⟩ := hvn31
 replace hll31 := box hll31
 refine hK.out _ _ ((hF31.blk (i := 0) rfl)) (fun _ => ?_)
 clear hK K
 (try simp only [Act.put, List.setIfInBounds_toArray, List.set_cons_zero, List.set_cons_succ])
 refine rdy1 9 (fun K hK => ?_)
 refine stp (by with_unfolding_all rfl) (wp_fbuild Tryz.underlying37 (z := .agg (List.toArray ds0)) (by kernel_rfl) (pl := dsP) (by kernel_rfl) (cs := dsL m dg z (.slice A31 l31 c31)) rfl (vs := [(0, .string ⟨m.toArray⟩), (1, .agg (dg.map bv).toArray), (2, .int .i64 z), (3, .slice A31 l31 c31)]) (by with_unfolding_all rfl) (ds_fill hd.out) ?_)
 refine hK.out _ _ ((hF31.blk (i := 0) rfl)) (fun _ => ?_)
 clear hK K
 (try simp only [Act.put, List.setIfInBounds_toArray, List.set_cons_zero, List.set_cons_succ])
 refine rdy1 10 (fun K hK => ?_)
 refine stp (by with_unfolding_all rfl) (wp_fstA hF31 (i := 1) rfl (ds := dsL m dg z (.slice A31 l31 c31)) (by with_unfolding_all exact ⟨_, _, rfl, rfl, rfl⟩) (by rw [dsL_len hd.out]; kernel_rfl) dsL_one (by rw [dsL_len hd.out, ds0_len]; decide) ?_)
 intro w32 hF32 hz32
 (try simp only [List.set_cons_zero, List.set_cons_succ] at hF32)
 rw [(spl_all (by rw [dsL_len hd.out, ds0_len]) : spl ds0 0 (dsL m dg z (.slice A31 l31 c31)) = _)] at hF32
 refine hK.out _ _ ((hF32.blk (i := 0) rfl)) (fun _ => ?_)
 clear hK K
 (try simp only [Act.put, List.setIfInBounds_toArray, List.set_cons_zero, List.set_cons_succ])
 refine wpAnyH_done (by kernel_rfl) ?_ _
 go_wp2_with fail
 exact bodyPost_ret (results_cellF rfl _ hF32 (i := 1) rfl rfl Tryz.underlying37 rfl (by rw [dsL_len hd.out]; kernel_rfl)) rfl ⟨_, _, rfl, ⟨_, hd.out, ⟨A31, l31, c31, hlc31, hll31.out, rfl, hm31⟩, rfl⟩, hF32.tail.tail⟩
set_option maxRecDepth 20000 in
set_option maxHeartbeats 3200000 in
theorem backDescs_any (A : Option Addr) (n c : Nat) (l : List MDesc) (xs : List Value) (w : World) (hn : n = l.length) (hbd : n ≤ 1048576) (hr : Rd w (· < w.heap.size) A 35 n xs)
  (hx : ∀ i d, l[i]? = some d → ∃ B k c, d.dig.length = 32 ∧ (xs.drop (i * 35)).take 35 = dsL d.media d.dig d.size (.slice B k c) ∧ k = d.notes.length ∧ k ≤ 1048576 ∧ Rd w (· < w.heap.size) B 2 k (ntsL d.notes)) :
  Calls Tryz.prog 26 #[.slice A n c] w fun e w' => ∃ eg es, e = .returned eg ∧ VE l eg es ∧ Fr [] w w' es := by
 have hF0 := Fr.nil w
 replace hn := box hn
 replace hx := box hx
 go_enter Tryz.func26, Tryz.ntmps26
 go_wp2_with fail
 have hF1 := hF0.none_ w.heap.size 37 35
 go_loopg [3, 8] n (fun g ov iv wr => ∃ (i : Nat) (B : Option Addr) (d : Nat) (zs : List Value) (TE : List Ent), i ≤ n ∧ Box (g = n - i) ∧ iv = .int .i64 (i : Int) ∧ ov = .slice B i d ∧ i ≤ d ∧ Box (VDL (l.take i) zs TE) ∧ Fr [] w wr (.own w.heap.size 37 35 (.slice B i d) i zs :: TE))
 case atStart => exact ⟨0, none, 0, [], [], by omega, box rfl, rfl, rfl, by omega, box rfl, hF1⟩
 case round =>
  clear hF0 hF1
  obtain ⟨i, B, d, zs, TE, hi, hgi, rfl, rfl, hid, hT, hF⟩ := hrel
  have hkk : Box (_ = n - i) := hgi
  clear hgi
  have hr' := hr.below hF.below
  by_cases hlt : i < n
  ·obtain ⟨x, hxi⟩ : ∃ x, l[i]? = some x := ⟨l[i]'(by rw [← hn.out]; exact hlt), by simp⟩
   obtain ⟨D, k, q, hd32, hcs, hk, hkb, hrk⟩ := hx.out i x hxi
   have hbd1 := box (fun w' (hb : Below w.heap.size w w') => backDesc_any x _ D k q w' hd32 rfl hk hkb (hrk.on hb))
   have hcl := box (dsL_len (m := x.media) (z := x.size) (nt := .slice D k q) hd32)
   have htk : l.take (i + 1) = l.take i ++ [x] := by rw [List.take_add_one, hxi]; rfl
   replace htk := box htk
   replace hcs := box hcs
   clear hxi hd32 hk hkb hrk
   go_wp2_with (first | (with_reducible refine lst (by with_unfolding_all rfl) (wp_indexAddr T_descs hr' (by with_unfolding_all exact ⟨_, _, _, _, rfl, rfl, rfl⟩) (by omega) (by omega) ?_)) | (with_reducible refine lst (by with_unfolding_all rfl) (wp_loadA hr' Tryz.underlying28 rfl (by with_unfolding_all exact ⟨_, rfl, rfl⟩) (ds := (dsL x.media x.dig x.size (.slice D k q))) (by rw [hcl.out]; kernel_rfl) (by rw [hcl.out]; with_unfolding_all exact hcs.out) ?_)) | ((with_reducible refine lst (by with_unfolding_all rfl) (wp_falloc hF (cs := ds0) (z := .agg (List.toArray (ds0))) rfl (by kernel_rfl) (by with_unfolding_all rfl) ?_)); intro w2 g2 hF2 hz2) | ((with_reducible refine lst (by with_unfolding_all rfl) (wp_fstA0 hF2 (by with_unfolding_all exact ⟨_, _, rfl, rfl, rfl⟩) (by rw [hcl.out]; kernel_rfl) dsL_one (by rw [hcl.out, ds0_len]; decide) (spl_all (by rw [hcl.out, ds0_len])) ?_)); intro w3 hF3 hz3) | (with_reducible refine lst (by with_unfolding_all rfl) (wp_fldA0 hF3 Tryz.underlying28 rfl (by with_unfolding_all exact ⟨_, rfl, rfl⟩) (ds := (dsL x.media x.dig x.size (.slice D k q))) (by rw [hcl.out]; kernel_rfl) (take_all _) ?_)))
   refine (hbd1.out _ hF3.below).mono ?_
   rintro e w4 ⟨c4, es4, rfl, hvd, h4⟩
   have hF4 := hF3.joinR h4
   simp only [List.cons_append] at hF4
   have hdl := box hvd.len
   have hdo := box hvd.ones
   have hT2 := box (VDL.snoc (hT.out.mono (es' := TE ++ es4) (fun _ h => List.mem_append_left _ h)) (hvd.mono (fun _ h => List.mem_append_right _ h)))
   rw [← htk.out] at hT2
   clear hvd h4 hbd1
   go_wp2_with (first | ((with_reducible refine lst (by with_unfolding_all rfl) (wp_fbs1 T_rdescs hF4 (by with_unfolding_all rfl) (ds := c4) (by with_unfolding_all rfl) hdl.out (by decide) ?_)); intro w7 g7 hF7 hz7) | ((with_reducible refine lst (by with_unfolding_all rfl) (wp_fappG T_rdescs hF7 (i := 2) rfl (Nat.le_refl _) (hF7.rdOwn (i := 0) rfl) hdo.out (by with_unfolding_all exact ⟨_, _, rfl, rfl, rfl⟩) (by unfold maxLen; omega) (by omega) ?_)); intro v8 w8 hF8 hz8; simp only [List.set_cons_zero, List.set_cons_succ] at hF8; obtain ⟨A8, c8, rfl, hc8⟩ := hF8.ownParts (i := 2) rfl))
   go_roundg (n - (i + 1))
   case rel => exact ⟨i + 1, A8, c8, zs ++ c4, TE ++ es4, by omega, box rfl, by go_num, rfl, hc8, hT2, hF8.tail.tail⟩
   case measure => have := hkk.out; omega
  ·obtain rfl : n = i := by omega
   have hta : Box (l.take n = l) := box (List.take_of_length_le (by rw [hn.out]; exact Nat.le_refl _))
   rw [hta.out] at hT
   go_wp2_with fail
   go_ret
   have hF3 := hF.toRd (i := 0) rfl
   exact ⟨_, _, rfl, ⟨B, n, d, zs, hid, hn.out, rfl, hT.out.mono (fun _ h => by simp [h]), .inr (by simp)⟩, hF3⟩
set_option maxRecDepth 20000 in
set_option maxHeartbeats 3200000 in
theorem desc_any (d : MDesc) (cs : List Value) (A : Option Addr) (n c : Nat) (w : World) (hd' : d.dig.length = 32) (hcs : cs = dsL d.media d.dig d.size (.slice A n c)) (hn : n = d.notes.length) (hbd : n ≤ 1048576) (hr : Rd w (· < w.heap.size) A 2 n (ntsL d.notes)) :
  Calls Tryz.prog 53 #[.agg cs.toArray] w fun e w' => ∃ cs' es, e = .returned (.agg cs'.toArray) ∧ VD d cs' es ∧ Fr [] w w' es := by
 have hF0 := Fr.nil w
 obtain ⟨m, dg, z, nts⟩ := d
 simp only [] at hcs hn hd' hr
 subst hcs
 have hd := box hd'
 have hbn := box (fun w' (hb : Below w.heap.size w w') => notes_any A n c nts w' hn hbd (hr.on hb))
 clear hn hbd hr hd'
 go_enter Tryz.func53, Tryz.ntmps53
 go_upto_region 1 with (first | ((with_reducible refine lst (by with_unfolding_all rfl) (wp_fbox hF0 (cs := (dsL m dg z (.slice A n c))) rfl (by with_unfolding_all rfl) (by with_unfolding_all rfl) ?_)); intro w1 g1 hF1 hz1) | ((with_reducible refine lst (by with_unfolding_all rfl) (wp_falloc hF1 (cs := ds0) (z := .agg (List.toArray (ds0))) rfl (by kernel_rfl) (by with_unfolding_all rfl) ?_)); intro w2 g2 hF2 hz2))
 have hFd := (hF2.perm (List.Perm.swap _ _ _)).drew
 clear hF0 hF1 hF2
 refine wp_region_held (S := fun w' => w'.heap[g1]? = some (.cells (List.toArray (dsL m dg z (.slice A n c))) 37 (0, 0))) (by kernel_rfl) ?_
 change wpAnyH _ _ _ _ _ _ _ _ (World.drew _)
 refine tkp 0 (hFd.blk (i := 0) rfl) ?_
 (try simp only [Act.put, List.setIfInBounds_toArray, List.set_cons_zero, List.set_cons_succ])
 refine tky 1 (y := yi_fld (by with_unfolding_all rfl) (fun _ h => h) Tryz.underlying9 rfl (by with_unfolding_all exact ⟨_, rfl, rfl⟩) dsL_m0) (s := (hFd.blk (i := 0) rfl)) (h := ?_)
 (try simp only [Act.put, List.setIfInBounds_toArray, List.set_cons_zero, List.set_cons_succ])
 refine tkp 2 (hFd.blk (i := 0) rfl) ?_
 (try simp only [Act.put, List.setIfInBounds_toArray, List.set_cons_zero, List.set_cons_succ])
 refine tky 3 (y := yi_fldA (by with_unfolding_all rfl) (fun _ h => h) Tryz.underlying24 rfl (by with_unfolding_all exact ⟨_, rfl, rfl⟩) (ds := (dg.map bv)) (by rw [List.length_map, hd.out]; kernel_rfl) (by rw [List.length_map, hd.out]; exact dsL_dig hd.out)) (s := (hFd.blk (i := 0) rfl)) (h := ?_)
 (try simp only [Act.put, List.setIfInBounds_toArray, List.set_cons_zero, List.set_cons_succ])
 refine tkp 4 (hFd.blk (i := 0) rfl) ?_
 (try simp only [Act.put, List.setIfInBounds_toArray, List.set_cons_zero, List.set_cons_succ])
 refine tky 5 (y := yi_fld (by with_unfolding_all rfl) (fun _ h => h) Tryz.underlying3 rfl (by with_unfolding_all exact ⟨_, rfl, rfl⟩) (dsL_size hd.out)) (s := (hFd.blk (i := 0) rfl)) (h := ?_)
 (try simp only [Act.put, List.setIfInBounds_toArray, List.set_cons_zero, List.set_cons_succ])
 refine tkp 6 (hFd.blk (i := 0) rfl) ?_
 (try simp only [Act.put, List.setIfInBounds_toArray, List.set_cons_zero, List.set_cons_succ])
 refine tky 7 (y := yi_fld (by with_unfolding_all rfl) (fun _ h => h) Tryz.underlying35 rfl (by with_unfolding_all exact ⟨_, rfl, rfl⟩) (dsL_notes hd.out)) (s := (hFd.blk (i := 0) rfl)) (h := ?_)
 (try simp only [Act.put, List.setIfInBounds_toArray, List.set_cons_zero, List.set_cons_succ])
 refine rdy1 8 (fun K hK => ?_)
 refine stp (by with_unfolding_all rfl) (wp_call Tryz.func55 rfl (by with_unfolding_all rfl) (by with_unfolding_all rfl) (by with_unfolding_all rfl) (hbn.out _ hFd.below) ?_)
 rintro e w31 ⟨nt31, es31, rfl, hvn31, hv31⟩
 refine ⟨_, rfl, ?_⟩
 have hF31 := hFd.joinR hv31
 simp only [List.cons_append, List.nil_append] at hF31
 obtain ⟨A31, l31, c31, hlc31, hll31, rfl, hm31⟩ := hvn31
 replace hll31 := box hll31
 refine hK.out _ _ ((hF31.blk (i := 0) rfl)) (fun _ => ?_)
 clear hK K
 (try simp only [Act.put, List.setIfInBounds_toArray, List.set_cons_zero, List.set_cons_succ])
 refine rdy1 9 (fun K hK => ?_)
 refine stp (by with_unfolding_all rfl) (wp_fbuild Tryz.underlying28 (z := .agg (List.toArray ds0)) (by kernel_rfl) (pl := dsP) (by kernel_rfl) (cs := dsL m dg z (.slice A31 l31 c31)) rfl (vs := [(0, .string ⟨m.toArray⟩), (1, .agg (dg.map bv).toArray), (2, .int .i64 z), (3, .slice A31 l31 c31)]) (by with_unfolding_all rfl) (ds_fill hd.out) ?_)
 refine hK.out _ _ ((hF31.blk (i := 0) rfl)) (fun _ => ?_)
 clear hK K
 (try simp only [Act.put, List.setIfInBounds_toArray, List.set_cons_zero, List.set_cons_succ])
 refine rdy1 10 (fun K hK => ?_)
 refine stp (by with_unfolding_all rfl) (wp_fstA hF31 (i := 1) rfl (ds := dsL m dg z (.slice A31 l31 c31)) (by with_unfolding_all exact ⟨_, _, rfl, rfl, rfl⟩) (by rw [dsL_len hd.out]; kernel_rfl) dsL_one (by rw [dsL_len hd.out, ds0_len]; decide) ?_)
 intro w32 hF32 hz32
 (try simp only [List.set_cons_zero, List.set_cons_succ] at hF32)
 rw [(spl_all (by rw [dsL_len hd.out, ds0_len]) : spl ds0 0 (dsL m dg z (.slice A31 l31 c31)) = _)] at hF32
 refine hK.out _ _ ((hF32.blk (i := 0) rfl)) (fun _ => ?_)
 clear hK K
 (try simp only [Act.put, List.setIfInBounds_toArray, List.set_cons_zero, List.set_cons_succ])
 refine wpAnyH_done (by kernel_rfl) ?_ _
 go_wp2_with fail
 exact bodyPost_ret (results_cellF rfl _ hF32 (i := 1) rfl rfl Tryz.underlying28 rfl (by rw [dsL_len hd.out]; kernel_rfl)) rfl ⟨_, _, rfl, ⟨_, hd.out, ⟨A31, l31, c31, hlc31, hll31.out, rfl, hm31⟩, rfl⟩, hF32.tail.tail⟩
set_option maxRecDepth 20000 in
set_option maxHeartbeats 3200000 in
theorem descs_any (A : Option Addr) (n c : Nat) (l : List MDesc) (xs : List Value) (w : World) (hn : n = l.length) (hbd : n ≤ 1048576) (hr : Rd w (· < w.heap.size) A 35 n xs)
  (hx : ∀ i d, l[i]? = some d → ∃ B k c, d.dig.length = 32 ∧ (xs.drop (i * 35)).take 35 = dsL d.media d.dig d.size (.slice B k c) ∧ k = d.notes.length ∧ k ≤ 1048576 ∧ Rd w (· < w.heap.size) B 2 k (ntsL d.notes)) :
  Calls Tryz.prog 54 #[.slice A n c] w fun e w' => ∃ eg es, e = .returned eg ∧ VE l eg es ∧ Fr [] w w' es := by
 have hF0 := Fr.nil w
 replace hn := box hn
 replace hx := box hx
 go_enter Tryz.func54, Tryz.ntmps54
 go_wp2_with fail
 have hF1 := hF0.none_ w.heap.size 28 35
 go_loopg [3, 8] n (fun g ov iv wr => ∃ (i : Nat) (B : Option Addr) (d : Nat) (zs : List Value) (TE : List Ent), i ≤ n ∧ Box (g = n - i) ∧ iv = .int .i64 (i : Int) ∧ ov = .slice B i d ∧ i ≤ d ∧ Box (VDL (l.take i) zs TE) ∧ Fr [] w wr (.own w.heap.size 28 35 (.slice B i d) i zs :: TE))
 case atStart => exact ⟨0, none, 0, [], [], by omega, box rfl, rfl, rfl, by omega, box rfl, hF1⟩
 case round =>
  clear hF0 hF1
  obtain ⟨i, B, d, zs, TE, hi, hgi, rfl, rfl, hid, hT, hF⟩ := hrel
  have hkk : Box (_ = n - i) := hgi
  clear hgi
  have hr' := hr.below hF.below
  by_cases hlt : i < n
  ·obtain ⟨x, hxi⟩ : ∃ x, l[i]? = some x := ⟨l[i]'(by rw [← hn.out]; exact hlt), by simp⟩
   obtain ⟨D, k, q, hd32, hcs, hk, hkb, hrk⟩ := hx.out i x hxi
   have hbd1 := box (fun w' (hb : Below w.heap.size w w') => desc_any x _ D k q w' hd32 rfl hk hkb (hrk.on hb))
   have hcl := box (dsL_len (m := x.media) (z := x.size) (nt := .slice D k q) hd32)
   have htk : l.take (i + 1) = l.take i ++ [x] := by rw [List.take_add_one, hxi]; rfl
   replace htk := box htk
   replace hcs := box hcs
   clear hxi hd32 hk hkb hrk
   go_wp2_with (first | (with_reducible refine lst (by with_unfolding_all rfl) (wp_indexAddr T_rdescs hr' (by with_unfolding_all exact ⟨_, _, _, _, rfl, rfl, rfl⟩) (by omega) (by omega) ?_)) | (with_reducible refine lst (by with_unfolding_all rfl) (wp_loadA hr' Tryz.underlying37 rfl (by with_unfolding_all exact ⟨_, rfl, rfl⟩) (ds := (dsL x.media x.dig x.size (.slice D k q))) (by rw [hcl.out]; kernel_rfl) (by rw [hcl.out]; with_unfolding_all exact hcs.out) ?_)) | ((with_reducible refine lst (by with_unfolding_all rfl) (wp_falloc hF (cs := ds0) (z := .agg (List.toArray (ds0))) rfl (by kernel_rfl) (by with_unfolding_all rfl) ?_)); intro w2 g2 hF2 hz2) | ((with_reducible refine lst (by with_unfolding_all rfl) (wp_fstA0 hF2 (by with_unfolding_all exact ⟨_, _, rfl, rfl, rfl⟩) (by rw [hcl.out]; kernel_rfl) dsL_one (by rw [hcl.out, ds0_len]; decide) (spl_all (by rw [hcl.out, ds0_len])) ?_)); intro w3 hF3 hz3) | (with_reducible refine lst (by with_unfolding_all rfl) (wp_fldA0 hF3 Tryz.underlying37 rfl (by with_unfolding_all exact ⟨_, rfl, rfl⟩) (ds := (dsL x.media x.dig x.size (.slice D k q))) (by rw [hcl.out]; kernel_rfl) (take_all _) ?_)))
   refine (hbd1.out _ hF3.below).mono ?_
   rintro e w4 ⟨c4, es4, rfl, hvd, h4⟩
   have hF4 := hF3.joinR h4
   simp only [List.cons_append] at hF4
   have hdl := box hvd.len
   have hdo := box hvd.ones
   have hT2 := box (VDL.snoc (hT.out.mono (es' := TE ++ es4) (fun _ h => List.mem_append_left _ h)) (hvd.mono (fun _ h => List.mem_append_right _ h)))
   rw [← htk.out] at hT2
   clear hvd h4 hbd1
   go_wp2_with (first | ((with_reducible refine lst (by with_unfolding_all rfl) (wp_fbs1 T_descs hF4 (by with_unfolding_all rfl) (ds := c4) (by with_unfolding_all rfl) hdl.out (by decide) ?_)); intro w7 g7 hF7 hz7) | ((with_reducible refine lst (by with_unfolding_all rfl) (wp_fappG T_descs hF7 (i := 2) rfl (Nat.le_refl _) (hF7.rdOwn (i := 0) rfl) hdo.out (by with_unfolding_all exact ⟨_, _, rfl, rfl, rfl⟩) (by unfold maxLen; omega) (by omega) ?_)); intro v8 w8 hF8 hz8; simp only [List.set_cons_zero, List.set_cons_succ] at hF8; obtain ⟨A8, c8, rfl, hc8⟩ := hF8.ownParts (i := 2) rfl))
   go_roundg (n - (i + 1))
   case rel => exact ⟨i + 1, A8, c8, zs ++ c4, TE ++ es4, by omega, box rfl, by go_num, rfl, hc8, hT2, hF8.tail.tail⟩
   case measure => have := hkk.out; omega
  ·obtain rfl : n = i := by omega
   have hta : Box (l.take n = l) := box (List.take_of_length_le (by rw [hn.out]; exact Nat.le_refl _))
   rw [hta.out] at hT
   go_wp2_with fail
   go_ret
   have hF3 := hF.toRd (i := 0) rfl
   exact ⟨_, _, rfl, ⟨B, n, d, zs, hid, hn.out, rfl, hT.out.mono (fun _ h => by simp [h]), .inr (by simp)⟩, hF3⟩
end Go.Proofs.YtlhicfpmlncomaaGreatDoor
