/-
 Layer 8: the program's edges, walked.
 Layer 8, plain law: the document's way to read a value goes as the program's. No program is named here.
 Layer 8: the program's member, walked.
-/
import Derived.Test.YtlhicfpmlncomaaGreatDoorF09
import Derived.Test.YtlhicfpmlncomaaGreatDoorF02
import Derived.Test.YtlhicfpmlncomaaGreatDoorF08
import Derived.Test.YtlhicfpmlncomaaGreatDoorF00
set_option linter.unusedSimpArgs false
set_option linter.unusedVariables false
namespace Go.Proofs.YtlhicfpmlncomaaGreatDoor
open Go.RowKit
theorem T_descs : SlT Tryz.prog 29 28 35 80 (.agg ds0.toArray) := ⟨uq29, by kernel_rfl, by kernel_rfl, by decide⟩
theorem mEdgesL_go {ks : List JV} {i : Nat} {k : JV} (hk : ks[i]? = some k) : mEdgesL (ks.drop i) = match mDesc k with
  | .ok d => mApp [d] (mEdgesL (ks.drop (i + 1)))
  | .error e => .error e := by
 rw [List.drop_eq_getElem_cons (List.getElem?_eq_some_iff.1 hk).1, (List.getElem?_eq_some_iff.1 hk).2, mEdgesL]
 cases mDesc k with
 | error e => rfl
 | ok d => simp only []; cases mEdgesL (ks.drop (i + 1)) <;> rfl
theorem mEdgesL_end {ks : List JV} {i : Nat} (hk : ks.length ≤ i) : mEdgesL (ks.drop i) = .ok [] := by
 rw [List.drop_of_length_le hk]; rfl
def MEdg (w : World) (r : MR (List MDesc)) (e : Ending) (w' : World) : Prop := ∃ eg es, e = .returned (.tuple #[eg, mErr r]) ∧ VE (mLst r) eg es ∧ Fr [] w w' es
set_option maxRecDepth 20000 in
set_option maxHeartbeats 6400000 in
theorem medges_any (v : JV) (cs : List Value) (w : World) (hM : MaxW w) (hv : VRd w (· < w.heap.size) v cs) (hob : JOb v) :
  Calls Tryz.prog 93 #[.agg cs.toArray] w (MEdg w (mEdges v)) := by
 obtain ⟨k, n, t, ns, ks⟩ := v
 rw [VRd] at hv
 obtain ⟨An, nn, cn, Ak, nk, ck, xs, hcn, hck, rfl, hrn, hrk, hvk⟩ := hv
 have hF0 := Fr.nil w
 have hkl := hvk.len
 rw [hrk.len] at hkl
 have hnk : nk = ks.length := by omega
 have hkob := box (fun u hu => hob.kid (k := u) hu)
 simp only [JV.kids] at hkob
 by_cases hk : k = 5
 rotate_left
 ·have hj : Box (mEdges (.mk k n t ns ks) = .error 80) := box (if_neg hk)
  have hq : ((k : Int) != 5) = true := by rw [bne_iff_ne]; exact hk
  replace hk := box hk
  clear hob hkl hnk
  go_enter Tryz.func93, Tryz.ntmps93
  go_wp2_with (first | ((with_reducible refine lsx (wp_fbox hF0 (cs := (vlL k n ⟨t.toArray⟩ (.slice An nn cn) (.slice Ak nk ck))) rfl (by with_unfolding_all rfl) (by with_unfolding_all rfl) ?_)); intro w1 g1 hF1 hz1) | (with_reducible refine lsx (wp_fld0 hF1 uq3 rfl (by with_unfolding_all exact ⟨_, rfl, rfl⟩) rfl ?_)))
  go_ret2
  unfold MEdg
  rw [hj.out]
  exact ⟨_, _, rfl, VE.nil, hF1⟩
 have hq : ((k : Int) != 5) = false := by rw [hk]; rfl
 by_cases hbig : 64 < nk
 ·have hj : Box (mEdges (.mk k n t ns ks) = .error 8) := box ((if_pos hk).trans (if_pos (show 64 < ks.length by omega)))
  have hd : decide ((64 : Int) < (nk : Int)) = true := decide_eq_true (by omega)
  replace hk := box hk
  clear hob hkl hnk
  go_enter Tryz.func93, Tryz.ntmps93
  go_wp2_with (first | ((with_reducible refine lsx (wp_fbox hF0 (cs := (vlL k n ⟨t.toArray⟩ (.slice An nn cn) (.slice Ak nk ck))) rfl (by with_unfolding_all rfl) (by with_unfolding_all rfl) ?_)); intro w1 g1 hF1 hz1) | (with_reducible refine lsx (wp_fld0 hF1 uq3 rfl (by with_unfolding_all exact ⟨_, rfl, rfl⟩) rfl ?_)) | (with_reducible refine lsx (wp_fld0 hF1 uq74 rfl (by with_unfolding_all exact ⟨_, rfl, rfl⟩) rfl ?_)))
  go_ret2
  unfold MEdg
  rw [hj.out]
  exact ⟨_, _, rfl, VE.nil, hF1⟩
 have hd : decide ((64 : Int) < (nk : Int)) = false := decide_eq_false (by omega)
 obtain ⟨J, hJ0⟩ : ∃ J, J = mEdges (.mk k n t ns ks) := ⟨_, rfl⟩
 have hJ : Box (J = mApp [] (mEdgesL (ks.drop 0))) := box (by
  rw [hJ0, List.drop_zero]
  refine ((if_pos hk).trans (if_neg (show ¬ 64 < ks.length by omega))).trans ?_
  show mEdgesL ks = _
  cases mEdgesL ks <;> rfl)
 rw [← hJ0]
 replace hk := box hk
 replace hnk := box hnk
 replace hvk := box hvk
 clear hkl hJ0 hob
 go_enter Tryz.func93, Tryz.ntmps93
 go_wp2_with (first | ((with_reducible refine lsx (wp_fbox hF0 (cs := (vlL k n ⟨t.toArray⟩ (.slice An nn cn) (.slice Ak nk ck))) rfl (by with_unfolding_all rfl) (by with_unfolding_all rfl) ?_)); intro w1 g1 hF1 hz1) | (with_reducible refine lsx (wp_fld0 hF1 uq3 rfl (by with_unfolding_all exact ⟨_, rfl, rfl⟩) rfl ?_)) | (with_reducible refine lsx (wp_fld0 hF1 uq74 rfl (by with_unfolding_all exact ⟨_, rfl, rfl⟩) rfl ?_)))
 have hF2 := hF1.none_ w.heap.size 28 35
 clear hF0 hF1
 go_loopg [4, 23] nk (fun g ov iv wr => ∃ (i : Nat) (out : List MDesc) (A : Option Addr) (c : Nat) (zs : List Value) (TE : List Ent), i ≤ nk ∧ Box (g = nk - i) ∧ iv = .int .i64 (i : Int) ∧ ov = .slice A i c ∧ i ≤ c ∧ Box (out.length = i) ∧ Box (VDL out zs TE) ∧ Box (J = mApp out (mEdgesL (ks.drop i))) ∧ Fr [] w wr (.own w.heap.size 28 35 (.slice A i c) i zs :: .blk g1 76 (vlL k n ⟨t.toArray⟩ (.slice An nn cn) (.slice Ak nk ck)) :: TE))
 case atStart => exact ⟨0, [], none, 0, [], [], by omega, box rfl, rfl, rfl, by omega, box rfl, box rfl, hJ, hF2⟩
 case round =>
  clear hF2 hJ
  obtain ⟨i, out, A, c, zs, TE, hi, hgi, rfl, rfl, hic, hol, hT, hJ, hF⟩ := hrel
  have hkk : Box (_ = nk - i) := hgi
  clear hgi
  have hrk' := hrk.below hF.below
  by_cases hlt : i < nk
  ·obtain ⟨u, hu⟩ : ∃ u, ks[i]? = some u := ⟨ks[i]'(by rw [← hnk.out]; exact hlt), by simp⟩
   obtain ⟨ci, hci, hvi⟩ := hvk.out.at hu
   have hstep := mEdgesL_go hu
   have hcil := box hvi.len
   have hcio := box (VRd.ones hvi)
   have hub := hkob.out u (List.mem_of_getElem? hu)
   have htx := box (fun w' hb => mdesc_any u ci w' (hM.on hb) (hvi.on (w' := w') hb) hub)
   have hJ' := hJ.out
   rw [hstep] at hJ'
   replace hci := box hci
   clear hu hstep hJ hvi hub
   cases hm : mDesc u with
   | ok d =>
    rw [hm] at hJ' htx
    simp only [] at hJ'
    rw [mApp_app] at hJ'
    replace hJ' := box hJ'
    clear hm
    go_wp2_with (first | (with_reducible refine lsx (wp_indexAddr T_vals hrk' (by with_unfolding_all exact ⟨_, _, _, _, rfl, rfl, rfl⟩) (by omega) (by omega) ?_)) | (with_reducible refine lsx (wp_loadA hrk' uq76 rfl (by with_unfolding_all exact ⟨_, rfl, rfl⟩) (ds := ci) (by rw [hcil.out]; kernel_rfl) (by rw [hcil.out]; with_unfolding_all exact hci.out) ?_)) | ((with_reducible refine lsx (wp_falloc hF (cs := vl0) (z := .agg (List.toArray (vl0))) rfl (by kernel_rfl) (by with_unfolding_all rfl) ?_)); intro w2 g2 hF2 hz2) | ((with_reducible refine lsx (wp_fstA0 hF2 (by with_unfolding_all exact ⟨_, _, rfl, rfl, rfl⟩) (by rw [hcil.out]; kernel_rfl) hcio.out (by rw [hcil.out, vlL_len]; decide) (spl_all (by rw [hcil.out, vlL_len])) ?_)); intro w3 hF3 hz3) | (with_reducible refine lsx (wp_fldA0 hF3 uq76 rfl (by with_unfolding_all exact ⟨_, rfl, rfl⟩) (ds := ci) (by rw [hcil.out]; kernel_rfl) (take_all _) ?_)))
    refine (htx.out _ hF3.below).mono ?_
    rintro e w4 ⟨cs4, es4, rfl, hvd, hn4⟩
    have hF4 := hF3.joinR hn4
    simp only [List.cons_append] at hF4
    have hvd2 : VD d cs4 es4 := hvd
    have hdl := box hvd2.len
    have hdo := box hvd2.ones
    have hT2 := box (VDL.snoc (hT.out.mono (es' := TE ++ es4) (fun _ h => List.mem_append_left _ h)) (hvd2.mono (fun _ h => List.mem_append_right _ h)))
    simp only [mErr]
    clear hvd hvd2 hn4 htx
    go_wp2_with (first | ((with_reducible refine lsx (wp_falloc hF4 (cs := ds0) (z := .agg (List.toArray (ds0))) rfl (by kernel_rfl) (by with_unfolding_all rfl) ?_)); intro w5 g5 hF5 hz5) | ((with_reducible refine lsx (wp_fstA0 hF5 (by with_unfolding_all exact ⟨_, _, rfl, rfl, rfl⟩) (by rw [hdl.out]; kernel_rfl) hdo.out (by rw [hdl.out, ds0_len]; decide) (spl_all (by rw [hdl.out, ds0_len])) ?_)); intro w6 hF6 hz6) | (with_reducible refine lsx (wp_fldA0 hF6 uq28 rfl (by with_unfolding_all exact ⟨_, rfl, rfl⟩) (ds := cs4) (by rw [hdl.out]; kernel_rfl) (take_all _) ?_)) | ((with_reducible refine lsx (wp_fbs1 T_descs hF6 (by with_unfolding_all rfl) (ds := cs4) (by with_unfolding_all rfl) hdl.out (by decide) ?_)); intro w7 g7 hF7 hz7) | ((with_reducible refine lsx (wp_fappG T_descs hF7 (i := 3) rfl (Nat.le_refl _) (hF7.rdOwn (i := 0) rfl) hdo.out (by with_unfolding_all exact ⟨_, _, rfl, rfl, rfl⟩) (by unfold maxLen; omega) (by omega) ?_)); intro v8 w8 hF8 hz8; simp only [zZ, zN] at hF8; obtain ⟨A8, c8, rfl, hc8⟩ := hF8.ownParts (i := 3) rfl))
    go_roundg (nk - (i + 1))
    case rel => exact ⟨i + 1, out ++ [d], A8, c8, zs ++ cs4, TE ++ es4, by omega, box rfl, by go_num, rfl, hc8, box (by rw [List.length_append, hol.out]; rfl), hT2, hJ', hF8.tail.tail.tail⟩
    case measure => have := hkk.out; omega
   | error ee =>
    rw [hm] at hJ' htx
    simp only [] at hJ'
    replace hJ' := box hJ'
    clear hm
    go_wp2_with (first | (with_reducible refine lsx (wp_indexAddr T_vals hrk' (by with_unfolding_all exact ⟨_, _, _, _, rfl, rfl, rfl⟩) (by omega) (by omega) ?_)) | (with_reducible refine lsx (wp_loadA hrk' uq76 rfl (by with_unfolding_all exact ⟨_, rfl, rfl⟩) (ds := ci) (by rw [hcil.out]; kernel_rfl) (by rw [hcil.out]; with_unfolding_all exact hci.out) ?_)) | ((with_reducible refine lsx (wp_falloc hF (cs := vl0) (z := .agg (List.toArray (vl0))) rfl (by kernel_rfl) (by with_unfolding_all rfl) ?_)); intro w2 g2 hF2 hz2) | ((with_reducible refine lsx (wp_fstA0 hF2 (by with_unfolding_all exact ⟨_, _, rfl, rfl, rfl⟩) (by rw [hcil.out]; kernel_rfl) hcio.out (by rw [hcil.out, vlL_len]; decide) (spl_all (by rw [hcil.out, vlL_len])) ?_)); intro w3 hF3 hz3) | (with_reducible refine lsx (wp_fldA0 hF3 uq76 rfl (by with_unfolding_all exact ⟨_, rfl, rfl⟩) (ds := ci) (by rw [hcil.out]; kernel_rfl) (take_all _) ?_)))
    refine (htx.out _ hF3.below).mono ?_
    rintro e w4 ⟨cs4, es4, rfl, hvd, hn4⟩
    have hF4 := hF3.joinR hn4
    simp only [List.cons_append] at hF4
    have hdl := box hvd.len
    have hdo := box hvd.ones
    simp only [mErr]
    clear hvd hn4 htx
    go_wp2_with (first | ((with_reducible refine lsx (wp_falloc hF4 (cs := ds0) (z := .agg (List.toArray (ds0))) rfl (by kernel_rfl) (by with_unfolding_all rfl) ?_)); intro w5 g5 hF5 hz5) | ((with_reducible refine lsx (wp_fstA0 hF5 (by with_unfolding_all exact ⟨_, _, rfl, rfl, rfl⟩) (by rw [hdl.out]; kernel_rfl) hdo.out (by rw [hdl.out, ds0_len]; decide) (spl_all (by rw [hdl.out, ds0_len])) ?_)); intro w6 hF6 hz6))
    go_ret2
    unfold MEdg
    rw [hJ'.out]
    exact ⟨_, _, rfl, VE.nil, hF6⟩
  ·have hend : Box (J = .ok out) := box (by rw [hJ.out, mEdgesL_end (by rw [← hnk.out]; omega)]; simp [mApp])
   obtain rfl : nk = i := by omega
   go_wp2_with fail
   go_ret2
   unfold MEdg
   rw [hend.out]
   have hF3 := hF.toRd (i := 0) rfl
   exact ⟨_, _, rfl, ⟨A, nk, c, zs, hic, hol.out.symm, rfl, hT.out.mono (fun _ h => by simp [h]), .inr (by simp)⟩, hF3⟩
end Go.Proofs.YtlhicfpmlncomaaGreatDoor

namespace Go.Proofs.YtlhicfpmlncomaaGreatDoor
def MHad.count (h : MHad) : Nat := h.a.toNat + h.b.toNat + h.c.toNat
theorem MHad.all {h : MHad} : (h.a = true ∧ h.b = true ∧ h.c = true) ↔ ¬ h.count < 3 := by
 obtain ⟨a, b, c⟩ := h
 cases a <;> cases b <;> cases c <;> simp [MHad.count]
def rStep (d : MDoc) (n : List UInt8) (k : JV) : MR MDoc := match mStep d ⟨false, false, false, false, false⟩ n k with
 | .ok x => .ok x.1
 | .error e => .error e
def rReadL : MDoc → List (List UInt8) → List JV → MR MDoc
 | d, n :: ns, k :: ks => match rStep d n k with
  | .ok d' => rReadL d' ns ks
  | .error e => .error e
 | d, _, _ => .ok d
def rWhole (d : MDoc) (names : List (List UInt8)) : Prop :=
 kVersion ∈ names ∧ kMedia ∈ names ∧ (kConfig ∈ names ↔ d.media = sImage) ∧ (kLayers ∈ names ↔ d.media = sImage) ∧ (kManifests ∈ names ↔ d.media ≠ sImage)
instance (d : MDoc) (names : List (List UInt8)) : Decidable (rWhole d names) := by unfold rWhole; exact inferInstance
def MGot.more (h : MGot) (ns : List (List UInt8)) : MGot := ⟨h.v || decide (kVersion ∈ ns), h.m || decide (kMedia ∈ ns), h.c || decide (kConfig ∈ ns), h.l || decide (kLayers ∈ ns), h.i || decide (kManifests ∈ ns)⟩
theorem MGot.more_nil (h : MGot) : h.more [] = h := by simp [MGot.more]
def MGot.one (h : MGot) (n : List UInt8) : MGot := ⟨h.v || decide (n = kVersion), h.m || decide (n = kMedia), h.c || decide (n = kConfig), h.l || decide (n = kLayers), h.i || decide (n = kManifests)⟩
theorem MGot.more_cons (h : MGot) (n : List UInt8) (ns : List (List UInt8)) : h.more (n :: ns) = (h.one n).more ns := by
 unfold MGot.more MGot.one
 simp only [List.mem_cons, Bool.decide_or, Bool.or_assoc]
 simp only [eq_comm]
theorem mStep_one (d : MDoc) (h : MGot) (n : List UInt8) (k : JV) : mStep d h n k = match rStep d n k with
  | .ok d' => .ok (d', h.one n)
  | .error e => .error e := by
 unfold rStep mStep MGot.one
 by_cases h1 : n = kVersion
 ·subst h1
  rw [if_pos rfl, if_pos rfl]
  split <;> simp [kVersion, kMedia, kConfig, kLayers, kManifests]
 rw [if_neg h1, if_neg h1]
 by_cases h2 : n = kMedia
 ·subst h2
  rw [if_pos rfl, if_pos rfl]
  split
  ·split <;> simp [kVersion, kMedia, kConfig, kLayers, kManifests]
  ·rfl
 rw [if_neg h2, if_neg h2]
 by_cases h3 : n = kType
 ·subst h3
  rw [if_pos rfl, if_pos rfl]
  cases mMedia k <;> simp [kVersion, kMedia, kConfig, kLayers, kManifests, kType]
 rw [if_neg h3, if_neg h3]
 by_cases h4 : n = kConfig
 ·subst h4
  rw [if_pos rfl, if_pos rfl]
  cases mDesc k <;> simp [kVersion, kMedia, kConfig, kLayers, kManifests]
 rw [if_neg h4, if_neg h4]
 by_cases h5 : n = kLayers
 ·subst h5
  rw [if_pos rfl, if_pos rfl]
  cases mEdges k <;> simp [kVersion, kMedia, kConfig, kLayers, kManifests]
 rw [if_neg h5, if_neg h5]
 by_cases h6 : n = kManifests
 ·subst h6
  rw [if_pos rfl, if_pos rfl]
  cases mEdges k <;> simp [kVersion, kMedia, kConfig, kLayers, kManifests]
 rw [if_neg h6, if_neg h6]
 by_cases h7 : n = kSubject
 ·subst h7
  rw [if_pos rfl, if_pos rfl]
  cases mDesc k <;> simp [kVersion, kMedia, kConfig, kLayers, kManifests, kSubject]
 rw [if_neg h7, if_neg h7]
 by_cases h8 : n = kNotes
 ·subst h8
  rw [if_pos rfl, if_pos rfl]
  cases mNotes k <;> simp [kVersion, kMedia, kConfig, kLayers, kManifests, kNotes]
 rw [if_neg h8, if_neg h8]
theorem mReadL_eq : ∀ (ns : List (List UInt8)) (ks : List JV) (d : MDoc) (h : MGot), ns.length = ks.length → mReadL d h ns ks = match rReadL d ns ks with
  | .ok d' => if mWhole d' (h.more ns) = true then .ok d' else .error 80
  | .error e => .error e
 | [], [], d, h, _ => by
  rw [mReadL, rReadL]
  ·simp only [MGot.more_nil]
  all_goals (intros; rename_i h1 h2; cases h1)
 | n :: ns, k :: ks, d, h, hl => by
  rw [mReadL, rReadL, mStep_one, MGot.more_cons]
  cases rStep d n k with
  | error e => rfl
  | ok d' => exact mReadL_eq ns ks d' (h.one n) (by simpa using hl)
 | [], k :: ks, _, _, hl => by simp at hl
 | n :: ns, [], _, _, hl => by simp at hl
theorem sImage_ne : sImage ≠ sIndex := by decide
end Go.Proofs.YtlhicfpmlncomaaGreatDoor

namespace Go.Proofs.YtlhicfpmlncomaaGreatDoor
open Go.RowKit
def MaxAt (B : Nat) (w : World) : Prop := ∀ w', Below B w w' → MaxW w'
theorem MaxAt.on {B : Nat} {w w' : World} (h : MaxAt B w) (hb : Below B w w') : MaxAt B w' := fun w'' h2 => h w'' (hb.trans h2)
theorem MaxAt.now {B : Nat} {w : World} (h : MaxAt B w) : MaxW w := h w (Below.refl _ _)
theorem VRd.onB {w w' : World} {B : Nat} {v : JV} {cs : List Value} (h : VRd w (· < B) v cs) (hb : Below B w w') (hB : B ≤ w'.heap.size) : VRd w' (· < w'.heap.size) v cs :=
 VRd.keep (fun _ hk => Nat.lt_of_lt_of_le hk hB) (fun k hk => hb.block k hk) v h
def gotB (s : List UInt8) : Int := if s = kVersion then 1 else if s = kMedia then 2 else if s = kConfig then 4 else if s = kLayers then 8 else if s = kManifests then 16 else 0
def gotI (h : MGot) : Int := (if h.v = true then 1 else 0) + (if h.m = true then 2 else 0) + (if h.c = true then 4 else 0) + (if h.l = true then 8 else 0) + (if h.i = true then 16 else 0)
theorem got_or (h : MGot) (s : List UInt8) : bits BinOp.or IntKind.i64 (gotI h) (gotB s) = gotI (h.one s) := by
 unfold gotB
 obtain ⟨a, b, c, d, e⟩ := h
 by_cases h1 : s = kVersion
 ·subst h1; rw [if_pos rfl]; cases a <;> cases b <;> cases c <;> cases d <;> cases e <;> rfl
 rw [if_neg h1]
 by_cases h2 : s = kMedia
 ·subst h2; rw [if_pos rfl]; cases a <;> cases b <;> cases c <;> cases d <;> cases e <;> rfl
 rw [if_neg h2]
 by_cases h3 : s = kConfig
 ·subst h3; rw [if_pos rfl]; cases a <;> cases b <;> cases c <;> cases d <;> cases e <;> rfl
 rw [if_neg h3]
 by_cases h4 : s = kLayers
 ·subst h4; rw [if_pos rfl]; cases a <;> cases b <;> cases c <;> cases d <;> cases e <;> rfl
 rw [if_neg h4]
 by_cases h5 : s = kManifests
 ·subst h5; rw [if_pos rfl]; cases a <;> cases b <;> cases c <;> cases d <;> cases e <;> rfl
 rw [if_neg h5]
 unfold MGot.one
 simp only [h1, h2, h3, h4, h5, decide_false, Bool.or_false]
 cases a <;> cases b <;> cases c <;> cases d <;> cases e <;> rfl
theorem rStep_v1 {d : MDoc} {s : List UInt8} {v : JV} (h0 : s = kVersion) (h : v.kind = 3 ∧ v.num = 2) : rStep d s v = .ok d := by unfold rStep mStep; rw [if_pos h0, if_pos h]
theorem rStep_v0 {d : MDoc} {s : List UInt8} {v : JV} (h0 : s = kVersion) (h : ¬ (v.kind = 3 ∧ v.num = 2)) : rStep d s v = .error 80 := by unfold rStep mStep; rw [if_pos h0, if_neg h]
theorem rStep_m2 {d : MDoc} {s : List UInt8} {v : JV} (h0 : ¬ s = kVersion) (h1 : s = kMedia) (h : v.kind = 4) (hh : v.text = sImage ∨ v.text = sIndex) : rStep d s v = .ok { d with media := v.text } := by unfold rStep mStep; rw [if_neg h0, if_pos h1, if_pos h, if_pos hh]
theorem rStep_m1 {d : MDoc} {s : List UInt8} {v : JV} (h0 : ¬ s = kVersion) (h1 : s = kMedia) (h : v.kind = 4) (hh : ¬ (v.text = sImage ∨ v.text = sIndex)) : rStep d s v = .error 72 := by unfold rStep mStep; rw [if_neg h0, if_pos h1, if_pos h, if_neg hh]
theorem rStep_m0 {d : MDoc} {s : List UInt8} {v : JV} (h0 : ¬ s = kVersion) (h1 : s = kMedia) (h : ¬ v.kind = 4) : rStep d s v = .error 80 := by unfold rStep mStep; rw [if_neg h0, if_pos h1, if_neg h]
def MMem (w : World) (g : Nat) (s : List UInt8) (es0 : List Ent) (r : MR MDoc) (e : Ending) (w' : World) : Prop :=
 ∃ cs' es b, e = .returned (.tuple #[.int .i64 b, mErr r]) ∧ cs'.length = 75 ∧ (∀ u ∈ cs', u.oneCell' = true) ∧ Fr [g] w w' (.blk g 31 cs' :: es) ∧ ∀ d', r = .ok d' → b = gotB s ∧ VDoc d' cs' (es0 ++ es)
set_option maxRecDepth 20000 in
set_option maxHeartbeats 12800000 in
theorem mmember_any (g B : Nat) (d : MDoc) (cf : List Value) (eg : Value) (sj : List Value) (nt : Value) (es0 : List Ent) (s : List UInt8) (v : JV) (cs : List Value) (w : World)
  (hh : w.heap[g]? = some (.cells (docL d.media d.type cf eg sj d.has nt).toArray 31 (0, 0))) (hg : B ≤ g) (hB : B ≤ w.heap.size) (hC : VD d.config cf es0) (hE : VE d.edges eg es0) (hS : VD d.subject sj es0) (hN : VN d.notes nt es0)
  (hM : MaxAt B w) (hv : VRd w (· < B) v cs) (hob : JOb v) :
  Calls Tryz.prog 66 #[.pointer (some ⟨g, 0, none⟩), .string ⟨s.toArray⟩, .agg cs.toArray] w (MMem w g s es0 (rStep d s v)) := by
 have hF0 := Fr.one hh
 have hcl := hC.len
 have hsl := hS.len
 have hco := hC.ones
 have hso := hS.ones
 have hsz := hob.small.1
 clear hh
 obtain ⟨k, n, t, ns, ks⟩ := v
 have hv0 := hv
 rw [VRd] at hv
 obtain ⟨An, nn, cn, Ak, nk, ck, xs, hcn, hck, rfl, hrn, hrk, hvk⟩ := hv
 clear hrn hrk hvk
 by_cases h0 : s = kVersion
 ·skip
  have hrA : Box (k = 3 ∧ n = 2 → rStep d s (.mk k n t ns ks) = .ok d) := box (fun h => rStep_v1 (v := .mk k n t ns ks) h0 h)
  have hrB : Box (¬ (k = 3 ∧ n = 2) → rStep d s (.mk k n t ns ks) = .error 80) := box (fun h => rStep_v0 (v := .mk k n t ns ks) h0 h)
  have hsq : s = [115, 99, 104, 101, 109, 97, 86, 101, 114, 115, 105, 111, 110] := h0
  subst hsq
  clear h0
  by_cases hk3 : k = 3
  ·have hq3 : ((k : Int) != 3) = false := by rw [hk3]; rfl
   by_cases hn2 : n = 2
   ·have hr := box (hrA.out ⟨hk3, hn2⟩)
    have hq2 : ((n : Int) != 2) = false := by rw [hn2]; rfl
    replace hk3 := box hk3
    replace hn2 := box hn2
    go_enter Tryz.func66, Tryz.ntmps66
    go_wp2_with (first | ((with_reducible refine lsx (wp_fbox hF0 (cs := (vlL k n ⟨t.toArray⟩ (.slice An nn cn) (.slice Ak nk ck))) rfl (by with_unfolding_all rfl) (by with_unfolding_all rfl) ?_)); intro w1 g1 hF1 hz1) | (with_reducible refine lsx (wp_fld0 hF1 uq3 rfl (by with_unfolding_all exact ⟨_, rfl, rfl⟩) rfl ?_)) | (with_reducible refine lsx (wp_fldA0 hF1 uq76 rfl (by with_unfolding_all exact ⟨_, rfl, rfl⟩) (ds := (vlL k n ⟨t.toArray⟩ (.slice An nn cn) (.slice Ak nk ck))) (by rw [vlL_len]; kernel_rfl) (take_all _) ?_)))
    go_ret2
    unfold MMem
    rw [hr.out]
    exact ⟨_, [], _, rfl, docL_len hcl hsl, docL_one hco hso hE.one hN.one, hF1.tail, fun d' h => by injection h with h; subst h; exact ⟨rfl, ⟨cf, eg, sj, nt, hC.mono (fun _ h => List.mem_append_left _ h), hE.mono (fun _ h => List.mem_append_left _ h), hS.mono (fun _ h => List.mem_append_left _ h), hN.mono (fun _ h => List.mem_append_left _ h), rfl⟩⟩⟩
   ·have hr := box (hrB.out (fun h => hn2 h.2))
    have hq2 : ((n : Int) != 2) = true := by rw [bne_iff_ne]; exact hn2
    replace hk3 := box hk3
    replace hn2 := box hn2
    go_enter Tryz.func66, Tryz.ntmps66
    go_wp2_with (first | ((with_reducible refine lsx (wp_fbox hF0 (cs := (vlL k n ⟨t.toArray⟩ (.slice An nn cn) (.slice Ak nk ck))) rfl (by with_unfolding_all rfl) (by with_unfolding_all rfl) ?_)); intro w1 g1 hF1 hz1) | (with_reducible refine lsx (wp_fld0 hF1 uq3 rfl (by with_unfolding_all exact ⟨_, rfl, rfl⟩) rfl ?_)) | (with_reducible refine lsx (wp_fldA0 hF1 uq76 rfl (by with_unfolding_all exact ⟨_, rfl, rfl⟩) (ds := (vlL k n ⟨t.toArray⟩ (.slice An nn cn) (.slice Ak nk ck))) (by rw [vlL_len]; kernel_rfl) (take_all _) ?_)))
    go_ret2
    unfold MMem
    rw [hr.out]
    exact ⟨_, [], _, rfl, docL_len hcl hsl, docL_one hco hso hE.one hN.one, hF1.tail, fun d' h => by cases h⟩
  ·have hr := box (hrB.out (fun h => hk3 h.1))
   have hq3 : ((k : Int) != 3) = true := by rw [bne_iff_ne]; exact hk3
   replace hk3 := box hk3
   go_enter Tryz.func66, Tryz.ntmps66
   go_wp2_with (first | ((with_reducible refine lsx (wp_fbox hF0 (cs := (vlL k n ⟨t.toArray⟩ (.slice An nn cn) (.slice Ak nk ck))) rfl (by with_unfolding_all rfl) (by with_unfolding_all rfl) ?_)); intro w1 g1 hF1 hz1) | (with_reducible refine lsx (wp_fld0 hF1 uq3 rfl (by with_unfolding_all exact ⟨_, rfl, rfl⟩) rfl ?_)) | (with_reducible refine lsx (wp_fldA0 hF1 uq76 rfl (by with_unfolding_all exact ⟨_, rfl, rfl⟩) (ds := (vlL k n ⟨t.toArray⟩ (.slice An nn cn) (.slice Ak nk ck))) (by rw [vlL_len]; kernel_rfl) (take_all _) ?_)))
   go_ret2
   unfold MMem
   rw [hr.out]
   exact ⟨_, [], _, rfl, docL_len hcl hsl, docL_one hco hso hE.one hN.one, hF1.tail, fun d' h => by cases h⟩
 have n0 : (s == [115, 99, 104, 101, 109, 97, 86, 101, 114, 115, 105, 111, 110]) = false := by rw [beq_eq_false_iff_ne]; exact h0
 by_cases h1 : s = kMedia
 ·skip
  have hrA : Box (k = 4 → (t = sImage ∨ t = sIndex) → rStep d s (.mk k n t ns ks) = .ok { d with media := t }) := box (fun h hh => rStep_m2 (v := .mk k n t ns ks) h0 h1 h hh)
  have hrB : Box (k = 4 → ¬ (t = sImage ∨ t = sIndex) → rStep d s (.mk k n t ns ks) = .error 72) := box (fun h hh => rStep_m1 (v := .mk k n t ns ks) h0 h1 h hh)
  have hrC : Box (¬ k = 4 → rStep d s (.mk k n t ns ks) = .error 80) := box (fun h => rStep_m0 (v := .mk k n t ns ks) h0 h1 h)
  have hsq : s = [109, 101, 100, 105, 97, 84, 121, 112, 101] := h1
  subst hsq
  clear h0 h1 n0
  have htx := box (fun w' hb hB' => mtext_any (.mk k n t ns ks) _ w' _ (hv0.onB (w' := w') hb hB'))
  by_cases hk4 : k = 4
  ·rw [show mText (.mk k n t ns ks) = .ok t from if_pos hk4] at htx
   by_cases hi : t = sImage
   ·have hr := box (hrA.out hk4 (.inl hi))
    have e1 : (t == [97, 112, 112, 108, 105, 99, 97, 116, 105, 111, 110, 47, 118, 110, 100, 46, 111, 99, 105, 46, 105, 109, 97, 103, 101, 46, 109, 97, 110, 105, 102, 101, 115, 116, 46, 118, 49, 43, 106, 115, 111, 110]) = true := by rw [beq_iff_eq]; exact hi
    have e2 : (t != [97, 112, 112, 108, 105, 99, 97, 116, 105, 111, 110, 47, 118, 110, 100, 46, 111, 99, 105, 46, 105, 109, 97, 103, 101, 46, 109, 97, 110, 105, 102, 101, 115, 116, 46, 118, 49, 43, 106, 115, 111, 110]) = false := by rw [bne, e1]; rfl
    have e3 : (t == [97, 112, 112, 108, 105, 99, 97, 116, 105, 111, 110, 47, 118, 110, 100, 46, 111, 99, 105, 46, 105, 109, 97, 103, 101, 46, 105, 110, 100, 101, 120, 46, 118, 49, 43, 106, 115, 111, 110]) = false := by rw [beq_eq_false_iff_ne]; exact (fun h => sImage_ne (hi.symm.trans h))
    have e4 : (t != [97, 112, 112, 108, 105, 99, 97, 116, 105, 111, 110, 47, 118, 110, 100, 46, 111, 99, 105, 46, 105, 109, 97, 103, 101, 46, 105, 110, 100, 101, 120, 46, 118, 49, 43, 106, 115, 111, 110]) = true := by rw [bne, e3]; rfl
    replace hi := box hi
    replace hk4 := box hk4
    go_enter Tryz.func66, Tryz.ntmps66
    go_wp2_with (first | ((with_reducible refine lsx (wp_fbox hF0 (cs := (vlL k n ⟨t.toArray⟩ (.slice An nn cn) (.slice Ak nk ck))) rfl (by with_unfolding_all rfl) (by with_unfolding_all rfl) ?_)); intro w1 g1 hF1 hz1) | (with_reducible refine lsx (wp_fld0 hF1 uq3 rfl (by with_unfolding_all exact ⟨_, rfl, rfl⟩) rfl ?_)) | (with_reducible refine lsx (wp_fldA0 hF1 uq76 rfl (by with_unfolding_all exact ⟨_, rfl, rfl⟩) (ds := (vlL k n ⟨t.toArray⟩ (.slice An nn cn) (.slice Ak nk ck))) (by rw [vlL_len]; kernel_rfl) (take_all _) ?_)))
    refine (htx.out _ (hF1.belowG hg hB) (Nat.le_trans hB hF1.size)).mono ?_
    rintro e w2 ⟨rfl, hb2⟩
    have hF2 := hF1.call hb2
    simp only [mStr, mErr, strv]
    go_wp2_with (first | ((with_reducible refine lsx (wp_fst1 hF2 (by with_unfolding_all exact ⟨_, _, rfl, rfl, rfl⟩) (by kernel_rfl) rfl rfl (by rw [docL_len hcl hsl]; decide) (docL_0s (m' := t)) ?_)); intro w3 hF3 hz3) | (with_reducible refine lsx (wp_fld1 hF3 uq9 rfl (by with_unfolding_all exact ⟨_, rfl, rfl⟩) docL_m0 ?_)))
    go_ret2
    unfold MMem
    rw [hr.out]
    exact ⟨_, [], _, rfl, docL_len hcl hsl, docL_one hco hso hE.one hN.one, hF3.tail, fun d' h => by injection h with h; subst h; exact ⟨rfl, ⟨cf, eg, sj, nt, hC.mono (fun _ h => List.mem_append_left _ h), hE.mono (fun _ h => List.mem_append_left _ h), hS.mono (fun _ h => List.mem_append_left _ h), hN.mono (fun _ h => List.mem_append_left _ h), rfl⟩⟩⟩
   by_cases hx : t = sIndex
   ·have hr := box (hrA.out hk4 (.inr hx))
    have e1 : (t == [97, 112, 112, 108, 105, 99, 97, 116, 105, 111, 110, 47, 118, 110, 100, 46, 111, 99, 105, 46, 105, 109, 97, 103, 101, 46, 105, 110, 100, 101, 120, 46, 118, 49, 43, 106, 115, 111, 110]) = true := by rw [beq_iff_eq]; exact hx
    have e2 : (t != [97, 112, 112, 108, 105, 99, 97, 116, 105, 111, 110, 47, 118, 110, 100, 46, 111, 99, 105, 46, 105, 109, 97, 103, 101, 46, 105, 110, 100, 101, 120, 46, 118, 49, 43, 106, 115, 111, 110]) = false := by rw [bne, e1]; rfl
    have e3 : (t == [97, 112, 112, 108, 105, 99, 97, 116, 105, 111, 110, 47, 118, 110, 100, 46, 111, 99, 105, 46, 105, 109, 97, 103, 101, 46, 109, 97, 110, 105, 102, 101, 115, 116, 46, 118, 49, 43, 106, 115, 111, 110]) = false := by rw [beq_eq_false_iff_ne]; exact hi
    have e4 : (t != [97, 112, 112, 108, 105, 99, 97, 116, 105, 111, 110, 47, 118, 110, 100, 46, 111, 99, 105, 46, 105, 109, 97, 103, 101, 46, 109, 97, 110, 105, 102, 101, 115, 116, 46, 118, 49, 43, 106, 115, 111, 110]) = true := by rw [bne, e3]; rfl
    replace hi := box hi
    replace hx := box hx
    replace hk4 := box hk4
    go_enter Tryz.func66, Tryz.ntmps66
    go_wp2_with (first | ((with_reducible refine lsx (wp_fbox hF0 (cs := (vlL k n ⟨t.toArray⟩ (.slice An nn cn) (.slice Ak nk ck))) rfl (by with_unfolding_all rfl) (by with_unfolding_all rfl) ?_)); intro w1 g1 hF1 hz1) | (with_reducible refine lsx (wp_fld0 hF1 uq3 rfl (by with_unfolding_all exact ⟨_, rfl, rfl⟩) rfl ?_)) | (with_reducible refine lsx (wp_fldA0 hF1 uq76 rfl (by with_unfolding_all exact ⟨_, rfl, rfl⟩) (ds := (vlL k n ⟨t.toArray⟩ (.slice An nn cn) (.slice Ak nk ck))) (by rw [vlL_len]; kernel_rfl) (take_all _) ?_)))
    refine (htx.out _ (hF1.belowG hg hB) (Nat.le_trans hB hF1.size)).mono ?_
    rintro e w2 ⟨rfl, hb2⟩
    have hF2 := hF1.call hb2
    simp only [mStr, mErr, strv]
    go_wp2_with (first | ((with_reducible refine lsx (wp_fst1 hF2 (by with_unfolding_all exact ⟨_, _, rfl, rfl, rfl⟩) (by kernel_rfl) rfl rfl (by rw [docL_len hcl hsl]; decide) (docL_0s (m' := t)) ?_)); intro w3 hF3 hz3) | (with_reducible refine lsx (wp_fld1 hF3 uq9 rfl (by with_unfolding_all exact ⟨_, rfl, rfl⟩) docL_m0 ?_)))
    go_ret2
    unfold MMem
    rw [hr.out]
    exact ⟨_, [], _, rfl, docL_len hcl hsl, docL_one hco hso hE.one hN.one, hF3.tail, fun d' h => by injection h with h; subst h; exact ⟨rfl, ⟨cf, eg, sj, nt, hC.mono (fun _ h => List.mem_append_left _ h), hE.mono (fun _ h => List.mem_append_left _ h), hS.mono (fun _ h => List.mem_append_left _ h), hN.mono (fun _ h => List.mem_append_left _ h), rfl⟩⟩⟩
   ·have hr := box (hrB.out hk4 (by rintro (h | h); exact hi h; exact hx h))
    have e3 : (t == [97, 112, 112, 108, 105, 99, 97, 116, 105, 111, 110, 47, 118, 110, 100, 46, 111, 99, 105, 46, 105, 109, 97, 103, 101, 46, 109, 97, 110, 105, 102, 101, 115, 116, 46, 118, 49, 43, 106, 115, 111, 110]) = false := by rw [beq_eq_false_iff_ne]; exact hi
    have e4 : (t != [97, 112, 112, 108, 105, 99, 97, 116, 105, 111, 110, 47, 118, 110, 100, 46, 111, 99, 105, 46, 105, 109, 97, 103, 101, 46, 109, 97, 110, 105, 102, 101, 115, 116, 46, 118, 49, 43, 106, 115, 111, 110]) = true := by rw [bne, e3]; rfl
    have e5 : (t == [97, 112, 112, 108, 105, 99, 97, 116, 105, 111, 110, 47, 118, 110, 100, 46, 111, 99, 105, 46, 105, 109, 97, 103, 101, 46, 105, 110, 100, 101, 120, 46, 118, 49, 43, 106, 115, 111, 110]) = false := by rw [beq_eq_false_iff_ne]; exact hx
    have e6 : (t != [97, 112, 112, 108, 105, 99, 97, 116, 105, 111, 110, 47, 118, 110, 100, 46, 111, 99, 105, 46, 105, 109, 97, 103, 101, 46, 105, 110, 100, 101, 120, 46, 118, 49, 43, 106, 115, 111, 110]) = true := by rw [bne, e5]; rfl
    replace hi := box hi
    replace hx := box hx
    replace hk4 := box hk4
    go_enter Tryz.func66, Tryz.ntmps66
    go_wp2_with (first | ((with_reducible refine lsx (wp_fbox hF0 (cs := (vlL k n ⟨t.toArray⟩ (.slice An nn cn) (.slice Ak nk ck))) rfl (by with_unfolding_all rfl) (by with_unfolding_all rfl) ?_)); intro w1 g1 hF1 hz1) | (with_reducible refine lsx (wp_fld0 hF1 uq3 rfl (by with_unfolding_all exact ⟨_, rfl, rfl⟩) rfl ?_)) | (with_reducible refine lsx (wp_fldA0 hF1 uq76 rfl (by with_unfolding_all exact ⟨_, rfl, rfl⟩) (ds := (vlL k n ⟨t.toArray⟩ (.slice An nn cn) (.slice Ak nk ck))) (by rw [vlL_len]; kernel_rfl) (take_all _) ?_)))
    refine (htx.out _ (hF1.belowG hg hB) (Nat.le_trans hB hF1.size)).mono ?_
    rintro e w2 ⟨rfl, hb2⟩
    have hF2 := hF1.call hb2
    simp only [mStr, mErr, strv]
    go_wp2_with (first | ((with_reducible refine lsx (wp_fst1 hF2 (by with_unfolding_all exact ⟨_, _, rfl, rfl, rfl⟩) (by kernel_rfl) rfl rfl (by rw [docL_len hcl hsl]; decide) (docL_0s (m' := t)) ?_)); intro w3 hF3 hz3) | (with_reducible refine lsx (wp_fld1 hF3 uq9 rfl (by with_unfolding_all exact ⟨_, rfl, rfl⟩) docL_m0 ?_)))
    go_ret2
    unfold MMem
    rw [hr.out]
    exact ⟨_, [], _, rfl, docL_len hcl hsl, docL_one hco hso hE.one hN.one, hF3.tail, fun d' h => by cases h⟩
  ·have hr := box (hrC.out hk4)
   rw [show mText (.mk k n t ns ks) = .error 80 from if_neg hk4] at htx
   replace hk4 := box hk4
   go_enter Tryz.func66, Tryz.ntmps66
   go_wp2_with (first | ((with_reducible refine lsx (wp_fbox hF0 (cs := (vlL k n ⟨t.toArray⟩ (.slice An nn cn) (.slice Ak nk ck))) rfl (by with_unfolding_all rfl) (by with_unfolding_all rfl) ?_)); intro w1 g1 hF1 hz1) | (with_reducible refine lsx (wp_fld0 hF1 uq3 rfl (by with_unfolding_all exact ⟨_, rfl, rfl⟩) rfl ?_)) | (with_reducible refine lsx (wp_fldA0 hF1 uq76 rfl (by with_unfolding_all exact ⟨_, rfl, rfl⟩) (ds := (vlL k n ⟨t.toArray⟩ (.slice An nn cn) (.slice Ak nk ck))) (by rw [vlL_len]; kernel_rfl) (take_all _) ?_)))
   refine (htx.out _ (hF1.belowG hg hB) (Nat.le_trans hB hF1.size)).mono ?_
   rintro e w2 ⟨rfl, hb2⟩
   have hF2 := hF1.call hb2
   simp only [mStr, mErr, strv]
   go_wp2_with (first | ((with_reducible refine lsx (wp_fst1 hF2 (by with_unfolding_all exact ⟨_, _, rfl, rfl, rfl⟩) (by kernel_rfl) rfl rfl (by rw [docL_len hcl hsl]; decide) (docL_0s (m' := [])) ?_)); intro w3 hF3 hz3) | (with_reducible refine lsx (wp_fld1 hF3 uq9 rfl (by with_unfolding_all exact ⟨_, rfl, rfl⟩) docL_m0 ?_)))
   go_ret2
   unfold MMem
   rw [hr.out]
   exact ⟨_, [], _, rfl, docL_len hcl hsl, docL_one hco hso hE.one hN.one, hF3.tail, fun d' h => by cases h⟩
 have n1 : (s == [109, 101, 100, 105, 97, 84, 121, 112, 101]) = false := by rw [beq_eq_false_iff_ne]; exact h1
 by_cases h2 : s = kType
 ·skip
  have hr : Box (rStep d s (.mk k n t ns ks) = match (match mMedia (.mk k n t ns ks) with | .ok x => (.ok (({ d with type := x } : MDoc), (⟨false, false, false, false, false⟩ : MGot)) : MR (MDoc × MGot)) | .error e => .error e) with | .ok x => .ok x.1 | .error e => .error e) := box (by unfold rStep mStep; rw [if_neg h0, if_neg h1, if_pos h2]; rfl)
  have hsq : s = [97, 114, 116, 105, 102, 97, 99, 116, 84, 121, 112, 101] := h2
  subst hsq
  clear h0 h1 h2 n0 n1
  have htx := box (fun w' hb hB' => mmedia_any (.mk k n t ns ks) _ w' ((hM.on hb).now) (hv0.onB (w' := w') hb hB') hsz)
  cases hm : mMedia (.mk k n t ns ks) with
  | ok x =>
   rw [hm] at hr htx
   go_enter Tryz.func66, Tryz.ntmps66
   go_wp2_with (first | ((with_reducible refine lsx (wp_fbox hF0 (cs := (vlL k n ⟨t.toArray⟩ (.slice An nn cn) (.slice Ak nk ck))) rfl (by with_unfolding_all rfl) (by with_unfolding_all rfl) ?_)); intro w1 g1 hF1 hz1) | (with_reducible refine lsx (wp_fld0 hF1 uq3 rfl (by with_unfolding_all exact ⟨_, rfl, rfl⟩) rfl ?_)) | (with_reducible refine lsx (wp_fldA0 hF1 uq76 rfl (by with_unfolding_all exact ⟨_, rfl, rfl⟩) (ds := (vlL k n ⟨t.toArray⟩ (.slice An nn cn) (.slice Ak nk ck))) (by rw [vlL_len]; kernel_rfl) (take_all _) ?_)))
   refine (htx.out _ (hF1.belowG hg hB) (Nat.le_trans hB hF1.size)).mono ?_
   rintro e w2 ⟨rfl, hb2⟩
   have hF2 := hF1.call hb2
   simp only [mStr, mErr, strv]
   go_wp2_with (first | ((with_reducible refine lsx (wp_fst1 hF2 (by with_unfolding_all exact ⟨_, _, rfl, rfl, rfl⟩) (by kernel_rfl) rfl rfl (by rw [docL_len hcl hsl]; decide) (docL_1s (t' := x)) ?_)); intro w3 hF3 hz3))
   go_ret2
   unfold MMem
   rw [hr.out]
   exact ⟨_, [], _, rfl, docL_len hcl hsl, docL_one hco hso hE.one hN.one, hF3.tail, fun d' h => by injection h with h; subst h; exact ⟨rfl, ⟨cf, eg, sj, nt, hC.mono (fun _ h => List.mem_append_left _ h), hE.mono (fun _ h => List.mem_append_left _ h), hS.mono (fun _ h => List.mem_append_left _ h), hN.mono (fun _ h => List.mem_append_left _ h), rfl⟩⟩⟩
  | error ee =>
   rw [hm] at hr htx
   go_enter Tryz.func66, Tryz.ntmps66
   go_wp2_with (first | ((with_reducible refine lsx (wp_fbox hF0 (cs := (vlL k n ⟨t.toArray⟩ (.slice An nn cn) (.slice Ak nk ck))) rfl (by with_unfolding_all rfl) (by with_unfolding_all rfl) ?_)); intro w1 g1 hF1 hz1) | (with_reducible refine lsx (wp_fld0 hF1 uq3 rfl (by with_unfolding_all exact ⟨_, rfl, rfl⟩) rfl ?_)) | (with_reducible refine lsx (wp_fldA0 hF1 uq76 rfl (by with_unfolding_all exact ⟨_, rfl, rfl⟩) (ds := (vlL k n ⟨t.toArray⟩ (.slice An nn cn) (.slice Ak nk ck))) (by rw [vlL_len]; kernel_rfl) (take_all _) ?_)))
   refine (htx.out _ (hF1.belowG hg hB) (Nat.le_trans hB hF1.size)).mono ?_
   rintro e w2 ⟨rfl, hb2⟩
   have hF2 := hF1.call hb2
   simp only [mStr, mErr, strv]
   go_wp2_with (first | ((with_reducible refine lsx (wp_fst1 hF2 (by with_unfolding_all exact ⟨_, _, rfl, rfl, rfl⟩) (by kernel_rfl) rfl rfl (by rw [docL_len hcl hsl]; decide) (docL_1s (t' := [])) ?_)); intro w3 hF3 hz3))
   go_ret2
   unfold MMem
   rw [hr.out]
   exact ⟨_, [], _, rfl, docL_len hcl hsl, docL_one hco hso hE.one hN.one, hF3.tail, fun d' h => by cases h⟩
 have n2 : (s == [97, 114, 116, 105, 102, 97, 99, 116, 84, 121, 112, 101]) = false := by rw [beq_eq_false_iff_ne]; exact h2
 by_cases h3 : s = kConfig
 ·skip
  have hr : Box (rStep d s (.mk k n t ns ks) = match (match mDesc (.mk k n t ns ks) with | .ok x => (.ok (({ d with config := x } : MDoc), (⟨false, false, true, false, false⟩ : MGot)) : MR (MDoc × MGot)) | .error e => .error e) with | .ok x => .ok x.1 | .error e => .error e) := box (by unfold rStep mStep; rw [if_neg h0, if_neg h1, if_neg h2, if_pos h3]; rfl)
  have hsq : s = [99, 111, 110, 102, 105, 103] := h3
  subst hsq
  clear h0 h1 h2 h3 n0 n1 n2
  have htx := box (fun w' hb hB' => mdesc_any (.mk k n t ns ks) _ w' ((hM.on hb).now) (hv0.onB (w' := w') hb hB') hob)
  cases hm : mDesc (.mk k n t ns ks) with
  | ok x =>
   rw [hm] at hr htx
   go_enter Tryz.func66, Tryz.ntmps66
   go_wp2_with (first | ((with_reducible refine lsx (wp_fbox hF0 (cs := (vlL k n ⟨t.toArray⟩ (.slice An nn cn) (.slice Ak nk ck))) rfl (by with_unfolding_all rfl) (by with_unfolding_all rfl) ?_)); intro w1 g1 hF1 hz1) | (with_reducible refine lsx (wp_fld0 hF1 uq3 rfl (by with_unfolding_all exact ⟨_, rfl, rfl⟩) rfl ?_)) | (with_reducible refine lsx (wp_fldA0 hF1 uq76 rfl (by with_unfolding_all exact ⟨_, rfl, rfl⟩) (ds := (vlL k n ⟨t.toArray⟩ (.slice An nn cn) (.slice Ak nk ck))) (by rw [vlL_len]; kernel_rfl) (take_all _) ?_)))
   refine (htx.out _ (hF1.belowG hg hB) (Nat.le_trans hB hF1.size)).mono ?_
   rintro e w2 ⟨c2, es2, rfl, hvd, h2⟩
   have hF2 := hF1.joinR h2
   simp only [List.cons_append, List.nil_append] at hF2
   have hdl := box hvd.len
   have hdo := hvd.ones
   replace hdo := box hdo
   simp only [mErr]
   go_wp2_with (first | ((with_reducible refine lsx (wp_fstA1 hF2 (by with_unfolding_all exact ⟨_, _, rfl, rfl, rfl⟩) (by rw [hdl.out]; kernel_rfl) hdo.out (by rw [hdl.out, docL_len hcl hsl]; decide) (docL_2 (by rw [hdl.out, hcl])) ?_)); intro w3 hF3 hz3))
   go_ret2
   unfold MMem
   rw [hr.out]
   exact ⟨_, es2, _, rfl, docL_len hdl.out hsl, docL_one hdo.out hso hE.one hN.one, hF3.tail, fun d' h => by injection h with h; subst h; exact ⟨rfl, ⟨c2, eg, sj, nt, hvd.mono (fun _ h => List.mem_append_right _ h), hE.mono (fun _ h => List.mem_append_left _ h), hS.mono (fun _ h => List.mem_append_left _ h), hN.mono (fun _ h => List.mem_append_left _ h), rfl⟩⟩⟩
  | error ee =>
   rw [hm] at hr htx
   go_enter Tryz.func66, Tryz.ntmps66
   go_wp2_with (first | ((with_reducible refine lsx (wp_fbox hF0 (cs := (vlL k n ⟨t.toArray⟩ (.slice An nn cn) (.slice Ak nk ck))) rfl (by with_unfolding_all rfl) (by with_unfolding_all rfl) ?_)); intro w1 g1 hF1 hz1) | (with_reducible refine lsx (wp_fld0 hF1 uq3 rfl (by with_unfolding_all exact ⟨_, rfl, rfl⟩) rfl ?_)) | (with_reducible refine lsx (wp_fldA0 hF1 uq76 rfl (by with_unfolding_all exact ⟨_, rfl, rfl⟩) (ds := (vlL k n ⟨t.toArray⟩ (.slice An nn cn) (.slice Ak nk ck))) (by rw [vlL_len]; kernel_rfl) (take_all _) ?_)))
   refine (htx.out _ (hF1.belowG hg hB) (Nat.le_trans hB hF1.size)).mono ?_
   rintro e w2 ⟨c2, es2, rfl, hvd, h2⟩
   have hF2 := hF1.joinR h2
   simp only [List.cons_append, List.nil_append] at hF2
   have hdl := box hvd.len
   have hdo := hvd.ones
   replace hdo := box hdo
   simp only [mErr]
   go_wp2_with (first | ((with_reducible refine lsx (wp_fstA1 hF2 (by with_unfolding_all exact ⟨_, _, rfl, rfl, rfl⟩) (by rw [hdl.out]; kernel_rfl) hdo.out (by rw [hdl.out, docL_len hcl hsl]; decide) (docL_2 (by rw [hdl.out, hcl])) ?_)); intro w3 hF3 hz3))
   go_ret2
   unfold MMem
   rw [hr.out]
   exact ⟨_, es2, _, rfl, docL_len hdl.out hsl, docL_one hdo.out hso hE.one hN.one, hF3.tail, fun d' h => by cases h⟩
 have n3 : (s == [99, 111, 110, 102, 105, 103]) = false := by rw [beq_eq_false_iff_ne]; exact h3
 by_cases h4 : s = kLayers
 ·skip
  have hr : Box (rStep d s (.mk k n t ns ks) = match (match mEdges (.mk k n t ns ks) with | .ok x => (.ok (({ d with edges := x } : MDoc), (⟨false, false, false, true, false⟩ : MGot)) : MR (MDoc × MGot)) | .error e => .error e) with | .ok x => .ok x.1 | .error e => .error e) := box (by unfold rStep mStep; rw [if_neg h0, if_neg h1, if_neg h2, if_neg h3, if_pos h4]; rfl)
  have hsq : s = [108, 97, 121, 101, 114, 115] := h4
  subst hsq
  clear h0 h1 h2 h3 h4 n0 n1 n2 n3
  have htx := box (fun w' hb hB' => medges_any (.mk k n t ns ks) _ w' ((hM.on hb).now) (hv0.onB (w' := w') hb hB') hob)
  cases hm : mEdges (.mk k n t ns ks) with
  | ok x =>
   rw [hm] at hr htx
   go_enter Tryz.func66, Tryz.ntmps66
   go_wp2_with (first | ((with_reducible refine lsx (wp_fbox hF0 (cs := (vlL k n ⟨t.toArray⟩ (.slice An nn cn) (.slice Ak nk ck))) rfl (by with_unfolding_all rfl) (by with_unfolding_all rfl) ?_)); intro w1 g1 hF1 hz1) | (with_reducible refine lsx (wp_fld0 hF1 uq3 rfl (by with_unfolding_all exact ⟨_, rfl, rfl⟩) rfl ?_)) | (with_reducible refine lsx (wp_fldA0 hF1 uq76 rfl (by with_unfolding_all exact ⟨_, rfl, rfl⟩) (ds := (vlL k n ⟨t.toArray⟩ (.slice An nn cn) (.slice Ak nk ck))) (by rw [vlL_len]; kernel_rfl) (take_all _) ?_)))
   refine (htx.out _ (hF1.belowG hg hB) (Nat.le_trans hB hF1.size)).mono ?_
   rintro e w2 ⟨e2, es2, rfl, hvd, h2⟩
   have hF2 := hF1.joinR h2
   simp only [List.cons_append, List.nil_append] at hF2
   obtain ⟨A2, l2, k2, z2, hk2, hl2, rfl, hT2, hm2⟩ := hvd
   replace hl2 := box hl2
   simp only [mErr]
   go_wp2_with (first | ((with_reducible refine lsx (wp_fst1 hF2 (by with_unfolding_all exact ⟨_, _, rfl, rfl, rfl⟩) (by kernel_rfl) rfl rfl (by rw [docL_len hcl hsl]; decide) (docL_37 (eg' := .slice A2 l2 k2) hcl) ?_)); intro w3 hF3 hz3))
   go_ret2
   unfold MMem
   rw [hr.out]
   exact ⟨_, es2, _, rfl, docL_len hcl hsl, docL_one hco hso rfl hN.one, hF3.tail, fun d' h => by injection h with h; subst h; exact ⟨rfl, ⟨cf, _, sj, nt, hC.mono (fun _ h => List.mem_append_left _ h), ⟨A2, l2, k2, z2, hk2, hl2.out, rfl, hT2.mono (fun _ h => List.mem_append_right _ h), hm2.imp id (List.mem_append_right _)⟩, hS.mono (fun _ h => List.mem_append_left _ h), hN.mono (fun _ h => List.mem_append_left _ h), rfl⟩⟩⟩
  | error ee =>
   rw [hm] at hr htx
   go_enter Tryz.func66, Tryz.ntmps66
   go_wp2_with (first | ((with_reducible refine lsx (wp_fbox hF0 (cs := (vlL k n ⟨t.toArray⟩ (.slice An nn cn) (.slice Ak nk ck))) rfl (by with_unfolding_all rfl) (by with_unfolding_all rfl) ?_)); intro w1 g1 hF1 hz1) | (with_reducible refine lsx (wp_fld0 hF1 uq3 rfl (by with_unfolding_all exact ⟨_, rfl, rfl⟩) rfl ?_)) | (with_reducible refine lsx (wp_fldA0 hF1 uq76 rfl (by with_unfolding_all exact ⟨_, rfl, rfl⟩) (ds := (vlL k n ⟨t.toArray⟩ (.slice An nn cn) (.slice Ak nk ck))) (by rw [vlL_len]; kernel_rfl) (take_all _) ?_)))
   refine (htx.out _ (hF1.belowG hg hB) (Nat.le_trans hB hF1.size)).mono ?_
   rintro e w2 ⟨e2, es2, rfl, hvd, h2⟩
   have hF2 := hF1.joinR h2
   simp only [List.cons_append, List.nil_append] at hF2
   obtain ⟨A2, l2, k2, z2, hk2, hl2, rfl, hT2, hm2⟩ := hvd
   replace hl2 := box hl2
   simp only [mErr]
   go_wp2_with (first | ((with_reducible refine lsx (wp_fst1 hF2 (by with_unfolding_all exact ⟨_, _, rfl, rfl, rfl⟩) (by kernel_rfl) rfl rfl (by rw [docL_len hcl hsl]; decide) (docL_37 (eg' := .slice A2 l2 k2) hcl) ?_)); intro w3 hF3 hz3))
   go_ret2
   unfold MMem
   rw [hr.out]
   exact ⟨_, es2, _, rfl, docL_len hcl hsl, docL_one hco hso rfl hN.one, hF3.tail, fun d' h => by cases h⟩
 have n4 : (s == [108, 97, 121, 101, 114, 115]) = false := by rw [beq_eq_false_iff_ne]; exact h4
 by_cases h5 : s = kManifests
 ·skip
  have hr : Box (rStep d s (.mk k n t ns ks) = match (match mEdges (.mk k n t ns ks) with | .ok x => (.ok (({ d with edges := x } : MDoc), (⟨false, false, false, false, true⟩ : MGot)) : MR (MDoc × MGot)) | .error e => .error e) with | .ok x => .ok x.1 | .error e => .error e) := box (by unfold rStep mStep; rw [if_neg h0, if_neg h1, if_neg h2, if_neg h3, if_neg h4, if_pos h5]; rfl)
  have hsq : s = [109, 97, 110, 105, 102, 101, 115, 116, 115] := h5
  subst hsq
  clear h0 h1 h2 h3 h4 h5 n0 n1 n2 n3 n4
  have htx := box (fun w' hb hB' => medges_any (.mk k n t ns ks) _ w' ((hM.on hb).now) (hv0.onB (w' := w') hb hB') hob)
  cases hm : mEdges (.mk k n t ns ks) with
  | ok x =>
   rw [hm] at hr htx
   go_enter Tryz.func66, Tryz.ntmps66
   go_wp2_with (first | ((with_reducible refine lsx (wp_fbox hF0 (cs := (vlL k n ⟨t.toArray⟩ (.slice An nn cn) (.slice Ak nk ck))) rfl (by with_unfolding_all rfl) (by with_unfolding_all rfl) ?_)); intro w1 g1 hF1 hz1) | (with_reducible refine lsx (wp_fld0 hF1 uq3 rfl (by with_unfolding_all exact ⟨_, rfl, rfl⟩) rfl ?_)) | (with_reducible refine lsx (wp_fldA0 hF1 uq76 rfl (by with_unfolding_all exact ⟨_, rfl, rfl⟩) (ds := (vlL k n ⟨t.toArray⟩ (.slice An nn cn) (.slice Ak nk ck))) (by rw [vlL_len]; kernel_rfl) (take_all _) ?_)))
   refine (htx.out _ (hF1.belowG hg hB) (Nat.le_trans hB hF1.size)).mono ?_
   rintro e w2 ⟨e2, es2, rfl, hvd, h2⟩
   have hF2 := hF1.joinR h2
   simp only [List.cons_append, List.nil_append] at hF2
   obtain ⟨A2, l2, k2, z2, hk2, hl2, rfl, hT2, hm2⟩ := hvd
   replace hl2 := box hl2
   simp only [mErr]
   go_wp2_with (first | ((with_reducible refine lsx (wp_fst1 hF2 (by with_unfolding_all exact ⟨_, _, rfl, rfl, rfl⟩) (by kernel_rfl) rfl rfl (by rw [docL_len hcl hsl]; decide) (docL_37 (eg' := .slice A2 l2 k2) hcl) ?_)); intro w3 hF3 hz3))
   go_ret2
   unfold MMem
   rw [hr.out]
   exact ⟨_, es2, _, rfl, docL_len hcl hsl, docL_one hco hso rfl hN.one, hF3.tail, fun d' h => by injection h with h; subst h; exact ⟨rfl, ⟨cf, _, sj, nt, hC.mono (fun _ h => List.mem_append_left _ h), ⟨A2, l2, k2, z2, hk2, hl2.out, rfl, hT2.mono (fun _ h => List.mem_append_right _ h), hm2.imp id (List.mem_append_right _)⟩, hS.mono (fun _ h => List.mem_append_left _ h), hN.mono (fun _ h => List.mem_append_left _ h), rfl⟩⟩⟩
  | error ee =>
   rw [hm] at hr htx
   go_enter Tryz.func66, Tryz.ntmps66
   go_wp2_with (first | ((with_reducible refine lsx (wp_fbox hF0 (cs := (vlL k n ⟨t.toArray⟩ (.slice An nn cn) (.slice Ak nk ck))) rfl (by with_unfolding_all rfl) (by with_unfolding_all rfl) ?_)); intro w1 g1 hF1 hz1) | (with_reducible refine lsx (wp_fld0 hF1 uq3 rfl (by with_unfolding_all exact ⟨_, rfl, rfl⟩) rfl ?_)) | (with_reducible refine lsx (wp_fldA0 hF1 uq76 rfl (by with_unfolding_all exact ⟨_, rfl, rfl⟩) (ds := (vlL k n ⟨t.toArray⟩ (.slice An nn cn) (.slice Ak nk ck))) (by rw [vlL_len]; kernel_rfl) (take_all _) ?_)))
   refine (htx.out _ (hF1.belowG hg hB) (Nat.le_trans hB hF1.size)).mono ?_
   rintro e w2 ⟨e2, es2, rfl, hvd, h2⟩
   have hF2 := hF1.joinR h2
   simp only [List.cons_append, List.nil_append] at hF2
   obtain ⟨A2, l2, k2, z2, hk2, hl2, rfl, hT2, hm2⟩ := hvd
   replace hl2 := box hl2
   simp only [mErr]
   go_wp2_with (first | ((with_reducible refine lsx (wp_fst1 hF2 (by with_unfolding_all exact ⟨_, _, rfl, rfl, rfl⟩) (by kernel_rfl) rfl rfl (by rw [docL_len hcl hsl]; decide) (docL_37 (eg' := .slice A2 l2 k2) hcl) ?_)); intro w3 hF3 hz3))
   go_ret2
   unfold MMem
   rw [hr.out]
   exact ⟨_, es2, _, rfl, docL_len hcl hsl, docL_one hco hso rfl hN.one, hF3.tail, fun d' h => by cases h⟩
 have n5 : (s == [109, 97, 110, 105, 102, 101, 115, 116, 115]) = false := by rw [beq_eq_false_iff_ne]; exact h5
 by_cases h6 : s = kSubject
 ·skip
  have hr : Box (rStep d s (.mk k n t ns ks) = match (match mDesc (.mk k n t ns ks) with | .ok x => (.ok (({ d with subject := x, has := true } : MDoc), (⟨false, false, false, false, false⟩ : MGot)) : MR (MDoc × MGot)) | .error e => .error e) with | .ok x => .ok x.1 | .error e => .error e) := box (by unfold rStep mStep; rw [if_neg h0, if_neg h1, if_neg h2, if_neg h3, if_neg h4, if_neg h5, if_pos h6]; rfl)
  have hsq : s = [115, 117, 98, 106, 101, 99, 116] := h6
  subst hsq
  clear h0 h1 h2 h3 h4 h5 h6 n0 n1 n2 n3 n4 n5
  have htx := box (fun w' hb hB' => mdesc_any (.mk k n t ns ks) _ w' ((hM.on hb).now) (hv0.onB (w' := w') hb hB') hob)
  cases hm : mDesc (.mk k n t ns ks) with
  | ok x =>
   rw [hm] at hr htx
   go_enter Tryz.func66, Tryz.ntmps66
   go_wp2_with (first | ((with_reducible refine lsx (wp_fbox hF0 (cs := (vlL k n ⟨t.toArray⟩ (.slice An nn cn) (.slice Ak nk ck))) rfl (by with_unfolding_all rfl) (by with_unfolding_all rfl) ?_)); intro w1 g1 hF1 hz1) | (with_reducible refine lsx (wp_fld0 hF1 uq3 rfl (by with_unfolding_all exact ⟨_, rfl, rfl⟩) rfl ?_)) | (with_reducible refine lsx (wp_fldA0 hF1 uq76 rfl (by with_unfolding_all exact ⟨_, rfl, rfl⟩) (ds := (vlL k n ⟨t.toArray⟩ (.slice An nn cn) (.slice Ak nk ck))) (by rw [vlL_len]; kernel_rfl) (take_all _) ?_)))
   refine (htx.out _ (hF1.belowG hg hB) (Nat.le_trans hB hF1.size)).mono ?_
   rintro e w2 ⟨c2, es2, rfl, hvd, h2⟩
   have hF2 := hF1.joinR h2
   simp only [List.cons_append, List.nil_append] at hF2
   have hdl := box hvd.len
   have hdo := hvd.ones
   replace hdo := box hdo
   simp only [mErr]
   go_wp2_with (first | ((with_reducible refine lsx (wp_fstA1 hF2 (by with_unfolding_all exact ⟨_, _, rfl, rfl, rfl⟩) (by rw [hdl.out]; kernel_rfl) hdo.out (by rw [hdl.out, docL_len hcl hsl]; decide) (docL_38 hcl (by rw [hdl.out, hsl])) ?_)); intro w3 hF3 hz3) | ((with_reducible refine lsx (wp_fst1 hF3 (by with_unfolding_all exact ⟨_, _, rfl, rfl, rfl⟩) (by kernel_rfl) rfl rfl (by rw [docL_len hcl hdl.out]; decide) (docL_73 (has' := true) hcl hdl.out) ?_)); intro w4 hF4 hz4))
   go_ret2
   unfold MMem
   rw [hr.out]
   exact ⟨_, es2, _, rfl, docL_len hcl hdl.out, docL_one hco hdo.out hE.one hN.one, hF4.tail, fun d' h => by injection h with h; subst h; exact ⟨rfl, ⟨cf, eg, c2, nt, hC.mono (fun _ h => List.mem_append_left _ h), hE.mono (fun _ h => List.mem_append_left _ h), hvd.mono (fun _ h => List.mem_append_right _ h), hN.mono (fun _ h => List.mem_append_left _ h), rfl⟩⟩⟩
  | error ee =>
   rw [hm] at hr htx
   go_enter Tryz.func66, Tryz.ntmps66
   go_wp2_with (first | ((with_reducible refine lsx (wp_fbox hF0 (cs := (vlL k n ⟨t.toArray⟩ (.slice An nn cn) (.slice Ak nk ck))) rfl (by with_unfolding_all rfl) (by with_unfolding_all rfl) ?_)); intro w1 g1 hF1 hz1) | (with_reducible refine lsx (wp_fld0 hF1 uq3 rfl (by with_unfolding_all exact ⟨_, rfl, rfl⟩) rfl ?_)) | (with_reducible refine lsx (wp_fldA0 hF1 uq76 rfl (by with_unfolding_all exact ⟨_, rfl, rfl⟩) (ds := (vlL k n ⟨t.toArray⟩ (.slice An nn cn) (.slice Ak nk ck))) (by rw [vlL_len]; kernel_rfl) (take_all _) ?_)))
   refine (htx.out _ (hF1.belowG hg hB) (Nat.le_trans hB hF1.size)).mono ?_
   rintro e w2 ⟨c2, es2, rfl, hvd, h2⟩
   have hF2 := hF1.joinR h2
   simp only [List.cons_append, List.nil_append] at hF2
   have hdl := box hvd.len
   have hdo := hvd.ones
   replace hdo := box hdo
   simp only [mErr]
   go_wp2_with (first | ((with_reducible refine lsx (wp_fstA1 hF2 (by with_unfolding_all exact ⟨_, _, rfl, rfl, rfl⟩) (by rw [hdl.out]; kernel_rfl) hdo.out (by rw [hdl.out, docL_len hcl hsl]; decide) (docL_38 hcl (by rw [hdl.out, hsl])) ?_)); intro w3 hF3 hz3) | ((with_reducible refine lsx (wp_fst1 hF3 (by with_unfolding_all exact ⟨_, _, rfl, rfl, rfl⟩) (by kernel_rfl) rfl rfl (by rw [docL_len hcl hdl.out]; decide) (docL_73 (has' := true) hcl hdl.out) ?_)); intro w4 hF4 hz4))
   go_ret2
   unfold MMem
   rw [hr.out]
   exact ⟨_, es2, _, rfl, docL_len hcl hdl.out, docL_one hco hdo.out hE.one hN.one, hF4.tail, fun d' h => by cases h⟩
 have n6 : (s == [115, 117, 98, 106, 101, 99, 116]) = false := by rw [beq_eq_false_iff_ne]; exact h6
 by_cases h7 : s = kNotes
 ·skip
  have hr : Box (rStep d s (.mk k n t ns ks) = match (match mNotes (.mk k n t ns ks) with | .ok x => (.ok (({ d with notes := x } : MDoc), (⟨false, false, false, false, false⟩ : MGot)) : MR (MDoc × MGot)) | .error e => .error e) with | .ok x => .ok x.1 | .error e => .error e) := box (by unfold rStep mStep; rw [if_neg h0, if_neg h1, if_neg h2, if_neg h3, if_neg h4, if_neg h5, if_neg h6, if_pos h7]; rfl)
  have hsq : s = [97, 110, 110, 111, 116, 97, 116, 105, 111, 110, 115] := h7
  subst hsq
  clear h0 h1 h2 h3 h4 h5 h6 h7 n0 n1 n2 n3 n4 n5 n6
  have htx := box (fun w' hb hB' => mnotes_any (.mk k n t ns ks) _ w' (hv0.onB (w' := w') hb hB') hob)
  cases hm : mNotes (.mk k n t ns ks) with
  | ok x =>
   rw [hm] at hr htx
   go_enter Tryz.func66, Tryz.ntmps66
   go_wp2_with (first | ((with_reducible refine lsx (wp_fbox hF0 (cs := (vlL k n ⟨t.toArray⟩ (.slice An nn cn) (.slice Ak nk ck))) rfl (by with_unfolding_all rfl) (by with_unfolding_all rfl) ?_)); intro w1 g1 hF1 hz1) | (with_reducible refine lsx (wp_fld0 hF1 uq3 rfl (by with_unfolding_all exact ⟨_, rfl, rfl⟩) rfl ?_)) | (with_reducible refine lsx (wp_fldA0 hF1 uq76 rfl (by with_unfolding_all exact ⟨_, rfl, rfl⟩) (ds := (vlL k n ⟨t.toArray⟩ (.slice An nn cn) (.slice Ak nk ck))) (by rw [vlL_len]; kernel_rfl) (take_all _) ?_)))
   refine (htx.out _ (hF1.belowG hg hB) (Nat.le_trans hB hF1.size)).mono ?_
   rintro e w2 ⟨e2, es2, rfl, hvd, h2⟩
   have hF2 := hF1.joinR h2
   simp only [List.cons_append, List.nil_append] at hF2
   obtain ⟨A2, l2, k2, hk2, hl2, rfl, hm2⟩ := hvd
   replace hl2 := box hl2
   simp only [mErr]
   go_wp2_with (first | ((with_reducible refine lsx (wp_fst1 hF2 (by with_unfolding_all exact ⟨_, _, rfl, rfl, rfl⟩) (by kernel_rfl) rfl rfl (by rw [docL_len hcl hsl]; decide) (docL_74 (nt' := .slice A2 l2 k2) hcl hsl) ?_)); intro w3 hF3 hz3))
   go_ret2
   unfold MMem
   rw [hr.out]
   exact ⟨_, es2, _, rfl, docL_len hcl hsl, docL_one hco hso hE.one rfl, hF3.tail, fun d' h => by injection h with h; subst h; exact ⟨rfl, ⟨cf, eg, sj, _, hC.mono (fun _ h => List.mem_append_left _ h), hE.mono (fun _ h => List.mem_append_left _ h), hS.mono (fun _ h => List.mem_append_left _ h), ⟨A2, l2, k2, hk2, hl2.out, rfl, hm2.imp id (List.mem_append_right _)⟩, rfl⟩⟩⟩
  | error ee =>
   rw [hm] at hr htx
   go_enter Tryz.func66, Tryz.ntmps66
   go_wp2_with (first | ((with_reducible refine lsx (wp_fbox hF0 (cs := (vlL k n ⟨t.toArray⟩ (.slice An nn cn) (.slice Ak nk ck))) rfl (by with_unfolding_all rfl) (by with_unfolding_all rfl) ?_)); intro w1 g1 hF1 hz1) | (with_reducible refine lsx (wp_fld0 hF1 uq3 rfl (by with_unfolding_all exact ⟨_, rfl, rfl⟩) rfl ?_)) | (with_reducible refine lsx (wp_fldA0 hF1 uq76 rfl (by with_unfolding_all exact ⟨_, rfl, rfl⟩) (ds := (vlL k n ⟨t.toArray⟩ (.slice An nn cn) (.slice Ak nk ck))) (by rw [vlL_len]; kernel_rfl) (take_all _) ?_)))
   refine (htx.out _ (hF1.belowG hg hB) (Nat.le_trans hB hF1.size)).mono ?_
   rintro e w2 ⟨e2, es2, rfl, hvd, h2⟩
   have hF2 := hF1.joinR h2
   simp only [List.cons_append, List.nil_append] at hF2
   obtain ⟨A2, l2, k2, hk2, hl2, rfl, hm2⟩ := hvd
   replace hl2 := box hl2
   simp only [mErr]
   go_wp2_with (first | ((with_reducible refine lsx (wp_fst1 hF2 (by with_unfolding_all exact ⟨_, _, rfl, rfl, rfl⟩) (by kernel_rfl) rfl rfl (by rw [docL_len hcl hsl]; decide) (docL_74 (nt' := .slice A2 l2 k2) hcl hsl) ?_)); intro w3 hF3 hz3))
   go_ret2
   unfold MMem
   rw [hr.out]
   exact ⟨_, es2, _, rfl, docL_len hcl hsl, docL_one hco hso hE.one rfl, hF3.tail, fun d' h => by cases h⟩
 have n7 : (s == [97, 110, 110, 111, 116, 97, 116, 105, 111, 110, 115]) = false := by rw [beq_eq_false_iff_ne]; exact h7
 have hr : Box (rStep d s (.mk k n t ns ks) = .error 80) := box (by unfold rStep mStep; rw [if_neg h0, if_neg h1, if_neg h2, if_neg h3, if_neg h4, if_neg h5, if_neg h6, if_neg h7])
 clear h0 h1 h2 h3 h4 h5 h6 h7
 go_enter Tryz.func66, Tryz.ntmps66
 go_wp2_with (first | ((with_reducible refine lsx (wp_fbox hF0 (cs := (vlL k n ⟨t.toArray⟩ (.slice An nn cn) (.slice Ak nk ck))) rfl (by with_unfolding_all rfl) (by with_unfolding_all rfl) ?_)); intro w1 g1 hF1 hz1) | (with_reducible refine lsx (wp_fld0 hF1 uq3 rfl (by with_unfolding_all exact ⟨_, rfl, rfl⟩) rfl ?_)) | (with_reducible refine lsx (wp_fldA0 hF1 uq76 rfl (by with_unfolding_all exact ⟨_, rfl, rfl⟩) (ds := (vlL k n ⟨t.toArray⟩ (.slice An nn cn) (.slice Ak nk ck))) (by rw [vlL_len]; kernel_rfl) (take_all _) ?_)))
 go_ret2
 unfold MMem
 rw [hr.out]
 exact ⟨_, [], _, rfl, docL_len hcl hsl, docL_one hco hso hE.one hN.one, hF1.tail, fun d' h => by cases h⟩
end Go.Proofs.YtlhicfpmlncomaaGreatDoor
