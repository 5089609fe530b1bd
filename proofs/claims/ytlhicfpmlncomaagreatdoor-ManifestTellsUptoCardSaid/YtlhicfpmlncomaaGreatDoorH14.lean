/-
 Layer 8: the document's Read, walked.
-/
import Derived.Test.YtlhicfpmlncomaaGreatDoorH13
import Derived.Test.YtlhicfpmlncomaaGreatDoorH02
import Derived.Test.YtlhicfpmlncomaaGreatDoorH11
namespace Go.Proofs.YtlhicfpmlncomaaGreatDoor
open Go.RowKit
set_option linter.unusedSimpArgs false
set_option linter.unusedVariables false
theorem rReadL_go {ns : List (List UInt8)} {ks : List JV} {i : Nat} {s : List UInt8} {k : JV} {d : MDoc} (hs : ns[i]? = some s) (hk : ks[i]? = some k) : rReadL d (ns.drop i) (ks.drop i) = match rStep d s k with
  | .ok d' => rReadL d' (ns.drop (i + 1)) (ks.drop (i + 1))
  | .error e => .error e := by
 rw [List.drop_eq_getElem_cons (List.getElem?_eq_some_iff.1 hs).1, (List.getElem?_eq_some_iff.1 hs).2, List.drop_eq_getElem_cons (List.getElem?_eq_some_iff.1 hk).1, (List.getElem?_eq_some_iff.1 hk).2, rReadL]
 cases rStep d s k <;> rfl
theorem rReadL_end {ns : List (List UInt8)} {ks : List JV} {i : Nat} {d : MDoc} (hk : ks.length ≤ i) : rReadL d (ns.drop i) (ks.drop i) = .ok d := by
 rw [List.drop_of_length_le hk]
 cases ns.drop i <;> (rw [rReadL]; intros; rename_i h1 h2; cases h2)
section
variable {d : MDoc} {k : JV}
theorem rS_type : rStep d kType k = match mMedia k with | .ok s => .ok { d with type := s } | .error e => .error e := by
 unfold rStep mStep
 rw [if_neg (by decide), if_neg (by decide), if_pos rfl]
 cases mMedia k <;> rfl
theorem rS_config : rStep d kConfig k = match mDesc k with | .ok s => .ok { d with config := s } | .error e => .error e := by
 unfold rStep mStep
 rw [if_neg (by decide), if_neg (by decide), if_neg (by decide), if_pos rfl]
 cases mDesc k <;> rfl
theorem rS_layers : rStep d kLayers k = match mEdges k with | .ok s => .ok { d with edges := s } | .error e => .error e := by
 unfold rStep mStep
 rw [if_neg (by decide), if_neg (by decide), if_neg (by decide), if_neg (by decide), if_pos rfl]
 cases mEdges k <;> rfl
theorem rS_manifests : rStep d kManifests k = match mEdges k with | .ok s => .ok { d with edges := s } | .error e => .error e := by
 unfold rStep mStep
 rw [if_neg (by decide), if_neg (by decide), if_neg (by decide), if_neg (by decide), if_neg (by decide), if_pos rfl]
 cases mEdges k <;> rfl
theorem rS_subject : rStep d kSubject k = match mDesc k with | .ok s => .ok { d with subject := s, has := true } | .error e => .error e := by
 unfold rStep mStep
 rw [if_neg (by decide), if_neg (by decide), if_neg (by decide), if_neg (by decide), if_neg (by decide), if_neg (by decide), if_pos rfl]
 cases mDesc k <;> rfl
theorem rS_notes : rStep d kNotes k = match mNotes k with | .ok s => .ok { d with notes := s } | .error e => .error e := by
 unfold rStep mStep
 rw [if_neg (by decide), if_neg (by decide), if_neg (by decide), if_neg (by decide), if_neg (by decide), if_neg (by decide), if_neg (by decide), if_pos rfl]
 cases mNotes k <;> rfl
theorem rS_else {n : List UInt8} (h1 : ¬ n = kVersion) (h2 : ¬ n = kMedia) (h3 : ¬ n = kType) (h4 : ¬ n = kConfig) (h5 : ¬ n = kLayers) (h6 : ¬ n = kManifests) (h7 : ¬ n = kSubject) (h8 : ¬ n = kNotes) : rStep d n k = .error 80 := by
 unfold rStep mStep
 rw [if_neg h1, if_neg h2, if_neg h3, if_neg h4, if_neg h5, if_neg h6, if_neg h7, if_neg h8]
end
theorem jFieldL_has {nm : List UInt8} : ∀ {ns : List (List UInt8)} {ks : List JV}, ns.length = ks.length → (jFieldL nm ns ks).isSome = decide (nm ∈ ns)
 | [], _, _ => by
  rw [jFieldL]
  ·simp
  ·rintro _ _ _ _ h; cases h
 | s :: ns, [], h => by simp at h
 | s :: ns, v :: ks, h => by
  rw [jFieldL]
  by_cases hs : s = nm
  ·rw [if_pos hs, decide_eq_true (by rw [hs]; exact List.mem_cons_self)]; rfl
  ·rw [if_neg hs, jFieldL_has (by simpa using h)]
   have : (nm ∈ s :: ns) ↔ nm ∈ ns := by
    rw [List.mem_cons]
    exact ⟨fun h => h.resolve_left (fun h2 => hs h2.symm), .inr⟩
   simp only [this]
mutual
theorem JOb.sm : ∀ (v : JV), JOb v → JSm v
 | .mk _ _ _ _ ks, h => by
  rw [JOb] at h
  rw [JSm]
  exact ⟨h.2.1, h.2.2.1, JObL.sm ks h.2.2.2.2⟩
theorem JObL.sm : ∀ (ks : List JV), JObL ks → JSmL ks
 | [], _ => by rw [JSmL]; trivial
 | v :: vs, h => by
  rw [JObL] at h
  rw [JSmL]
  exact ⟨JOb.sm v h.1, JObL.sm vs h.2⟩
end
/-- The members that are looked for. -/
def rMems : List (List UInt8) := [kVersion, kMedia, kConfig, kLayers, kManifests]
def rMem (i : Nat) : List UInt8 := rMems.getD i []
def rWant (im : Bool) (i : Nat) : Bool := decide (i < 2) || ((decide (i < 4) && im) || (decide (i = 4) && !im))
theorem rWhole_want (d : MDoc) (ns : List (List UInt8)) : rWhole d ns ↔ ∀ j, j < 5 → decide (rMem j ∈ ns) = rWant (decide (d.media = sImage)) j := by
 unfold rWhole
 constructor
 ·rintro ⟨h0, h1, h2, h3, h4⟩ j hj
  obtain rfl | rfl | rfl | rfl | rfl : j = 0 ∨ j = 1 ∨ j = 2 ∨ j = 3 ∨ j = 4 := by omega
  ·show decide (kVersion ∈ ns) = true; exact decide_eq_true h0
  ·show decide (kMedia ∈ ns) = true; exact decide_eq_true h1
  ·show decide (kConfig ∈ ns) = _; simp only [h2]; simp [rWant]
  ·show decide (kLayers ∈ ns) = _; simp only [h3]; simp [rWant]
  ·show decide (kManifests ∈ ns) = _; simp only [h4]; simp [rWant]
 ·intro h
  have h0 : decide (kVersion ∈ ns) = true := h 0 (by omega)
  have h1 : decide (kMedia ∈ ns) = true := h 1 (by omega)
  have h2 : decide (kConfig ∈ ns) = rWant (decide (d.media = sImage)) 2 := h 2 (by omega)
  have h3 : decide (kLayers ∈ ns) = rWant (decide (d.media = sImage)) 3 := h 3 (by omega)
  have h4 : decide (kManifests ∈ ns) = rWant (decide (d.media = sImage)) 4 := h 4 (by omega)
  simp [rWant] at h2 h3 h4
  exact ⟨of_decide_eq_true h0, of_decide_eq_true h1, h2, h3, by rw [← decide_eq_true_iff (p := kManifests ∈ ns), h4]; simp⟩
def rWords : List Value := [.string ⟨kVersion.toArray⟩, .string ⟨kMedia.toArray⟩, .string ⟨kConfig.toArray⟩, .string ⟨kLayers.toArray⟩, .string ⟨kManifests.toArray⟩]
theorem rWords_at {i : Nat} (h : i < 5) : rWords[i]? = some (.string ⟨(rMem i).toArray⟩) := by
 obtain rfl | rfl | rfl | rfl | rfl : i = 0 ∨ i = 1 ∨ i = 2 ∨ i = 3 ∨ i = 4 := by omega
 all_goals rfl
/-- Where a document's reading stands behind a member. -/
def RRSt (w : World) (g1 g2 g3 : Nat) (vl : List Value) (TE : List Ent) (r : MR MDoc) (e7 : Value) (wx : World) : Prop :=
 ∃ TE' cd, (∀ e ∈ TE, e ∈ TE') ∧ Fr [] w wx (.blk g3 40 cd :: .blk g2 40 doc0 :: .blk g1 51 vl :: TE') ∧ match r with
  | .ok d => e7 = .int .i64 0 ∧ VDoc d cd TE'
  | .error e => e7 = .int .i64 (e : Int) ∧ e ≠ 0
set_option maxRecDepth 20000 in
set_option maxHeartbeats 25600000 in
theorem rread_any (v : JV) (cs : List Value) (w : World) (hv : VRd w (· < w.heap.size) v cs) (hob : JOb v) :
  Calls Tryz.prog 18 #[.agg cs.toArray] w (MPs w (mRead v)) := by
 obtain ⟨k, n, t, ns, ks⟩ := v
 have hv0 := hv
 rw [VRd] at hv
 obtain ⟨An, nn, cn, Ak, nk, ck, xs, hcn, hck, rfl, hrn, hrk, hvk⟩ := hv
 have hF0 := Fr.nil w
 have hkl := hvk.len
 rw [hrk.len] at hkl
 have hnl := hrn.len
 rw [List.length_map, Nat.mul_one] at hnl
 have hobj := hob.obj
 simp only [JV.kind, JV.names, JV.kids] at hobj
 by_cases hk : k = 6
 rotate_left
 ·have hj : Box (mRead (.mk k n t ns ks) = .error 80) := box (if_neg hk)
  have hq : ((k : Int) != 6) = true := by rw [bne_iff_ne]; exact hk
  replace hk := box hk
  clear hobj
  go_enter Tryz.func18, Tryz.ntmps18
  go_wp2_with (first | ((with_reducible refine lst (by with_unfolding_all rfl) (wp_fbox hF0 (cs := (vlL k n ⟨t.toArray⟩ (.slice An nn cn) (.slice Ak nk ck))) rfl (by with_unfolding_all rfl) (by with_unfolding_all rfl) ?_)); intro w1 g1 hF1 hz1) | ((with_reducible refine lst (by with_unfolding_all rfl) (wp_falloc hF1 (cs := doc0) (z := .agg (List.toArray (doc0))) rfl (by kernel_rfl) (by with_unfolding_all rfl) ?_)); intro w2 g2 hF2 hz2) | (with_reducible refine lst (by with_unfolding_all rfl) (wp_fld1 hF2 Tryz.underlying3 rfl (by with_unfolding_all exact ⟨_, rfl, rfl⟩) rfl ?_)) | (with_reducible refine lst (by with_unfolding_all rfl) (wp_fbuild Tryz.underlying40 (z := .agg (List.toArray doc0)) (by kernel_rfl) (pl := docP) (by kernel_rfl) (cs := doc0) rfl (vs := []) (by with_unfolding_all rfl) (by with_unfolding_all rfl) ?_)) | ((with_reducible refine lst (by with_unfolding_all rfl) (wp_fstA0 hF2 (by with_unfolding_all exact ⟨_, _, rfl, rfl, rfl⟩) (by rw [doc0_len]; kernel_rfl) doc0_one (Nat.le_of_eq (Nat.zero_add _)) (spl_all rfl) ?_)); intro w3 hF3 hz3))
  exact bodyPost_ret (results_cellF2 rfl _ hF3 (i := 0) rfl rfl Tryz.underlying40 rfl (by rw [doc0_len]; kernel_rfl)) rfl (by
   unfold MPs
   rw [hj.out]
   exact ⟨_, _, rfl, VDoc.zero, hF3.tail.tail⟩)
 have hq : ((k : Int) != 6) = false := by rw [hk]; rfl
 have hnk : nk = ks.length := by omega
 have hnn : ns.length = nk := by rw [hnk]; exact (hobj hk).1
 have hkn : nk ≤ 1048576 := by rw [hnk]; exact hob.small.2.2
 have hkob := box (fun u hu => hob.kid (k := u) hu)
 simp only [JV.kids] at hkob
 obtain ⟨J, hJ0⟩ : ∃ J, J = mRead (.mk k n t ns ks) := ⟨_, rfl⟩
 obtain ⟨R, hR0⟩ : ∃ R, R = rReadL .zero ns ks := ⟨_, rfl⟩
 have hJR : Box (J = match (generalizing := false) R with | .ok d => if rWhole d ns then .ok d else .error 80 | .error e => .error e) := box (by
  rw [hJ0, hR0, ← rRead_eq (v := .mk k n t ns ks) (fun _ => (hobj hk).1)]
  exact if_pos hk)
 have hJ : Box (R = rReadL .zero (ns.drop 0) (ks.drop 0)) := box (by rw [hR0, List.drop_zero, List.drop_zero])
 have hfh := box (fun nm : List UInt8 => show (jField nm (.mk k n t ns ks)).isSome = decide (nm ∈ ns) by rw [jField, if_pos hk]; exact jFieldL_has (hobj hk).1)
 have hfd0 := box (fun (nm : List UInt8) (w' : World) (hb : Below w.heap.size w w') => rfield_any (.mk k n t ns ks) _ nm w' w.heap.size hb.size (hv0.stay hb) (JOb.sm _ hob))
 rw [← hJ0]
 have hnn2 : nn = nk := by omega
 subst hnn2
 replace hk := box hk
 replace hnk := box hnk
 replace hnn := box hnn
 replace hvk := box hvk
 clear hobj hkl hnl hJ0 hR0 hob hv0
 go_enter Tryz.func18, Tryz.ntmps18
 go_wp2_with (first | ((with_reducible refine lst (by with_unfolding_all rfl) (wp_fbox hF0 (cs := (vlL k n ⟨t.toArray⟩ (.slice An nn cn) (.slice Ak nn ck))) rfl (by with_unfolding_all rfl) (by with_unfolding_all rfl) ?_)); intro w1 g1 hF1 hz1) | ((with_reducible refine lst (by with_unfolding_all rfl) (wp_falloc hF1 (cs := doc0) (z := .agg (List.toArray (doc0))) rfl (by kernel_rfl) (by with_unfolding_all rfl) ?_)); intro w2 g2 hF2 hz2) | ((with_reducible refine lst (by with_unfolding_all rfl) (wp_falloc hF2 (cs := doc0) (z := .agg (List.toArray (doc0))) rfl (by kernel_rfl) (by with_unfolding_all rfl) ?_)); intro w3 g3 hF3 hz3) | (with_reducible refine lst (by with_unfolding_all rfl) (wp_fld1 hF2 Tryz.underlying3 rfl (by with_unfolding_all exact ⟨_, rfl, rfl⟩) rfl ?_)) | (with_reducible refine lst (by with_unfolding_all rfl) (wp_fbuild Tryz.underlying40 (z := .agg (List.toArray doc0)) (by kernel_rfl) (pl := docP) (by kernel_rfl) (cs := doc0) rfl (vs := []) (by with_unfolding_all rfl) (by with_unfolding_all rfl) ?_)) | ((with_reducible refine lst (by with_unfolding_all rfl) (wp_fstA0 hF3 (by with_unfolding_all exact ⟨_, _, rfl, rfl, rfl⟩) (by rw [doc0_len]; kernel_rfl) doc0_one (Nat.le_of_eq (Nat.zero_add _)) (spl_all rfl) ?_)); intro w4 hF4 hz4))
 clear hF0 hF1 hF2 hF3
 go_loopg [5] nn (fun g iv wr => ∃ (i : Nat) (d : MDoc) (cd : List Value) (TE : List Ent), i ≤ nn ∧ Box (g = nn - i) ∧ iv = .int .i64 (i : Int) ∧ Box (VDoc d cd TE) ∧ Box (R = rReadL d (ns.drop i) (ks.drop i)) ∧ Fr [] w wr (.blk g3 40 cd :: .blk g2 40 doc0 :: .blk g1 51 (vlL k n ⟨t.toArray⟩ (.slice An nn cn) (.slice Ak nn ck)) :: TE))
 case atStart => exact ⟨0, .zero, _, [], by omega, box rfl, rfl, box VDoc.zero, hJ, hF4⟩
 case round =>
  clear hF4 hJ
  obtain ⟨i, d, cd, TE, hi, hgi, rfl, hD, hJ, hF⟩ := hrel
  have hkk : Box (_ = nn - i) := hgi
  clear hgi
  have hrk' := hrk.below hF.below
  have hdl := box hD.out.len
  have hdo := box hD.out.ones
  obtain ⟨cf, eg, sj, nt, hC, hE, hS, hN, hcd⟩ := hD.out
  have hcl := hC.len
  have hsl := hS.len
  subst hcd
  by_cases hlt : i < nn
  ·obtain ⟨u, hu⟩ : ∃ u, ks[i]? = some u := ⟨ks[i]'(by rw [← hnk.out]; exact hlt), by simp⟩
   obtain ⟨s, hs⟩ : ∃ s, ns[i]? = some s := ⟨ns[i]'(by rw [hnn.out]; exact hlt), by simp⟩
   obtain ⟨ci, hci, hvi⟩ := hvk.out.at hu
   have hstep := box (hJ.out.trans (rReadL_go hs hu))
   have hss : Box ((ns.map strv)[i]? = some (.string ⟨s.toArray⟩)) := box (by rw [List.getElem?_map, hs]; rfl)
   have hub := box (hkob.out u (List.mem_of_getElem? hu))
   clear hu hs hJ hfd0 hfh
   obtain ⟨ku, nu, tu, nsu, ksu⟩ := u
   have hus : tu.length ≤ 1048576 := hub.out.small.1
   have hvi0 := hvi
   rw [VRd] at hvi0
   obtain ⟨Au, au, bu, Bu, cu, du, xu, _, _, rfl, _, _, _⟩ := hvi0
   replace hci := box hci
   have hrn' := hrn.below hF.below
   go_upto_block 2 with (first | (with_reducible refine lst (by with_unfolding_all rfl) (wp_fld2 hF Tryz.underlying49 rfl (by with_unfolding_all exact ⟨_, rfl, rfl⟩) rfl ?_)) | (with_reducible refine lst (by with_unfolding_all rfl) (wp_indexAddr T_rvals hrk' (by with_unfolding_all exact ⟨_, _, _, _, rfl, rfl, rfl⟩) (by omega) (by omega) ?_)) | (with_reducible refine lst (by with_unfolding_all rfl) (wp_loadA hrk' Tryz.underlying51 rfl (by with_unfolding_all exact ⟨_, rfl, rfl⟩) (ds := (vlL ku nu ⟨tu.toArray⟩ (.slice Au au bu) (.slice Bu cu du))) (by rw [vlL_len]; kernel_rfl) (by with_unfolding_all exact hci.out) ?_)) | ((with_reducible refine lst (by with_unfolding_all rfl) (wp_falloc hF (cs := vl0) (z := .agg (List.toArray (vl0))) rfl (by kernel_rfl) (by with_unfolding_all rfl) ?_)); intro w22 g22 hF22 hz22) | ((with_reducible refine lst (by with_unfolding_all rfl) (wp_fstA0 hF22 (by with_unfolding_all exact ⟨_, _, rfl, rfl, rfl⟩) (by rw [vlL_len]; kernel_rfl) vlL_one (by rw [vlL_len, vlL_len]; decide) (spl_all (by rw [vlL_len, vlL_len])) ?_)); intro w5 hF5 hz5) | (with_reducible refine lst (by with_unfolding_all rfl) (wp_fld3 hF5 Tryz.underlying48 rfl (by with_unfolding_all exact ⟨_, rfl, rfl⟩) rfl ?_)) | (have hrn3 := hrn.below hF5.below; (with_reducible refine lst (by with_unfolding_all rfl) (wp_indexAddr T_strs hrn3 (by with_unfolding_all exact ⟨_, _, _, _, rfl, rfl, rfl⟩) (by omega) (by omega) ?_))) | (have hrn3 := hrn.below hF5.below; (with_reducible refine lst (by with_unfolding_all rfl) (wp_load1C hrn3 hss Tryz.underlying9 rfl (by with_unfolding_all exact ⟨_, rfl, rfl⟩) (by first | (simp; done) | (simp; omega) | omega) ?_))))
   (try simp only [Act.put, List.setIfInBounds_toArray, List.set_cons_zero, List.set_cons_succ])
   go_cut [7] (fun ev wx => RRSt w g1 g2 g3 (vlL k n ⟨t.toArray⟩ (.slice An nn cn) (.slice Ak nn ck)) TE (rStep d s (.mk ku nu tu nsu ksu)) ev wx)
   case first =>
    clear hstep
    by_cases h0 : s = kVersion
    ·skip
     have hrA : Box (ku = 3 ∧ nu = 2 → rStep d s (.mk ku nu tu nsu ksu) = .ok d) := box (fun h => rStep_v1 (v := (.mk ku nu tu nsu ksu)) h0 h)
     have hrB : Box (¬ (ku = 3 ∧ nu = 2) → rStep d s (.mk ku nu tu nsu ksu) = .error 80) := box (fun h => rStep_v0 (v := (.mk ku nu tu nsu ksu)) h0 h)
     have hsq : s = [115, 99, 104, 101, 109, 97, 86, 101, 114, 115, 105, 111, 110] := h0
     subst hsq
     clear h0
     by_cases hk3 : ku = 3
     ·have hq3 : ((ku : Int) != 3) = false := by rw [hk3]; rfl
      by_cases hn2 : nu = 2
      ·have hst := box (hrA.out ⟨hk3, hn2⟩)
       have hq2 : ((nu : Int) != 2) = false := by rw [hn2]; rfl
       replace hk3 := box hk3
       replace hn2 := box hn2
       go_wp2_with (first | (with_reducible refine lst (by with_unfolding_all rfl) (wp_fld0 hF5 Tryz.underlying3 rfl (by with_unfolding_all exact ⟨_, rfl, rfl⟩) rfl ?_)))
       go_meet
       rw [hst.out]
       exact ⟨TE, _, (fun _ h => h), hF5.tail, rfl, hD.out⟩
      ·have hst := box (hrB.out (fun h => hn2 h.2))
       have hq2 : ((nu : Int) != 2) = true := by rw [bne_iff_ne]; exact hn2
       replace hk3 := box hk3
       replace hn2 := box hn2
       go_wp2_with (first | (with_reducible refine lst (by with_unfolding_all rfl) (wp_fld0 hF5 Tryz.underlying3 rfl (by with_unfolding_all exact ⟨_, rfl, rfl⟩) rfl ?_)))
       go_meet
       rw [hst.out]
       exact ⟨TE, _, (fun _ h => h), hF5.tail, rfl, by decide⟩
     ·have hst := box (hrB.out (fun h => hk3 h.1))
      have hq3 : ((ku : Int) != 3) = true := by rw [bne_iff_ne]; exact hk3
      replace hk3 := box hk3
      go_wp2_with (first | (with_reducible refine lst (by with_unfolding_all rfl) (wp_fld0 hF5 Tryz.underlying3 rfl (by with_unfolding_all exact ⟨_, rfl, rfl⟩) rfl ?_)))
      go_meet
      rw [hst.out]
      exact ⟨TE, _, (fun _ h => h), hF5.tail, rfl, by decide⟩
    have n0 : (s == [115, 99, 104, 101, 109, 97, 86, 101, 114, 115, 105, 111, 110]) = false := by rw [beq_eq_false_iff_ne]; exact h0
    by_cases h1 : s = kMedia
    ·skip
     have hrA : Box (ku = 4 → (tu = sImage ∨ tu = sIndex) → rStep d s (.mk ku nu tu nsu ksu) = .ok { d with media := tu }) := box (fun h hh => rStep_m2 (v := (.mk ku nu tu nsu ksu)) h0 h1 h hh)
     have hrB : Box (ku = 4 → ¬ (tu = sImage ∨ tu = sIndex) → rStep d s (.mk ku nu tu nsu ksu) = .error 72) := box (fun h hh => rStep_m1 (v := (.mk ku nu tu nsu ksu)) h0 h1 h hh)
     have hrC : Box (¬ ku = 4 → rStep d s (.mk ku nu tu nsu ksu) = .error 80) := box (fun h => rStep_m0 (v := (.mk ku nu tu nsu ksu)) h0 h1 h)
     have hsq : s = [109, 101, 100, 105, 97, 84, 121, 112, 101] := h1
     subst hsq
     clear h0 h1 n0
     by_cases hk4 : ku = 4
     ·have hq4 : ((ku : Int) != 4) = false := by rw [hk4]; rfl
      by_cases hi : tu = sImage
      ·skip
       have hst := box (hrA.out hk4 (.inl hi))
       have e1 : (tu == [97, 112, 112, 108, 105, 99, 97, 116, 105, 111, 110, 47, 118, 110, 100, 46, 111, 99, 105, 46, 105, 109, 97, 103, 101, 46, 109, 97, 110, 105, 102, 101, 115, 116, 46, 118, 49, 43, 106, 115, 111, 110]) = true := by rw [beq_iff_eq]; exact hi
       have e2 : (tu != [97, 112, 112, 108, 105, 99, 97, 116, 105, 111, 110, 47, 118, 110, 100, 46, 111, 99, 105, 46, 105, 109, 97, 103, 101, 46, 109, 97, 110, 105, 102, 101, 115, 116, 46, 118, 49, 43, 106, 115, 111, 110]) = false := by rw [bne, e1]; rfl
       have e3 : (tu == [97, 112, 112, 108, 105, 99, 97, 116, 105, 111, 110, 47, 118, 110, 100, 46, 111, 99, 105, 46, 105, 109, 97, 103, 101, 46, 105, 110, 100, 101, 120, 46, 118, 49, 43, 106, 115, 111, 110]) = false := by rw [beq_eq_false_iff_ne]; exact (fun h => sImage_ne (hi.symm.trans h))
       have e4 : (tu != [97, 112, 112, 108, 105, 99, 97, 116, 105, 111, 110, 47, 118, 110, 100, 46, 111, 99, 105, 46, 105, 109, 97, 103, 101, 46, 105, 110, 100, 101, 120, 46, 118, 49, 43, 106, 115, 111, 110]) = true := by rw [bne, e3]; rfl
       replace hi := box hi
       replace hk4 := box hk4
       go_wp2_with (first | (with_reducible refine lst (by with_unfolding_all rfl) (wp_fld0 hF5 Tryz.underlying9 rfl (by with_unfolding_all exact ⟨_, rfl, rfl⟩) rfl ?_)) | (with_reducible refine lst (by with_unfolding_all rfl) (wp_fld0 hF5 Tryz.underlying3 rfl (by with_unfolding_all exact ⟨_, rfl, rfl⟩) rfl ?_)) | ((with_reducible refine lst (by with_unfolding_all rfl) (wp_fst1 hF5 (by with_unfolding_all exact ⟨_, _, rfl, rfl, rfl⟩) (by kernel_rfl) rfl rfl (by rw [docL_len hcl hsl]; decide) (docL_0s (m' := tu)) ?_)); intro w7 hF7 hz7))
       go_meet
       rw [hst.out]
       exact ⟨TE, _, (fun _ h => h), hF7.tail, rfl, ⟨cf, eg, sj, nt, hC, hE, hS, hN, rfl⟩⟩
      by_cases hx : tu = sIndex
      ·skip
       have hst := box (hrA.out hk4 (.inr hx))
       have e1 : (tu == [97, 112, 112, 108, 105, 99, 97, 116, 105, 111, 110, 47, 118, 110, 100, 46, 111, 99, 105, 46, 105, 109, 97, 103, 101, 46, 105, 110, 100, 101, 120, 46, 118, 49, 43, 106, 115, 111, 110]) = true := by rw [beq_iff_eq]; exact hx
       have e2 : (tu != [97, 112, 112, 108, 105, 99, 97, 116, 105, 111, 110, 47, 118, 110, 100, 46, 111, 99, 105, 46, 105, 109, 97, 103, 101, 46, 105, 110, 100, 101, 120, 46, 118, 49, 43, 106, 115, 111, 110]) = false := by rw [bne, e1]; rfl
       have e3 : (tu == [97, 112, 112, 108, 105, 99, 97, 116, 105, 111, 110, 47, 118, 110, 100, 46, 111, 99, 105, 46, 105, 109, 97, 103, 101, 46, 109, 97, 110, 105, 102, 101, 115, 116, 46, 118, 49, 43, 106, 115, 111, 110]) = false := by rw [beq_eq_false_iff_ne]; exact hi
       have e4 : (tu != [97, 112, 112, 108, 105, 99, 97, 116, 105, 111, 110, 47, 118, 110, 100, 46, 111, 99, 105, 46, 105, 109, 97, 103, 101, 46, 109, 97, 110, 105, 102, 101, 115, 116, 46, 118, 49, 43, 106, 115, 111, 110]) = true := by rw [bne, e3]; rfl
       replace hi := box hi
       replace hx := box hx
       replace hk4 := box hk4
       go_wp2_with (first | (with_reducible refine lst (by with_unfolding_all rfl) (wp_fld0 hF5 Tryz.underlying9 rfl (by with_unfolding_all exact ⟨_, rfl, rfl⟩) rfl ?_)) | (with_reducible refine lst (by with_unfolding_all rfl) (wp_fld0 hF5 Tryz.underlying3 rfl (by with_unfolding_all exact ⟨_, rfl, rfl⟩) rfl ?_)) | ((with_reducible refine lst (by with_unfolding_all rfl) (wp_fst1 hF5 (by with_unfolding_all exact ⟨_, _, rfl, rfl, rfl⟩) (by kernel_rfl) rfl rfl (by rw [docL_len hcl hsl]; decide) (docL_0s (m' := tu)) ?_)); intro w7 hF7 hz7))
       go_meet
       rw [hst.out]
       exact ⟨TE, _, (fun _ h => h), hF7.tail, rfl, ⟨cf, eg, sj, nt, hC, hE, hS, hN, rfl⟩⟩
      ·skip
       have hst := box (hrB.out hk4 (by rintro (h | h); exact hi h; exact hx h))
       have e3 : (tu == [97, 112, 112, 108, 105, 99, 97, 116, 105, 111, 110, 47, 118, 110, 100, 46, 111, 99, 105, 46, 105, 109, 97, 103, 101, 46, 109, 97, 110, 105, 102, 101, 115, 116, 46, 118, 49, 43, 106, 115, 111, 110]) = false := by rw [beq_eq_false_iff_ne]; exact hi
       have e4 : (tu != [97, 112, 112, 108, 105, 99, 97, 116, 105, 111, 110, 47, 118, 110, 100, 46, 111, 99, 105, 46, 105, 109, 97, 103, 101, 46, 109, 97, 110, 105, 102, 101, 115, 116, 46, 118, 49, 43, 106, 115, 111, 110]) = true := by rw [bne, e3]; rfl
       have e5 : (tu == [97, 112, 112, 108, 105, 99, 97, 116, 105, 111, 110, 47, 118, 110, 100, 46, 111, 99, 105, 46, 105, 109, 97, 103, 101, 46, 105, 110, 100, 101, 120, 46, 118, 49, 43, 106, 115, 111, 110]) = false := by rw [beq_eq_false_iff_ne]; exact hx
       have e6 : (tu != [97, 112, 112, 108, 105, 99, 97, 116, 105, 111, 110, 47, 118, 110, 100, 46, 111, 99, 105, 46, 105, 109, 97, 103, 101, 46, 105, 110, 100, 101, 120, 46, 118, 49, 43, 106, 115, 111, 110]) = true := by rw [bne, e5]; rfl
       replace hi := box hi
       replace hx := box hx
       replace hk4 := box hk4
       go_wp2_with (first | (with_reducible refine lst (by with_unfolding_all rfl) (wp_fld0 hF5 Tryz.underlying9 rfl (by with_unfolding_all exact ⟨_, rfl, rfl⟩) rfl ?_)) | (with_reducible refine lst (by with_unfolding_all rfl) (wp_fld0 hF5 Tryz.underlying3 rfl (by with_unfolding_all exact ⟨_, rfl, rfl⟩) rfl ?_)) | ((with_reducible refine lst (by with_unfolding_all rfl) (wp_fst1 hF5 (by with_unfolding_all exact ⟨_, _, rfl, rfl, rfl⟩) (by kernel_rfl) rfl rfl (by rw [docL_len hcl hsl]; decide) (docL_0s (m' := tu)) ?_)); intro w7 hF7 hz7))
       go_meet
       rw [hst.out]
       exact ⟨TE, _, (fun _ h => h), hF7.tail, rfl, by decide⟩
     ·have hq4 : ((ku : Int) != 4) = true := by rw [bne_iff_ne]; exact hk4
      by_cases hi : tu = sImage
      ·skip
       have hst := box (hrC.out hk4)
       have e1 : (tu == [97, 112, 112, 108, 105, 99, 97, 116, 105, 111, 110, 47, 118, 110, 100, 46, 111, 99, 105, 46, 105, 109, 97, 103, 101, 46, 109, 97, 110, 105, 102, 101, 115, 116, 46, 118, 49, 43, 106, 115, 111, 110]) = true := by rw [beq_iff_eq]; exact hi
       have e2 : (tu != [97, 112, 112, 108, 105, 99, 97, 116, 105, 111, 110, 47, 118, 110, 100, 46, 111, 99, 105, 46, 105, 109, 97, 103, 101, 46, 109, 97, 110, 105, 102, 101, 115, 116, 46, 118, 49, 43, 106, 115, 111, 110]) = false := by rw [bne, e1]; rfl
       have e3 : (tu == [97, 112, 112, 108, 105, 99, 97, 116, 105, 111, 110, 47, 118, 110, 100, 46, 111, 99, 105, 46, 105, 109, 97, 103, 101, 46, 105, 110, 100, 101, 120, 46, 118, 49, 43, 106, 115, 111, 110]) = false := by rw [beq_eq_false_iff_ne]; exact (fun h => sImage_ne (hi.symm.trans h))
       have e4 : (tu != [97, 112, 112, 108, 105, 99, 97, 116, 105, 111, 110, 47, 118, 110, 100, 46, 111, 99, 105, 46, 105, 109, 97, 103, 101, 46, 105, 110, 100, 101, 120, 46, 118, 49, 43, 106, 115, 111, 110]) = true := by rw [bne, e3]; rfl
       replace hi := box hi
       replace hk4 := box hk4
       go_wp2_with (first | (with_reducible refine lst (by with_unfolding_all rfl) (wp_fld0 hF5 Tryz.underlying9 rfl (by with_unfolding_all exact ⟨_, rfl, rfl⟩) rfl ?_)) | (with_reducible refine lst (by with_unfolding_all rfl) (wp_fld0 hF5 Tryz.underlying3 rfl (by with_unfolding_all exact ⟨_, rfl, rfl⟩) rfl ?_)) | ((with_reducible refine lst (by with_unfolding_all rfl) (wp_fst1 hF5 (by with_unfolding_all exact ⟨_, _, rfl, rfl, rfl⟩) (by kernel_rfl) rfl rfl (by rw [docL_len hcl hsl]; decide) (docL_0s (m' := tu)) ?_)); intro w7 hF7 hz7))
       go_meet
       rw [hst.out]
       exact ⟨TE, _, (fun _ h => h), hF7.tail, rfl, by decide⟩
      by_cases hx : tu = sIndex
      ·skip
       have hst := box (hrC.out hk4)
       have e1 : (tu == [97, 112, 112, 108, 105, 99, 97, 116, 105, 111, 110, 47, 118, 110, 100, 46, 111, 99, 105, 46, 105, 109, 97, 103, 101, 46, 105, 110, 100, 101, 120, 46, 118, 49, 43, 106, 115, 111, 110]) = true := by rw [beq_iff_eq]; exact hx
       have e2 : (tu != [97, 112, 112, 108, 105, 99, 97, 116, 105, 111, 110, 47, 118, 110, 100, 46, 111, 99, 105, 46, 105, 109, 97, 103, 101, 46, 105, 110, 100, 101, 120, 46, 118, 49, 43, 106, 115, 111, 110]) = false := by rw [bne, e1]; rfl
       have e3 : (tu == [97, 112, 112, 108, 105, 99, 97, 116, 105, 111, 110, 47, 118, 110, 100, 46, 111, 99, 105, 46, 105, 109, 97, 103, 101, 46, 109, 97, 110, 105, 102, 101, 115, 116, 46, 118, 49, 43, 106, 115, 111, 110]) = false := by rw [beq_eq_false_iff_ne]; exact hi
       have e4 : (tu != [97, 112, 112, 108, 105, 99, 97, 116, 105, 111, 110, 47, 118, 110, 100, 46, 111, 99, 105, 46, 105, 109, 97, 103, 101, 46, 109, 97, 110, 105, 102, 101, 115, 116, 46, 118, 49, 43, 106, 115, 111, 110]) = true := by rw [bne, e3]; rfl
       replace hi := box hi
       replace hx := box hx
       replace hk4 := box hk4
       go_wp2_with (first | (with_reducible refine lst (by with_unfolding_all rfl) (wp_fld0 hF5 Tryz.underlying9 rfl (by with_unfolding_all exact ⟨_, rfl, rfl⟩) rfl ?_)) | (with_reducible refine lst (by with_unfolding_all rfl) (wp_fld0 hF5 Tryz.underlying3 rfl (by with_unfolding_all exact ⟨_, rfl, rfl⟩) rfl ?_)) | ((with_reducible refine lst (by with_unfolding_all rfl) (wp_fst1 hF5 (by with_unfolding_all exact ⟨_, _, rfl, rfl, rfl⟩) (by kernel_rfl) rfl rfl (by rw [docL_len hcl hsl]; decide) (docL_0s (m' := tu)) ?_)); intro w7 hF7 hz7))
       go_meet
       rw [hst.out]
       exact ⟨TE, _, (fun _ h => h), hF7.tail, rfl, by decide⟩
      ·skip
       have hst := box (hrC.out hk4)
       have e3 : (tu == [97, 112, 112, 108, 105, 99, 97, 116, 105, 111, 110, 47, 118, 110, 100, 46, 111, 99, 105, 46, 105, 109, 97, 103, 101, 46, 109, 97, 110, 105, 102, 101, 115, 116, 46, 118, 49, 43, 106, 115, 111, 110]) = false := by rw [beq_eq_false_iff_ne]; exact hi
       have e4 : (tu != [97, 112, 112, 108, 105, 99, 97, 116, 105, 111, 110, 47, 118, 110, 100, 46, 111, 99, 105, 46, 105, 109, 97, 103, 101, 46, 109, 97, 110, 105, 102, 101, 115, 116, 46, 118, 49, 43, 106, 115, 111, 110]) = true := by rw [bne, e3]; rfl
       have e5 : (tu == [97, 112, 112, 108, 105, 99, 97, 116, 105, 111, 110, 47, 118, 110, 100, 46, 111, 99, 105, 46, 105, 109, 97, 103, 101, 46, 105, 110, 100, 101, 120, 46, 118, 49, 43, 106, 115, 111, 110]) = false := by rw [beq_eq_false_iff_ne]; exact hx
       have e6 : (tu != [97, 112, 112, 108, 105, 99, 97, 116, 105, 111, 110, 47, 118, 110, 100, 46, 111, 99, 105, 46, 105, 109, 97, 103, 101, 46, 105, 110, 100, 101, 120, 46, 118, 49, 43, 106, 115, 111, 110]) = true := by rw [bne, e5]; rfl
       replace hi := box hi
       replace hx := box hx
       replace hk4 := box hk4
       go_wp2_with (first | (with_reducible refine lst (by with_unfolding_all rfl) (wp_fld0 hF5 Tryz.underlying9 rfl (by with_unfolding_all exact ⟨_, rfl, rfl⟩) rfl ?_)) | (with_reducible refine lst (by with_unfolding_all rfl) (wp_fld0 hF5 Tryz.underlying3 rfl (by with_unfolding_all exact ⟨_, rfl, rfl⟩) rfl ?_)) | ((with_reducible refine lst (by with_unfolding_all rfl) (wp_fst1 hF5 (by with_unfolding_all exact ⟨_, _, rfl, rfl, rfl⟩) (by kernel_rfl) rfl rfl (by rw [docL_len hcl hsl]; decide) (docL_0s (m' := tu)) ?_)); intro w7 hF7 hz7))
       go_meet
       rw [hst.out]
       exact ⟨TE, _, (fun _ h => h), hF7.tail, rfl, by decide⟩
    have n1 : (s == [109, 101, 100, 105, 97, 84, 121, 112, 101]) = false := by rw [beq_eq_false_iff_ne]; exact h1
    by_cases h2 : s = kType
    ·skip
     have hst : Box (rStep d s (.mk ku nu tu nsu ksu) = match mMedia (.mk ku nu tu nsu ksu) with | .ok x => .ok { d with type := x } | .error e => .error e) := box (by rw [h2]; exact rS_type)
     have hsq : s = [97, 114, 116, 105, 102, 97, 99, 116, 84, 121, 112, 101] := h2
     subst hsq
     clear h0 h1 h2 n0 n1
     go_wp2_with (first | (with_reducible refine lst (by with_unfolding_all rfl) (wp_fldA0 hF5 Tryz.underlying51 rfl (by with_unfolding_all exact ⟨_, rfl, rfl⟩) (ds := (vlL ku nu ⟨tu.toArray⟩ (.slice Au au bu) (.slice Bu cu du))) (by rw [vlL_len]; kernel_rfl) (take_all _) ?_)))
     refine (rmedia_any _ _ _ _ (hvi.on hF5.below) hus).mono ?_
     rintro e w6 ⟨rfl, hb6⟩
     have hF6 := hF5.call hb6
     cases hm : mMedia (.mk ku nu tu nsu ksu) with
     | ok tt =>
      rw [hm] at hst
      have htt : tt = tu := mMedia_ok hm
      subst htt
      simp only [mCode]
      go_wp2_with (first | (with_reducible refine lst (by with_unfolding_all rfl) (wp_fld0 hF6 Tryz.underlying9 rfl (by with_unfolding_all exact ⟨_, rfl, rfl⟩) rfl ?_)) | ((with_reducible refine lst (by with_unfolding_all rfl) (wp_fst1 hF6 (by with_unfolding_all exact ⟨_, _, rfl, rfl, rfl⟩) (by kernel_rfl) rfl rfl (by rw [docL_len hcl hsl]; decide) (docL_1s (t' := tt)) ?_)); intro w7 hF7 hz7))
      go_meet
      rw [hst.out]
      exact ⟨TE, _, (fun _ h => h), hF7.tail, rfl, ⟨cf, eg, sj, nt, hC, hE, hS, hN, rfl⟩⟩
     | error ee =>
      have hne := mMedia_ne hm
      rw [hm] at hst
      simp only [mCode]
      go_wp2_with (first | (with_reducible refine lst (by with_unfolding_all rfl) (wp_fld0 hF6 Tryz.underlying9 rfl (by with_unfolding_all exact ⟨_, rfl, rfl⟩) rfl ?_)) | ((with_reducible refine lst (by with_unfolding_all rfl) (wp_fst1 hF6 (by with_unfolding_all exact ⟨_, _, rfl, rfl, rfl⟩) (by kernel_rfl) rfl rfl (by rw [docL_len hcl hsl]; decide) (docL_1s (t' := tu)) ?_)); intro w7 hF7 hz7))
      go_meet
      rw [hst.out]
      exact ⟨TE, _, (fun _ h => h), hF7.tail, rfl, hne⟩
    have n2 : (s == [97, 114, 116, 105, 102, 97, 99, 116, 84, 121, 112, 101]) = false := by rw [beq_eq_false_iff_ne]; exact h2
    by_cases h3 : s = kConfig
    ·skip
     have hst : Box (rStep d s (.mk ku nu tu nsu ksu) = match mDesc (.mk ku nu tu nsu ksu) with | .ok x => .ok { d with config := x } | .error e => .error e) := box (by rw [h3]; exact rS_config)
     have hsq : s = [99, 111, 110, 102, 105, 103] := h3
     subst hsq
     clear h0 h1 h2 h3 n0 n1 n2
     go_wp2_with (first | (with_reducible refine lst (by with_unfolding_all rfl) (wp_fldA0 hF5 Tryz.underlying51 rfl (by with_unfolding_all exact ⟨_, rfl, rfl⟩) (ds := (vlL ku nu ⟨tu.toArray⟩ (.slice Au au bu) (.slice Bu cu du))) (by rw [vlL_len]; kernel_rfl) (take_all _) ?_)))
     refine (rdesc_any _ _ _ (hvi.on hF5.below) hub.out).mono ?_
     rintro e w6 ⟨c2, es2, rfl, hvd, hn6⟩
     have hF6 := hF5.joinR hn6
     simp only [List.cons_append] at hF6
     have hd2 := box hvd.len
     have hdo := box hvd.ones
     cases hm : mDesc (.mk ku nu tu nsu ksu) with
     | ok x =>
      rw [hm] at hst hvd
      simp only [mCode]
      go_wp2_with (first | ((with_reducible refine lst (by with_unfolding_all rfl) (wp_fstA1 hF6 (by with_unfolding_all exact ⟨_, _, rfl, rfl, rfl⟩) (by rw [hd2.out]; kernel_rfl) hdo.out (by rw [hd2.out, docL_len hcl hsl]; decide) (docL_2 (by rw [hd2.out, hcl])) ?_)); intro w7 hF7 hz7))
      go_meet
      rw [hst.out]
      exact ⟨TE ++ es2, _, (fun _ h => List.mem_append_left _ h), hF7.tail, rfl, ⟨c2, eg, sj, nt, hvd.mono (fun _ h => List.mem_append_right _ h), hE.mono (fun _ h => List.mem_append_left _ h), hS.mono (fun _ h => List.mem_append_left _ h), hN.mono (fun _ h => List.mem_append_left _ h), rfl⟩⟩
     | error ee =>
      have hne := mDesc_ne hm
      rw [hm] at hst hvd
      simp only [mCode]
      go_wp2_with (first | ((with_reducible refine lst (by with_unfolding_all rfl) (wp_fstA1 hF6 (by with_unfolding_all exact ⟨_, _, rfl, rfl, rfl⟩) (by rw [hd2.out]; kernel_rfl) hdo.out (by rw [hd2.out, docL_len hcl hsl]; decide) (docL_2 (by rw [hd2.out, hcl])) ?_)); intro w7 hF7 hz7))
      go_meet
      rw [hst.out]
      exact ⟨TE ++ es2, _, (fun _ h => List.mem_append_left _ h), hF7.tail, rfl, hne⟩
    have n3 : (s == [99, 111, 110, 102, 105, 103]) = false := by rw [beq_eq_false_iff_ne]; exact h3
    by_cases h4 : s = kLayers
    ·skip
     have hst : Box (rStep d s (.mk ku nu tu nsu ksu) = match mEdges (.mk ku nu tu nsu ksu) with | .ok x => .ok { d with edges := x } | .error e => .error e) := box (by rw [h4]; exact rS_layers)
     have hsq : s = [108, 97, 121, 101, 114, 115] := h4
     subst hsq
     clear h0 h1 h2 h3 h4 n0 n1 n2 n3
     go_wp2_with (first | (with_reducible refine lst (by with_unfolding_all rfl) (wp_fldA0 hF5 Tryz.underlying51 rfl (by with_unfolding_all exact ⟨_, rfl, rfl⟩) (ds := (vlL ku nu ⟨tu.toArray⟩ (.slice Au au bu) (.slice Bu cu du))) (by rw [vlL_len]; kernel_rfl) (take_all _) ?_)))
     refine (redges_any _ _ _ (hvi.on hF5.below) hub.out).mono ?_
     rintro e w6 ⟨e2, es2, rfl, hvd, hn6⟩
     have hF6 := hF5.joinR hn6
     simp only [List.cons_append] at hF6
     obtain ⟨A2, l2, k2, z2, hk2, hl2, rfl, hT2, hm2⟩ := hvd
     cases hm : mEdges (.mk ku nu tu nsu ksu) with
     | ok x =>
      rw [hm] at hst hl2 hT2
      replace hl2 := box hl2
      simp only [mCode]
      go_wp2_with (first | ((with_reducible refine lst (by with_unfolding_all rfl) (wp_fst1 hF6 (by with_unfolding_all exact ⟨_, _, rfl, rfl, rfl⟩) (by kernel_rfl) rfl rfl (by rw [docL_len hcl hsl]; decide) (docL_37 (eg' := .slice A2 l2 k2) hcl) ?_)); intro w7 hF7 hz7))
      go_meet
      rw [hst.out]
      exact ⟨TE ++ es2, _, (fun _ h => List.mem_append_left _ h), hF7.tail, rfl, ⟨cf, _, sj, nt, hC.mono (fun _ h => List.mem_append_left _ h), ⟨A2, l2, k2, z2, hk2, hl2.out, rfl, hT2.mono (fun _ h => List.mem_append_right _ h), hm2.imp id (List.mem_append_right _)⟩, hS.mono (fun _ h => List.mem_append_left _ h), hN.mono (fun _ h => List.mem_append_left _ h), rfl⟩⟩
     | error ee =>
      have hne := mEdges_ne hm
      rw [hm] at hst hl2 hT2
      replace hl2 := box hl2
      simp only [mCode]
      go_wp2_with (first | ((with_reducible refine lst (by with_unfolding_all rfl) (wp_fst1 hF6 (by with_unfolding_all exact ⟨_, _, rfl, rfl, rfl⟩) (by kernel_rfl) rfl rfl (by rw [docL_len hcl hsl]; decide) (docL_37 (eg' := .slice A2 l2 k2) hcl) ?_)); intro w7 hF7 hz7))
      go_meet
      rw [hst.out]
      exact ⟨TE ++ es2, _, (fun _ h => List.mem_append_left _ h), hF7.tail, rfl, hne⟩
    have n4 : (s == [108, 97, 121, 101, 114, 115]) = false := by rw [beq_eq_false_iff_ne]; exact h4
    by_cases h5 : s = kManifests
    ·skip
     have hst : Box (rStep d s (.mk ku nu tu nsu ksu) = match mEdges (.mk ku nu tu nsu ksu) with | .ok x => .ok { d with edges := x } | .error e => .error e) := box (by rw [h5]; exact rS_manifests)
     have hsq : s = [109, 97, 110, 105, 102, 101, 115, 116, 115] := h5
     subst hsq
     clear h0 h1 h2 h3 h4 h5 n0 n1 n2 n3 n4
     go_wp2_with (first | (with_reducible refine lst (by with_unfolding_all rfl) (wp_fldA0 hF5 Tryz.underlying51 rfl (by with_unfolding_all exact ⟨_, rfl, rfl⟩) (ds := (vlL ku nu ⟨tu.toArray⟩ (.slice Au au bu) (.slice Bu cu du))) (by rw [vlL_len]; kernel_rfl) (take_all _) ?_)))
     refine (redges_any _ _ _ (hvi.on hF5.below) hub.out).mono ?_
     rintro e w6 ⟨e2, es2, rfl, hvd, hn6⟩
     have hF6 := hF5.joinR hn6
     simp only [List.cons_append] at hF6
     obtain ⟨A2, l2, k2, z2, hk2, hl2, rfl, hT2, hm2⟩ := hvd
     cases hm : mEdges (.mk ku nu tu nsu ksu) with
     | ok x =>
      rw [hm] at hst hl2 hT2
      replace hl2 := box hl2
      simp only [mCode]
      go_wp2_with (first | ((with_reducible refine lst (by with_unfolding_all rfl) (wp_fst1 hF6 (by with_unfolding_all exact ⟨_, _, rfl, rfl, rfl⟩) (by kernel_rfl) rfl rfl (by rw [docL_len hcl hsl]; decide) (docL_37 (eg' := .slice A2 l2 k2) hcl) ?_)); intro w7 hF7 hz7))
      go_meet
      rw [hst.out]
      exact ⟨TE ++ es2, _, (fun _ h => List.mem_append_left _ h), hF7.tail, rfl, ⟨cf, _, sj, nt, hC.mono (fun _ h => List.mem_append_left _ h), ⟨A2, l2, k2, z2, hk2, hl2.out, rfl, hT2.mono (fun _ h => List.mem_append_right _ h), hm2.imp id (List.mem_append_right _)⟩, hS.mono (fun _ h => List.mem_append_left _ h), hN.mono (fun _ h => List.mem_append_left _ h), rfl⟩⟩
     | error ee =>
      have hne := mEdges_ne hm
      rw [hm] at hst hl2 hT2
      replace hl2 := box hl2
      simp only [mCode]
      go_wp2_with (first | ((with_reducible refine lst (by with_unfolding_all rfl) (wp_fst1 hF6 (by with_unfolding_all exact ⟨_, _, rfl, rfl, rfl⟩) (by kernel_rfl) rfl rfl (by rw [docL_len hcl hsl]; decide) (docL_37 (eg' := .slice A2 l2 k2) hcl) ?_)); intro w7 hF7 hz7))
      go_meet
      rw [hst.out]
      exact ⟨TE ++ es2, _, (fun _ h => List.mem_append_left _ h), hF7.tail, rfl, hne⟩
    have n5 : (s == [109, 97, 110, 105, 102, 101, 115, 116, 115]) = false := by rw [beq_eq_false_iff_ne]; exact h5
    by_cases h6 : s = kSubject
    ·skip
     have hst : Box (rStep d s (.mk ku nu tu nsu ksu) = match mDesc (.mk ku nu tu nsu ksu) with | .ok x => .ok { d with subject := x, has := true } | .error e => .error e) := box (by rw [h6]; exact rS_subject)
     have hsq : s = [115, 117, 98, 106, 101, 99, 116] := h6
     subst hsq
     clear h0 h1 h2 h3 h4 h5 h6 n0 n1 n2 n3 n4 n5
     go_wp2_with (first | (with_reducible refine lst (by with_unfolding_all rfl) (wp_fldA0 hF5 Tryz.underlying51 rfl (by with_unfolding_all exact ⟨_, rfl, rfl⟩) (ds := (vlL ku nu ⟨tu.toArray⟩ (.slice Au au bu) (.slice Bu cu du))) (by rw [vlL_len]; kernel_rfl) (take_all _) ?_)))
     refine (rdesc_any _ _ _ (hvi.on hF5.below) hub.out).mono ?_
     rintro e w6 ⟨c2, es2, rfl, hvd, hn6⟩
     have hF6 := hF5.joinR hn6
     simp only [List.cons_append] at hF6
     have hd2 := box hvd.len
     have hdo := box hvd.ones
     cases hm : mDesc (.mk ku nu tu nsu ksu) with
     | ok x =>
      rw [hm] at hst hvd
      simp only [mCode]
      go_wp2_with (first | ((with_reducible refine lst (by with_unfolding_all rfl) (wp_fstA1 hF6 (by with_unfolding_all exact ⟨_, _, rfl, rfl, rfl⟩) (by rw [hd2.out]; kernel_rfl) hdo.out (by rw [hd2.out, docL_len hcl hsl]; decide) (docL_38 hcl (by rw [hd2.out, hsl])) ?_)); intro w7 hF7 hz7) | ((with_reducible refine lst (by with_unfolding_all rfl) (wp_fst1 hF7 (by with_unfolding_all exact ⟨_, _, rfl, rfl, rfl⟩) (by kernel_rfl) rfl rfl (by rw [docL_len hcl hd2.out]; decide) (docL_73 (has' := true) hcl hd2.out) ?_)); intro w8 hF8 hz8))
      go_meet
      rw [hst.out]
      exact ⟨TE ++ es2, _, (fun _ h => List.mem_append_left _ h), hF8.tail, rfl, ⟨cf, eg, c2, nt, hC.mono (fun _ h => List.mem_append_left _ h), hE.mono (fun _ h => List.mem_append_left _ h), hvd.mono (fun _ h => List.mem_append_right _ h), hN.mono (fun _ h => List.mem_append_left _ h), rfl⟩⟩
     | error ee =>
      have hne := mDesc_ne hm
      rw [hm] at hst hvd
      simp only [mCode]
      go_wp2_with (first | ((with_reducible refine lst (by with_unfolding_all rfl) (wp_fstA1 hF6 (by with_unfolding_all exact ⟨_, _, rfl, rfl, rfl⟩) (by rw [hd2.out]; kernel_rfl) hdo.out (by rw [hd2.out, docL_len hcl hsl]; decide) (docL_38 hcl (by rw [hd2.out, hsl])) ?_)); intro w7 hF7 hz7) | ((with_reducible refine lst (by with_unfolding_all rfl) (wp_fst1 hF7 (by with_unfolding_all exact ⟨_, _, rfl, rfl, rfl⟩) (by kernel_rfl) rfl rfl (by rw [docL_len hcl hd2.out]; decide) (docL_73 (has' := true) hcl hd2.out) ?_)); intro w8 hF8 hz8))
      go_meet
      rw [hst.out]
      exact ⟨TE ++ es2, _, (fun _ h => List.mem_append_left _ h), hF8.tail, rfl, hne⟩
    have n6 : (s == [115, 117, 98, 106, 101, 99, 116]) = false := by rw [beq_eq_false_iff_ne]; exact h6
    by_cases h7 : s = kNotes
    ·skip
     have hst : Box (rStep d s (.mk ku nu tu nsu ksu) = match mNotes (.mk ku nu tu nsu ksu) with | .ok x => .ok { d with notes := x } | .error e => .error e) := box (by rw [h7]; exact rS_notes)
     have hsq : s = [97, 110, 110, 111, 116, 97, 116, 105, 111, 110, 115] := h7
     subst hsq
     clear h0 h1 h2 h3 h4 h5 h6 h7 n0 n1 n2 n3 n4 n5 n6
     go_wp2_with (first | (with_reducible refine lst (by with_unfolding_all rfl) (wp_fldA0 hF5 Tryz.underlying51 rfl (by with_unfolding_all exact ⟨_, rfl, rfl⟩) (ds := (vlL ku nu ⟨tu.toArray⟩ (.slice Au au bu) (.slice Bu cu du))) (by rw [vlL_len]; kernel_rfl) (take_all _) ?_)))
     refine (rnotes_any _ _ _ (hvi.on hF5.below) hub.out).mono ?_
     rintro e w6 ⟨e2, es2, rfl, hvd, hn6⟩
     have hF6 := hF5.joinR hn6
     simp only [List.cons_append] at hF6
     obtain ⟨A2, l2, k2, hk2, hl2, rfl, hm2⟩ := hvd
     cases hm : mNotes (.mk ku nu tu nsu ksu) with
     | ok x =>
      rw [hm] at hst hl2 hm2
      replace hl2 := box hl2
      simp only [mCode]
      go_wp2_with (first | ((with_reducible refine lst (by with_unfolding_all rfl) (wp_fst1 hF6 (by with_unfolding_all exact ⟨_, _, rfl, rfl, rfl⟩) (by kernel_rfl) rfl rfl (by rw [docL_len hcl hsl]; decide) (docL_74 (nt' := .slice A2 l2 k2) hcl hsl) ?_)); intro w7 hF7 hz7))
      go_meet
      rw [hst.out]
      exact ⟨TE ++ es2, _, (fun _ h => List.mem_append_left _ h), hF7.tail, rfl, ⟨cf, eg, sj, _, hC.mono (fun _ h => List.mem_append_left _ h), hE.mono (fun _ h => List.mem_append_left _ h), hS.mono (fun _ h => List.mem_append_left _ h), ⟨A2, l2, k2, hk2, hl2.out, rfl, hm2.imp id (List.mem_append_right _)⟩, rfl⟩⟩
     | error ee =>
      have hne := mNotes_ne hm
      rw [hm] at hst hl2 hm2
      replace hl2 := box hl2
      simp only [mCode]
      go_wp2_with (first | ((with_reducible refine lst (by with_unfolding_all rfl) (wp_fst1 hF6 (by with_unfolding_all exact ⟨_, _, rfl, rfl, rfl⟩) (by kernel_rfl) rfl rfl (by rw [docL_len hcl hsl]; decide) (docL_74 (nt' := .slice A2 l2 k2) hcl hsl) ?_)); intro w7 hF7 hz7))
      go_meet
      rw [hst.out]
      exact ⟨TE ++ es2, _, (fun _ h => List.mem_append_left _ h), hF7.tail, rfl, hne⟩
    have n7 : (s == [97, 110, 110, 111, 116, 97, 116, 105, 111, 110, 115]) = false := by rw [beq_eq_false_iff_ne]; exact h7
    have hst : Box (rStep d s (.mk ku nu tu nsu ksu) = .error 80) := box (rS_else h0 h1 h2 h3 h4 h5 h6 h7)
    clear h0 h1 h2 h3 h4 h5 h6 h7
    go_wp2_with fail
    go_meet
    rw [hst.out]
    exact ⟨TE, _, (fun _ h => h), hF5.tail, rfl, by decide⟩
   case rest =>
    obtain ⟨TE', cd', hTE, hF6, hc⟩ := hcut
    cases hm : rStep d s (.mk ku nu tu nsu ksu) with
    | error e =>
     rw [hm] at hc hstep
     obtain ⟨rfl, hne⟩ := hc
     have hnq : ((e : Int) != 0) = true := by rw [bne_iff_ne]; omega
     have hJe := hJR.out
     rw [hstep.out] at hJe
     simp only [] at hJe
     replace hJe := box hJe
     replace hne := box hne
     clear hm hF hF22 hF5
     go_wp2_with (first | (with_reducible refine lst (by with_unfolding_all rfl) (wp_fbuild Tryz.underlying40 (z := .agg (List.toArray doc0)) (by kernel_rfl) (pl := docP) (by kernel_rfl) (cs := doc0) rfl (vs := []) (by with_unfolding_all rfl) (by with_unfolding_all rfl) ?_)) | ((with_reducible refine lst (by with_unfolding_all rfl) (wp_fstA1 hF6 (by with_unfolding_all exact ⟨_, _, rfl, rfl, rfl⟩) (by rw [doc0_len]; kernel_rfl) doc0_one (Nat.le_of_eq (Nat.zero_add _)) (spl_all rfl) ?_)); intro w7 hF7 hz7))
     exact bodyPost_ret (results_cellF2 rfl _ hF7 (i := 1) rfl rfl Tryz.underlying40 rfl (by rw [doc0_len]; kernel_rfl)) rfl (by
      unfold MPs
      rw [hJe.out]
      exact ⟨_, _, rfl, VDoc.zero, hF7.tail.tail.tail⟩)
    | ok d' =>
     rw [hm] at hc hstep
     simp only [] at hc hstep
     obtain ⟨rfl, hD'⟩ := hc
     clear hm hF hF22 hF5
     replace hD' := box hD'
     go_wp2_with fail
     go_roundg (nn - (i + 1))
     case rel => exact ⟨i + 1, d', cd', TE', by omega, box rfl, by go_num, hD', hstep, hF6⟩
     case measure => have := hkk.out; omega
  ·have hend := hJ.out.trans (rReadL_end (by rw [← hnk.out]; omega))
   obtain rfl : nn = i := by omega
   have hJd := hJR.out
   rw [hend] at hJd
   simp only [] at hJd
   have hgood := box (fun (h : ∀ j, j < 5 → decide (rMem j ∈ ns) = rWant (decide (d.media = sImage)) j) => hJd.trans (if_pos ((rWhole_want d ns).2 h)))
   have hbad0 := box (fun (h : ¬ ∀ j, j < 5 → decide (rMem j ∈ ns) = rWant (decide (d.media = sImage)) j) => hJd.trans (if_neg (fun h2 => h ((rWhole_want d ns).1 h2))))
   clear hJd hend hJ hJR hrk' hrk hvk hkob
   have hwds : Box (rWords = rWords) := box rfl
   have hne0 := box doc0_len
   have him : (d.media == [97, 112, 112, 108, 105, 99, 97, 116, 105, 111, 110, 47, 118, 110, 100, 46, 111, 99, 105, 46, 105, 109, 97, 103, 101, 46, 109, 97, 110, 105, 102, 101, 115, 116, 46, 118, 49, 43, 106, 115, 111, 110]) = decide (d.media = sImage) := by
    by_cases h : d.media = sImage
    ·rw [decide_eq_true h, beq_iff_eq]; exact h
    ·rw [decide_eq_false h, beq_eq_false_iff_ne]; exact h
   go_wp2_with (first | (with_reducible refine lst (by with_unfolding_all rfl) (wp_fld2 hF Tryz.underlying49 rfl (by with_unfolding_all exact ⟨_, rfl, rfl⟩) rfl ?_)) | (with_reducible refine lst (by with_unfolding_all rfl) (wp_fld0 hF Tryz.underlying9 rfl (by with_unfolding_all exact ⟨_, rfl, rfl⟩) docL_m0 ?_)) | ((with_reducible refine lst (by with_unfolding_all rfl) (wp_fbsl T_strs hF (vs := [.string ⟨[115, 99, 104, 101, 109, 97, 86, 101, 114, 115, 105, 111, 110].toArray⟩, .string ⟨[109, 101, 100, 105, 97, 84, 121, 112, 101].toArray⟩, .string ⟨[99, 111, 110, 102, 105, 103].toArray⟩, .string ⟨[108, 97, 121, 101, 114, 115].toArray⟩, .string ⟨[109, 97, 110, 105, 102, 101, 115, 116, 115].toArray⟩]) (by with_unfolding_all rfl) (by with_unfolding_all rfl) (by with_unfolding_all rfl) (by decide) (by simp [Value.cells]) ?_)); intro w60 g60 hF60 hz60))
   (try rw [him])
   clear him hF
   cases him' : decide (d.media = sImage) with
   | true =>
    have him := box him'
    clear him'
    go_loopg [10] 5 (fun g iv wr => ∃ i : Nat, i ≤ 5 ∧ Box (g = 5 - i) ∧ iv = .int .i64 (i : Int) ∧ Box (∀ j, j < i → decide (rMem j ∈ ns) = rWant (decide (d.media = sImage)) j) ∧ Fr [] w wr (.own w.heap.size 9 1 (.slice (some ⟨g60, 0, none⟩) 5 5) 5 rWords :: .blk g3 40 (docL d.media d.type cf eg sj d.has nt) :: .blk g2 40 doc0 :: .blk g1 51 (vlL k n ⟨t.toArray⟩ (.slice An nn cn) (.slice Ak nn ck)) :: TE))
    case atStart => exact ⟨0, by omega, box rfl, rfl, box (fun j hj => absurd hj (by omega)), hF60⟩
    case round =>
     clear hF60
     obtain ⟨i, hi5, hgi5, rfl, hwant, hF⟩ := hrel
     have hkk5 : Box (_ = 5 - i) := hgi5
     clear hgi5
     by_cases hlt5 : i < 5
     ·have hfd := box (fun (w' : World) (hb : Below w.heap.size w w') => hfd0.out (rMem i) w' hb)
      have hfw := box (hfh.out (rMem i))
      have hwi := box (rWords_at hlt5)
      have hstep2 := box (fun (h : ¬ decide (rMem i ∈ ns) = rWant (decide (d.media = sImage)) i) => hbad0.out (fun h2 => h (h2 i hlt5)))
      have hstep : decide (rMem i ∈ ns) = rWant (decide (d.media = sImage)) i → ∀ j, j < i + 1 → decide (rMem j ∈ ns) = rWant (decide (d.media = sImage)) j := fun h j hj => by
       by_cases hji : j = i
       ·rw [hji]; exact h
       ·exact hwant.out j (by omega)
      go_upto_region 40 with fail
      have hFd := hF.drew
      clear hF
      refine wp_region_held (S := fun w' => w'.heap[g1]? = some (.cells (List.toArray (vlL k n ⟨t.toArray⟩ (.slice An nn cn) (.slice Ak nn ck))) 51 (0, 0)) ∧ w'.heap[g2]? = some (.cells (List.toArray doc0) 40 (0, 0)) ∧ w'.heap[g3]? = some (.cells (List.toArray (docL d.media d.type cf eg sj d.has nt)) 40 (0, 0)) ∧ Rd w' (fun _ => True) (some ⟨g60, 0, none⟩) 1 5 rWords) (by kernel_rfl) ?_
      change wpAnyH _ _ _ _ _ _ _ _ (World.drew _)
      refine tky 0 (y := yi_fldA (by with_unfolding_all rfl) (fun _ h => h.1) Tryz.underlying51 rfl (by with_unfolding_all exact ⟨_, rfl, rfl⟩) (ds := (vlL k n ⟨t.toArray⟩ (.slice An nn cn) (.slice Ak nn ck))) (by rw [vlL_len]; kernel_rfl) (take_all _)) (s := ⟨hFd.blk (i := 3) rfl, hFd.blk (i := 2) rfl, hFd.blk (i := 1) rfl, (hFd.rdOwn (i := 0) rfl).mono (fun _ _ => trivial)⟩) (h := ?_)
      (try simp only [Act.put, List.setIfInBounds_toArray, List.set_cons_zero, List.set_cons_succ])
      refine tkp 1 ⟨hFd.blk (i := 3) rfl, hFd.blk (i := 2) rfl, hFd.blk (i := 1) rfl, (hFd.rdOwn (i := 0) rfl).mono (fun _ _ => trivial)⟩ ?_
      (try simp only [Act.put, List.setIfInBounds_toArray, List.set_cons_zero, List.set_cons_succ])
      refine tkp 2 ⟨hFd.blk (i := 3) rfl, hFd.blk (i := 2) rfl, hFd.blk (i := 1) rfl, (hFd.rdOwn (i := 0) rfl).mono (fun _ _ => trivial)⟩ ?_
      (try simp only [Act.put, List.setIfInBounds_toArray, List.set_cons_zero, List.set_cons_succ])
      refine tky 3 (y := yi_ix (by with_unfolding_all rfl) T_strs (fun _ => rfl) (A := some ⟨g60, 0, none⟩) (n := 5) (k := i) (by with_unfolding_all exact ⟨_, _, _, _, rfl, rfl, rfl⟩) rfl (by omega)) (s := ⟨hFd.blk (i := 3) rfl, hFd.blk (i := 2) rfl, hFd.blk (i := 1) rfl, (hFd.rdOwn (i := 0) rfl).mono (fun _ _ => trivial)⟩) (h := ?_)
      (try simp only [Act.put, List.setIfInBounds_toArray, List.set_cons_zero, List.set_cons_succ])
      refine tky 4 (y := yi_ld (by with_unfolding_all rfl) (S' := fun _ _ => True) (j := i * 1) (fun _ h => h.2.2.2) Tryz.underlying9 rfl (by with_unfolding_all exact ⟨_, rfl, rfl⟩) (by rw [Nat.mul_one]; exact hwi.out)) (s := ⟨hFd.blk (i := 3) rfl, hFd.blk (i := 2) rfl, hFd.blk (i := 1) rfl, (hFd.rdOwn (i := 0) rfl).mono (fun _ _ => trivial)⟩) (h := ?_)
      (try simp only [Act.put, List.setIfInBounds_toArray, List.set_cons_zero, List.set_cons_succ])
      refine wpAnyH_ready (rs := [5, 9]) (by kernel_rfl) (by simp) ?_
      refine AllReadyH.cons (by simp only [List.getElem?_toArray, List.getElem?_cons_zero, List.getElem?_cons_succ]; rfl) (fun K hK => ?_) ?_
      ·refine stp (by with_unfolding_all rfl) (wp_call Tryz.func45 rfl (by with_unfolding_all rfl) (by with_unfolding_all rfl) (by with_unfolding_all rfl) (hfd.out _ hFd.below) ?_)
       rintro e w81 ⟨cs81, rfl, hvd81, hb81⟩
       refine ⟨_, rfl, ?_⟩
       have hF81 := hFd.call hb81
       refine hK.out _ _ (⟨hF81.blk (i := 3) rfl, hF81.blk (i := 2) rfl, hF81.blk (i := 1) rfl, (hF81.rdOwn (i := 0) rfl).mono (fun _ _ => trivial)⟩) (fun _ => ?_)
       clear hK K
       (try simp only [Act.put, List.setIfInBounds_toArray, List.set_cons_zero, List.set_cons_succ])
       refine tkp 6 ⟨hF81.blk (i := 3) rfl, hF81.blk (i := 2) rfl, hF81.blk (i := 1) rfl, (hF81.rdOwn (i := 0) rfl).mono (fun _ _ => trivial)⟩ ?_
       (try simp only [Act.put, List.setIfInBounds_toArray, List.set_cons_zero, List.set_cons_succ])
       refine tkp 7 ⟨hF81.blk (i := 3) rfl, hF81.blk (i := 2) rfl, hF81.blk (i := 1) rfl, (hF81.rdOwn (i := 0) rfl).mono (fun _ _ => trivial)⟩ ?_
       (try simp only [Act.put, List.setIfInBounds_toArray, List.set_cons_zero, List.set_cons_succ])
       refine tkp 8 ⟨hF81.blk (i := 3) rfl, hF81.blk (i := 2) rfl, hF81.blk (i := 1) rfl, (hF81.rdOwn (i := 0) rfl).mono (fun _ _ => trivial)⟩ ?_
       (try simp only [Act.put, List.setIfInBounds_toArray, List.set_cons_zero, List.set_cons_succ])
       refine rdy1 9 (fun K hK => ?_)
       refine stp (by with_unfolding_all rfl) (wp_falloc hF81 (cs := vl0) (z := .agg (List.toArray (vl0))) rfl (by kernel_rfl) (by with_unfolding_all rfl) ?_)
       intro w82 g82 hF82 hz82
       refine hK.out _ _ (⟨hF82.blk (i := 4) rfl, hF82.blk (i := 3) rfl, hF82.blk (i := 2) rfl, (hF82.rdOwn (i := 1) rfl).mono (fun _ _ => trivial)⟩) (fun _ => ?_)
       clear hK K
       (try simp only [Act.put, List.setIfInBounds_toArray, List.set_cons_zero, List.set_cons_succ])
       refine rdy1 10 (fun K hK => ?_)
       have hql := box hvd81.len
       have hqo := box (VRd.ones hvd81)
       refine stp (by with_unfolding_all rfl) (wp_fstA hF82 (i := 0) rfl (ds := cs81) (by with_unfolding_all exact ⟨_, _, rfl, rfl, rfl⟩) (by rw [hql.out]; kernel_rfl) hqo.out (by rw [hql.out, vlL_len]; decide) ?_)
       intro w83 hF83 hz83
       (try simp only [List.set_cons_zero, List.set_cons_succ] at hF83)
       refine hK.out _ _ (⟨hF83.blk (i := 4) rfl, hF83.blk (i := 3) rfl, hF83.blk (i := 2) rfl, (hF83.rdOwn (i := 1) rfl).mono (fun _ _ => trivial)⟩) (fun _ => ?_)
       clear hK K
       (try simp only [Act.put, List.setIfInBounds_toArray, List.set_cons_zero, List.set_cons_succ])
       refine tkp 11 ⟨hF83.blk (i := 4) rfl, hF83.blk (i := 3) rfl, hF83.blk (i := 2) rfl, (hF83.rdOwn (i := 1) rfl).mono (fun _ _ => trivial)⟩ ?_
       (try simp only [Act.put, List.setIfInBounds_toArray, List.set_cons_zero])
       refine wpAnyH_done (by kernel_rfl) ?_ _
       replace hql := box hql
       clear hvd81 hql hqo
       rw [hfw.out]
       by_cases hi2 : i < 2
       ·skip
        have hwv : rWant true i = true := by unfold rWant; rw [decide_eq_true hi2]; rfl
        have f1 : decide ((i : Int) < 2) = true := decide_eq_true (by omega)
        cases hh : decide (rMem i ∈ ns) with
        | true =>
         have hstep' := box (hstep (by rw [hh, him.out, hwv]))
         clear hstep hstep2 hh hwv
         go_wp2_with fail
         go_roundg (5 - (i + 1))
         case rel => exact ⟨i + 1, by omega, box rfl, by go_num, hstep', hF83.tail⟩
         case measure => have := hkk5.out; omega
        | false =>
         have hbad := box (hstep2.out (by rw [hh, him.out, hwv]; decide))
         clear hstep hstep2 hh hwv
         go_wp2_with (first | (with_reducible refine lst (by with_unfolding_all rfl) (wp_fbuild Tryz.underlying40 (z := .agg (List.toArray doc0)) (by kernel_rfl) (pl := docP) (by kernel_rfl) (cs := doc0) rfl (vs := []) (by with_unfolding_all rfl) (by with_unfolding_all rfl) ?_)) | ((with_reducible refine lst (by with_unfolding_all rfl) (wp_fstA3 hF83 (by with_unfolding_all exact ⟨_, _, rfl, rfl, rfl⟩) (by rw [doc0_len]; kernel_rfl) doc0_one (Nat.le_of_eq (Nat.zero_add _)) (spl_all rfl) ?_)); intro w70 hF70 hz70))
         exact bodyPost_ret (results_cellF2 rfl _ hF70 (i := 3) rfl rfl Tryz.underlying40 rfl (by rw [doc0_len]; kernel_rfl)) rfl (by
          unfold MPs
          rw [hbad.out]
          exact ⟨_, _, rfl, VDoc.zero, hF70.tail.tail.tail.tail.tail⟩)
       by_cases hi4 : i < 4
       ·skip
        have hwv : rWant true i = true := by unfold rWant; rw [decide_eq_false hi2, decide_eq_true hi4, decide_eq_false (show ¬ i = 4 by omega)]; rfl
        have f1 : decide ((i : Int) < 2) = false := decide_eq_false (by omega)
        have f2 : decide ((i : Int) < 4) = true := decide_eq_true (by omega)
        have f3 : ((i : Int) == 4) = false := by rw [beq_eq_false_iff_ne]; omega
        cases hh : decide (rMem i ∈ ns) with
        | true =>
         have hstep' := box (hstep (by rw [hh, him.out, hwv]))
         clear hstep hstep2 hh hwv
         go_wp2_with fail
         go_roundg (5 - (i + 1))
         case rel => exact ⟨i + 1, by omega, box rfl, by go_num, hstep', hF83.tail⟩
         case measure => have := hkk5.out; omega
        | false =>
         have hbad := box (hstep2.out (by rw [hh, him.out, hwv]; decide))
         clear hstep hstep2 hh hwv
         go_wp2_with (first | (with_reducible refine lst (by with_unfolding_all rfl) (wp_fbuild Tryz.underlying40 (z := .agg (List.toArray doc0)) (by kernel_rfl) (pl := docP) (by kernel_rfl) (cs := doc0) rfl (vs := []) (by with_unfolding_all rfl) (by with_unfolding_all rfl) ?_)) | ((with_reducible refine lst (by with_unfolding_all rfl) (wp_fstA3 hF83 (by with_unfolding_all exact ⟨_, _, rfl, rfl, rfl⟩) (by rw [doc0_len]; kernel_rfl) doc0_one (Nat.le_of_eq (Nat.zero_add _)) (spl_all rfl) ?_)); intro w70 hF70 hz70))
         exact bodyPost_ret (results_cellF2 rfl _ hF70 (i := 3) rfl rfl Tryz.underlying40 rfl (by rw [doc0_len]; kernel_rfl)) rfl (by
          unfold MPs
          rw [hbad.out]
          exact ⟨_, _, rfl, VDoc.zero, hF70.tail.tail.tail.tail.tail⟩)
       ·skip
        have hwv : rWant true i = false := by unfold rWant; rw [decide_eq_false hi2, decide_eq_false hi4, decide_eq_true (show i = 4 by omega)]; rfl
        have f1 : decide ((i : Int) < 2) = false := decide_eq_false (by omega)
        have f2 : decide ((i : Int) < 4) = false := decide_eq_false (by omega)
        have f3 : ((i : Int) == 4) = true := by rw [beq_iff_eq]; omega
        cases hh : decide (rMem i ∈ ns) with
        | true =>
         have hbad := box (hstep2.out (by rw [hh, him.out, hwv]; decide))
         clear hstep hstep2 hh hwv
         go_wp2_with (first | (with_reducible refine lst (by with_unfolding_all rfl) (wp_fbuild Tryz.underlying40 (z := .agg (List.toArray doc0)) (by kernel_rfl) (pl := docP) (by kernel_rfl) (cs := doc0) rfl (vs := []) (by with_unfolding_all rfl) (by with_unfolding_all rfl) ?_)) | ((with_reducible refine lst (by with_unfolding_all rfl) (wp_fstA3 hF83 (by with_unfolding_all exact ⟨_, _, rfl, rfl, rfl⟩) (by rw [doc0_len]; kernel_rfl) doc0_one (Nat.le_of_eq (Nat.zero_add _)) (spl_all rfl) ?_)); intro w70 hF70 hz70))
         exact bodyPost_ret (results_cellF2 rfl _ hF70 (i := 3) rfl rfl Tryz.underlying40 rfl (by rw [doc0_len]; kernel_rfl)) rfl (by
          unfold MPs
          rw [hbad.out]
          exact ⟨_, _, rfl, VDoc.zero, hF70.tail.tail.tail.tail.tail⟩)
        | false =>
         have hstep' := box (hstep (by rw [hh, him.out, hwv]))
         clear hstep hstep2 hh hwv
         go_wp2_with fail
         go_roundg (5 - (i + 1))
         case rel => exact ⟨i + 1, by omega, box rfl, by go_num, hstep', hF83.tail⟩
         case measure => have := hkk5.out; omega
      refine AllReadyH.cons (by simp only [List.getElem?_toArray, List.getElem?_cons_zero, List.getElem?_cons_succ]; rfl) (fun K hK => ?_) ?_
      ·refine stp (by with_unfolding_all rfl) (wp_falloc hFd (cs := vl0) (z := .agg (List.toArray (vl0))) rfl (by kernel_rfl) (by with_unfolding_all rfl) ?_)
       intro w81 g81 hF81 hz81
       refine hK.out _ _ (⟨hF81.blk (i := 4) rfl, hF81.blk (i := 3) rfl, hF81.blk (i := 2) rfl, (hF81.rdOwn (i := 1) rfl).mono (fun _ _ => trivial)⟩) (fun _ => ?_)
       clear hK K
       (try simp only [Act.put, List.setIfInBounds_toArray, List.set_cons_zero, List.set_cons_succ])
       refine rdy1 5 (fun K hK => ?_)
       refine stp (by with_unfolding_all rfl) (wp_call Tryz.func45 rfl (by with_unfolding_all rfl) (by with_unfolding_all rfl) (by with_unfolding_all rfl) (hfd.out _ hF81.below) ?_)
       rintro e w82 ⟨cs82, rfl, hvd82, hb82⟩
       refine ⟨_, rfl, ?_⟩
       have hF82 := hF81.call hb82
       refine hK.out _ _ (⟨hF82.blk (i := 4) rfl, hF82.blk (i := 3) rfl, hF82.blk (i := 2) rfl, (hF82.rdOwn (i := 1) rfl).mono (fun _ _ => trivial)⟩) (fun _ => ?_)
       clear hK K
       (try simp only [Act.put, List.setIfInBounds_toArray, List.set_cons_zero, List.set_cons_succ])
       refine tkp 6 ⟨hF82.blk (i := 4) rfl, hF82.blk (i := 3) rfl, hF82.blk (i := 2) rfl, (hF82.rdOwn (i := 1) rfl).mono (fun _ _ => trivial)⟩ ?_
       (try simp only [Act.put, List.setIfInBounds_toArray, List.set_cons_zero, List.set_cons_succ])
       refine tkp 7 ⟨hF82.blk (i := 4) rfl, hF82.blk (i := 3) rfl, hF82.blk (i := 2) rfl, (hF82.rdOwn (i := 1) rfl).mono (fun _ _ => trivial)⟩ ?_
       (try simp only [Act.put, List.setIfInBounds_toArray, List.set_cons_zero, List.set_cons_succ])
       refine tkp 8 ⟨hF82.blk (i := 4) rfl, hF82.blk (i := 3) rfl, hF82.blk (i := 2) rfl, (hF82.rdOwn (i := 1) rfl).mono (fun _ _ => trivial)⟩ ?_
       (try simp only [Act.put, List.setIfInBounds_toArray, List.set_cons_zero, List.set_cons_succ])
       refine rdy1 10 (fun K hK => ?_)
       have hql := box hvd82.len
       have hqo := box (VRd.ones hvd82)
       refine stp (by with_unfolding_all rfl) (wp_fstA hF82 (i := 0) rfl (ds := cs82) (by with_unfolding_all exact ⟨_, _, rfl, rfl, rfl⟩) (by rw [hql.out]; kernel_rfl) hqo.out (by rw [hql.out, vlL_len]; decide) ?_)
       intro w83 hF83 hz83
       (try simp only [List.set_cons_zero, List.set_cons_succ] at hF83)
       refine hK.out _ _ (⟨hF83.blk (i := 4) rfl, hF83.blk (i := 3) rfl, hF83.blk (i := 2) rfl, (hF83.rdOwn (i := 1) rfl).mono (fun _ _ => trivial)⟩) (fun _ => ?_)
       clear hK K
       (try simp only [Act.put, List.setIfInBounds_toArray, List.set_cons_zero, List.set_cons_succ])
       refine tkp 11 ⟨hF83.blk (i := 4) rfl, hF83.blk (i := 3) rfl, hF83.blk (i := 2) rfl, (hF83.rdOwn (i := 1) rfl).mono (fun _ _ => trivial)⟩ ?_
       (try simp only [Act.put, List.setIfInBounds_toArray, List.set_cons_zero])
       refine wpAnyH_done (by kernel_rfl) ?_ _
       replace hql := box hql
       clear hvd82 hql hqo
       rw [hfw.out]
       by_cases hi2 : i < 2
       ·skip
        have hwv : rWant true i = true := by unfold rWant; rw [decide_eq_true hi2]; rfl
        have f1 : decide ((i : Int) < 2) = true := decide_eq_true (by omega)
        cases hh : decide (rMem i ∈ ns) with
        | true =>
         have hstep' := box (hstep (by rw [hh, him.out, hwv]))
         clear hstep hstep2 hh hwv
         go_wp2_with fail
         go_roundg (5 - (i + 1))
         case rel => exact ⟨i + 1, by omega, box rfl, by go_num, hstep', hF83.tail⟩
         case measure => have := hkk5.out; omega
        | false =>
         have hbad := box (hstep2.out (by rw [hh, him.out, hwv]; decide))
         clear hstep hstep2 hh hwv
         go_wp2_with (first | (with_reducible refine lst (by with_unfolding_all rfl) (wp_fbuild Tryz.underlying40 (z := .agg (List.toArray doc0)) (by kernel_rfl) (pl := docP) (by kernel_rfl) (cs := doc0) rfl (vs := []) (by with_unfolding_all rfl) (by with_unfolding_all rfl) ?_)) | ((with_reducible refine lst (by with_unfolding_all rfl) (wp_fstA3 hF83 (by with_unfolding_all exact ⟨_, _, rfl, rfl, rfl⟩) (by rw [doc0_len]; kernel_rfl) doc0_one (Nat.le_of_eq (Nat.zero_add _)) (spl_all rfl) ?_)); intro w70 hF70 hz70))
         exact bodyPost_ret (results_cellF2 rfl _ hF70 (i := 3) rfl rfl Tryz.underlying40 rfl (by rw [doc0_len]; kernel_rfl)) rfl (by
          unfold MPs
          rw [hbad.out]
          exact ⟨_, _, rfl, VDoc.zero, hF70.tail.tail.tail.tail.tail⟩)
       by_cases hi4 : i < 4
       ·skip
        have hwv : rWant true i = true := by unfold rWant; rw [decide_eq_false hi2, decide_eq_true hi4, decide_eq_false (show ¬ i = 4 by omega)]; rfl
        have f1 : decide ((i : Int) < 2) = false := decide_eq_false (by omega)
        have f2 : decide ((i : Int) < 4) = true := decide_eq_true (by omega)
        have f3 : ((i : Int) == 4) = false := by rw [beq_eq_false_iff_ne]; omega
        cases hh : decide (rMem i ∈ ns) with
        | true =>
         have hstep' := box (hstep (by rw [hh, him.out, hwv]))
         clear hstep hstep2 hh hwv
         go_wp2_with fail
         go_roundg (5 - (i + 1))
         case rel => exact ⟨i + 1, by omega, box rfl, by go_num, hstep', hF83.tail⟩
         case measure => have := hkk5.out; omega
        | false =>
         have hbad := box (hstep2.out (by rw [hh, him.out, hwv]; decide))
         clear hstep hstep2 hh hwv
         go_wp2_with (first | (with_reducible refine lst (by with_unfolding_all rfl) (wp_fbuild Tryz.underlying40 (z := .agg (List.toArray doc0)) (by kernel_rfl) (pl := docP) (by kernel_rfl) (cs := doc0) rfl (vs := []) (by with_unfolding_all rfl) (by with_unfolding_all rfl) ?_)) | ((with_reducible refine lst (by with_unfolding_all rfl) (wp_fstA3 hF83 (by with_unfolding_all exact ⟨_, _, rfl, rfl, rfl⟩) (by rw [doc0_len]; kernel_rfl) doc0_one (Nat.le_of_eq (Nat.zero_add _)) (spl_all rfl) ?_)); intro w70 hF70 hz70))
         exact bodyPost_ret (results_cellF2 rfl _ hF70 (i := 3) rfl rfl Tryz.underlying40 rfl (by rw [doc0_len]; kernel_rfl)) rfl (by
          unfold MPs
          rw [hbad.out]
          exact ⟨_, _, rfl, VDoc.zero, hF70.tail.tail.tail.tail.tail⟩)
       ·skip
        have hwv : rWant true i = false := by unfold rWant; rw [decide_eq_false hi2, decide_eq_false hi4, decide_eq_true (show i = 4 by omega)]; rfl
        have f1 : decide ((i : Int) < 2) = false := decide_eq_false (by omega)
        have f2 : decide ((i : Int) < 4) = false := decide_eq_false (by omega)
        have f3 : ((i : Int) == 4) = true := by rw [beq_iff_eq]; omega
        cases hh : decide (rMem i ∈ ns) with
        | true =>
         have hbad := box (hstep2.out (by rw [hh, him.out, hwv]; decide))
         clear hstep hstep2 hh hwv
         go_wp2_with (first | (with_reducible refine lst (by with_unfolding_all rfl) (wp_fbuild Tryz.underlying40 (z := .agg (List.toArray doc0)) (by kernel_rfl) (pl := docP) (by kernel_rfl) (cs := doc0) rfl (vs := []) (by with_unfolding_all rfl) (by with_unfolding_all rfl) ?_)) | ((with_reducible refine lst (by with_unfolding_all rfl) (wp_fstA3 hF83 (by with_unfolding_all exact ⟨_, _, rfl, rfl, rfl⟩) (by rw [doc0_len]; kernel_rfl) doc0_one (Nat.le_of_eq (Nat.zero_add _)) (spl_all rfl) ?_)); intro w70 hF70 hz70))
         exact bodyPost_ret (results_cellF2 rfl _ hF70 (i := 3) rfl rfl Tryz.underlying40 rfl (by rw [doc0_len]; kernel_rfl)) rfl (by
          unfold MPs
          rw [hbad.out]
          exact ⟨_, _, rfl, VDoc.zero, hF70.tail.tail.tail.tail.tail⟩)
        | false =>
         have hstep' := box (hstep (by rw [hh, him.out, hwv]))
         clear hstep hstep2 hh hwv
         go_wp2_with fail
         go_roundg (5 - (i + 1))
         case rel => exact ⟨i + 1, by omega, box rfl, by go_num, hstep', hF83.tail⟩
         case measure => have := hkk5.out; omega
      exact AllReadyH.nil
     ·have hok := hgood.out (fun j hj => hwant.out j (by omega))
      replace hok := box hok
      obtain rfl : i = 5 := by omega
      go_wp2_with (first | (with_reducible refine lst (by with_unfolding_all rfl) (wp_fldA1 hF Tryz.underlying40 rfl (by with_unfolding_all exact ⟨_, rfl, rfl⟩) (ds := (docL d.media d.type cf eg sj d.has nt)) (by rw [hdl.out]; kernel_rfl) (take_all _) ?_)) | ((with_reducible refine lst (by with_unfolding_all rfl) (wp_fstA2 hF (by with_unfolding_all exact ⟨_, _, rfl, rfl, rfl⟩) (by rw [hdl.out]; kernel_rfl) hdo.out (by rw [hdl.out, hne0.out]; decide) (spl_all (by rw [hdl.out, hne0.out])) ?_)); intro w61 hF61 hz61))
      exact bodyPost_ret (results_cellF2 rfl _ hF61 (i := 2) rfl rfl Tryz.underlying40 rfl (by rw [hdl.out]; kernel_rfl)) rfl (by
       unfold MPs
       rw [hok.out]
       exact ⟨_, _, rfl, hD.out, hF61.tail.tail.tail.tail⟩)
   | false =>
    have him := box him'
    clear him'
    go_loopg [10] 5 (fun g iv wr => ∃ i : Nat, i ≤ 5 ∧ Box (g = 5 - i) ∧ iv = .int .i64 (i : Int) ∧ Box (∀ j, j < i → decide (rMem j ∈ ns) = rWant (decide (d.media = sImage)) j) ∧ Fr [] w wr (.own w.heap.size 9 1 (.slice (some ⟨g60, 0, none⟩) 5 5) 5 rWords :: .blk g3 40 (docL d.media d.type cf eg sj d.has nt) :: .blk g2 40 doc0 :: .blk g1 51 (vlL k n ⟨t.toArray⟩ (.slice An nn cn) (.slice Ak nn ck)) :: TE))
    case atStart => exact ⟨0, by omega, box rfl, rfl, box (fun j hj => absurd hj (by omega)), hF60⟩
    case round =>
     clear hF60
     obtain ⟨i, hi5, hgi5, rfl, hwant, hF⟩ := hrel
     have hkk5 : Box (_ = 5 - i) := hgi5
     clear hgi5
     by_cases hlt5 : i < 5
     ·have hfd := box (fun (w' : World) (hb : Below w.heap.size w w') => hfd0.out (rMem i) w' hb)
      have hfw := box (hfh.out (rMem i))
      have hwi := box (rWords_at hlt5)
      have hstep2 := box (fun (h : ¬ decide (rMem i ∈ ns) = rWant (decide (d.media = sImage)) i) => hbad0.out (fun h2 => h (h2 i hlt5)))
      have hstep : decide (rMem i ∈ ns) = rWant (decide (d.media = sImage)) i → ∀ j, j < i + 1 → decide (rMem j ∈ ns) = rWant (decide (d.media = sImage)) j := fun h j hj => by
       by_cases hji : j = i
       ·rw [hji]; exact h
       ·exact hwant.out j (by omega)
      go_upto_region 40 with fail
      have hFd := hF.drew
      clear hF
      refine wp_region_held (S := fun w' => w'.heap[g1]? = some (.cells (List.toArray (vlL k n ⟨t.toArray⟩ (.slice An nn cn) (.slice Ak nn ck))) 51 (0, 0)) ∧ w'.heap[g2]? = some (.cells (List.toArray doc0) 40 (0, 0)) ∧ w'.heap[g3]? = some (.cells (List.toArray (docL d.media d.type cf eg sj d.has nt)) 40 (0, 0)) ∧ Rd w' (fun _ => True) (some ⟨g60, 0, none⟩) 1 5 rWords) (by kernel_rfl) ?_
      change wpAnyH _ _ _ _ _ _ _ _ (World.drew _)
      refine tky 0 (y := yi_fldA (by with_unfolding_all rfl) (fun _ h => h.1) Tryz.underlying51 rfl (by with_unfolding_all exact ⟨_, rfl, rfl⟩) (ds := (vlL k n ⟨t.toArray⟩ (.slice An nn cn) (.slice Ak nn ck))) (by rw [vlL_len]; kernel_rfl) (take_all _)) (s := ⟨hFd.blk (i := 3) rfl, hFd.blk (i := 2) rfl, hFd.blk (i := 1) rfl, (hFd.rdOwn (i := 0) rfl).mono (fun _ _ => trivial)⟩) (h := ?_)
      (try simp only [Act.put, List.setIfInBounds_toArray, List.set_cons_zero, List.set_cons_succ])
      refine tkp 1 ⟨hFd.blk (i := 3) rfl, hFd.blk (i := 2) rfl, hFd.blk (i := 1) rfl, (hFd.rdOwn (i := 0) rfl).mono (fun _ _ => trivial)⟩ ?_
      (try simp only [Act.put, List.setIfInBounds_toArray, List.set_cons_zero, List.set_cons_succ])
      refine tkp 2 ⟨hFd.blk (i := 3) rfl, hFd.blk (i := 2) rfl, hFd.blk (i := 1) rfl, (hFd.rdOwn (i := 0) rfl).mono (fun _ _ => trivial)⟩ ?_
      (try simp only [Act.put, List.setIfInBounds_toArray, List.set_cons_zero, List.set_cons_succ])
      refine tky 3 (y := yi_ix (by with_unfolding_all rfl) T_strs (fun _ => rfl) (A := some ⟨g60, 0, none⟩) (n := 5) (k := i) (by with_unfolding_all exact ⟨_, _, _, _, rfl, rfl, rfl⟩) rfl (by omega)) (s := ⟨hFd.blk (i := 3) rfl, hFd.blk (i := 2) rfl, hFd.blk (i := 1) rfl, (hFd.rdOwn (i := 0) rfl).mono (fun _ _ => trivial)⟩) (h := ?_)
      (try simp only [Act.put, List.setIfInBounds_toArray, List.set_cons_zero, List.set_cons_succ])
      refine tky 4 (y := yi_ld (by with_unfolding_all rfl) (S' := fun _ _ => True) (j := i * 1) (fun _ h => h.2.2.2) Tryz.underlying9 rfl (by with_unfolding_all exact ⟨_, rfl, rfl⟩) (by rw [Nat.mul_one]; exact hwi.out)) (s := ⟨hFd.blk (i := 3) rfl, hFd.blk (i := 2) rfl, hFd.blk (i := 1) rfl, (hFd.rdOwn (i := 0) rfl).mono (fun _ _ => trivial)⟩) (h := ?_)
      (try simp only [Act.put, List.setIfInBounds_toArray, List.set_cons_zero, List.set_cons_succ])
      refine wpAnyH_ready (rs := [5, 9]) (by kernel_rfl) (by simp) ?_
      refine AllReadyH.cons (by simp only [List.getElem?_toArray, List.getElem?_cons_zero, List.getElem?_cons_succ]; rfl) (fun K hK => ?_) ?_
      ·refine stp (by with_unfolding_all rfl) (wp_call Tryz.func45 rfl (by with_unfolding_all rfl) (by with_unfolding_all rfl) (by with_unfolding_all rfl) (hfd.out _ hFd.below) ?_)
       rintro e w81 ⟨cs81, rfl, hvd81, hb81⟩
       refine ⟨_, rfl, ?_⟩
       have hF81 := hFd.call hb81
       refine hK.out _ _ (⟨hF81.blk (i := 3) rfl, hF81.blk (i := 2) rfl, hF81.blk (i := 1) rfl, (hF81.rdOwn (i := 0) rfl).mono (fun _ _ => trivial)⟩) (fun _ => ?_)
       clear hK K
       (try simp only [Act.put, List.setIfInBounds_toArray, List.set_cons_zero, List.set_cons_succ])
       refine tkp 6 ⟨hF81.blk (i := 3) rfl, hF81.blk (i := 2) rfl, hF81.blk (i := 1) rfl, (hF81.rdOwn (i := 0) rfl).mono (fun _ _ => trivial)⟩ ?_
       (try simp only [Act.put, List.setIfInBounds_toArray, List.set_cons_zero, List.set_cons_succ])
       refine tkp 7 ⟨hF81.blk (i := 3) rfl, hF81.blk (i := 2) rfl, hF81.blk (i := 1) rfl, (hF81.rdOwn (i := 0) rfl).mono (fun _ _ => trivial)⟩ ?_
       (try simp only [Act.put, List.setIfInBounds_toArray, List.set_cons_zero, List.set_cons_succ])
       refine tkp 8 ⟨hF81.blk (i := 3) rfl, hF81.blk (i := 2) rfl, hF81.blk (i := 1) rfl, (hF81.rdOwn (i := 0) rfl).mono (fun _ _ => trivial)⟩ ?_
       (try simp only [Act.put, List.setIfInBounds_toArray, List.set_cons_zero, List.set_cons_succ])
       refine rdy1 9 (fun K hK => ?_)
       refine stp (by with_unfolding_all rfl) (wp_falloc hF81 (cs := vl0) (z := .agg (List.toArray (vl0))) rfl (by kernel_rfl) (by with_unfolding_all rfl) ?_)
       intro w82 g82 hF82 hz82
       refine hK.out _ _ (⟨hF82.blk (i := 4) rfl, hF82.blk (i := 3) rfl, hF82.blk (i := 2) rfl, (hF82.rdOwn (i := 1) rfl).mono (fun _ _ => trivial)⟩) (fun _ => ?_)
       clear hK K
       (try simp only [Act.put, List.setIfInBounds_toArray, List.set_cons_zero, List.set_cons_succ])
       refine rdy1 10 (fun K hK => ?_)
       have hql := box hvd81.len
       have hqo := box (VRd.ones hvd81)
       refine stp (by with_unfolding_all rfl) (wp_fstA hF82 (i := 0) rfl (ds := cs81) (by with_unfolding_all exact ⟨_, _, rfl, rfl, rfl⟩) (by rw [hql.out]; kernel_rfl) hqo.out (by rw [hql.out, vlL_len]; decide) ?_)
       intro w83 hF83 hz83
       (try simp only [List.set_cons_zero, List.set_cons_succ] at hF83)
       refine hK.out _ _ (⟨hF83.blk (i := 4) rfl, hF83.blk (i := 3) rfl, hF83.blk (i := 2) rfl, (hF83.rdOwn (i := 1) rfl).mono (fun _ _ => trivial)⟩) (fun _ => ?_)
       clear hK K
       (try simp only [Act.put, List.setIfInBounds_toArray, List.set_cons_zero, List.set_cons_succ])
       refine tkp 11 ⟨hF83.blk (i := 4) rfl, hF83.blk (i := 3) rfl, hF83.blk (i := 2) rfl, (hF83.rdOwn (i := 1) rfl).mono (fun _ _ => trivial)⟩ ?_
       (try simp only [Act.put, List.setIfInBounds_toArray, List.set_cons_zero])
       refine wpAnyH_done (by kernel_rfl) ?_ _
       replace hql := box hql
       clear hvd81 hql hqo
       rw [hfw.out]
       by_cases hi2 : i < 2
       ·skip
        have hwv : rWant false i = true := by unfold rWant; rw [decide_eq_true hi2]; rfl
        have f1 : decide ((i : Int) < 2) = true := decide_eq_true (by omega)
        cases hh : decide (rMem i ∈ ns) with
        | true =>
         have hstep' := box (hstep (by rw [hh, him.out, hwv]))
         clear hstep hstep2 hh hwv
         go_wp2_with fail
         go_roundg (5 - (i + 1))
         case rel => exact ⟨i + 1, by omega, box rfl, by go_num, hstep', hF83.tail⟩
         case measure => have := hkk5.out; omega
        | false =>
         have hbad := box (hstep2.out (by rw [hh, him.out, hwv]; decide))
         clear hstep hstep2 hh hwv
         go_wp2_with (first | (with_reducible refine lst (by with_unfolding_all rfl) (wp_fbuild Tryz.underlying40 (z := .agg (List.toArray doc0)) (by kernel_rfl) (pl := docP) (by kernel_rfl) (cs := doc0) rfl (vs := []) (by with_unfolding_all rfl) (by with_unfolding_all rfl) ?_)) | ((with_reducible refine lst (by with_unfolding_all rfl) (wp_fstA3 hF83 (by with_unfolding_all exact ⟨_, _, rfl, rfl, rfl⟩) (by rw [doc0_len]; kernel_rfl) doc0_one (Nat.le_of_eq (Nat.zero_add _)) (spl_all rfl) ?_)); intro w70 hF70 hz70))
         exact bodyPost_ret (results_cellF2 rfl _ hF70 (i := 3) rfl rfl Tryz.underlying40 rfl (by rw [doc0_len]; kernel_rfl)) rfl (by
          unfold MPs
          rw [hbad.out]
          exact ⟨_, _, rfl, VDoc.zero, hF70.tail.tail.tail.tail.tail⟩)
       by_cases hi4 : i < 4
       ·skip
        have hwv : rWant false i = false := by unfold rWant; rw [decide_eq_false hi2, decide_eq_true hi4, decide_eq_false (show ¬ i = 4 by omega)]; rfl
        have f1 : decide ((i : Int) < 2) = false := decide_eq_false (by omega)
        have f2 : decide ((i : Int) < 4) = true := decide_eq_true (by omega)
        have f3 : ((i : Int) == 4) = false := by rw [beq_eq_false_iff_ne]; omega
        cases hh : decide (rMem i ∈ ns) with
        | true =>
         have hbad := box (hstep2.out (by rw [hh, him.out, hwv]; decide))
         clear hstep hstep2 hh hwv
         go_wp2_with (first | (with_reducible refine lst (by with_unfolding_all rfl) (wp_fbuild Tryz.underlying40 (z := .agg (List.toArray doc0)) (by kernel_rfl) (pl := docP) (by kernel_rfl) (cs := doc0) rfl (vs := []) (by with_unfolding_all rfl) (by with_unfolding_all rfl) ?_)) | ((with_reducible refine lst (by with_unfolding_all rfl) (wp_fstA3 hF83 (by with_unfolding_all exact ⟨_, _, rfl, rfl, rfl⟩) (by rw [doc0_len]; kernel_rfl) doc0_one (Nat.le_of_eq (Nat.zero_add _)) (spl_all rfl) ?_)); intro w70 hF70 hz70))
         exact bodyPost_ret (results_cellF2 rfl _ hF70 (i := 3) rfl rfl Tryz.underlying40 rfl (by rw [doc0_len]; kernel_rfl)) rfl (by
          unfold MPs
          rw [hbad.out]
          exact ⟨_, _, rfl, VDoc.zero, hF70.tail.tail.tail.tail.tail⟩)
        | false =>
         have hstep' := box (hstep (by rw [hh, him.out, hwv]))
         clear hstep hstep2 hh hwv
         go_wp2_with fail
         go_roundg (5 - (i + 1))
         case rel => exact ⟨i + 1, by omega, box rfl, by go_num, hstep', hF83.tail⟩
         case measure => have := hkk5.out; omega
       ·skip
        have hwv : rWant false i = true := by unfold rWant; rw [decide_eq_false hi2, decide_eq_false hi4, decide_eq_true (show i = 4 by omega)]; rfl
        have f1 : decide ((i : Int) < 2) = false := decide_eq_false (by omega)
        have f2 : decide ((i : Int) < 4) = false := decide_eq_false (by omega)
        have f3 : ((i : Int) == 4) = true := by rw [beq_iff_eq]; omega
        cases hh : decide (rMem i ∈ ns) with
        | true =>
         have hstep' := box (hstep (by rw [hh, him.out, hwv]))
         clear hstep hstep2 hh hwv
         go_wp2_with fail
         go_roundg (5 - (i + 1))
         case rel => exact ⟨i + 1, by omega, box rfl, by go_num, hstep', hF83.tail⟩
         case measure => have := hkk5.out; omega
        | false =>
         have hbad := box (hstep2.out (by rw [hh, him.out, hwv]; decide))
         clear hstep hstep2 hh hwv
         go_wp2_with (first | (with_reducible refine lst (by with_unfolding_all rfl) (wp_fbuild Tryz.underlying40 (z := .agg (List.toArray doc0)) (by kernel_rfl) (pl := docP) (by kernel_rfl) (cs := doc0) rfl (vs := []) (by with_unfolding_all rfl) (by with_unfolding_all rfl) ?_)) | ((with_reducible refine lst (by with_unfolding_all rfl) (wp_fstA3 hF83 (by with_unfolding_all exact ⟨_, _, rfl, rfl, rfl⟩) (by rw [doc0_len]; kernel_rfl) doc0_one (Nat.le_of_eq (Nat.zero_add _)) (spl_all rfl) ?_)); intro w70 hF70 hz70))
         exact bodyPost_ret (results_cellF2 rfl _ hF70 (i := 3) rfl rfl Tryz.underlying40 rfl (by rw [doc0_len]; kernel_rfl)) rfl (by
          unfold MPs
          rw [hbad.out]
          exact ⟨_, _, rfl, VDoc.zero, hF70.tail.tail.tail.tail.tail⟩)
      refine AllReadyH.cons (by simp only [List.getElem?_toArray, List.getElem?_cons_zero, List.getElem?_cons_succ]; rfl) (fun K hK => ?_) ?_
      ·refine stp (by with_unfolding_all rfl) (wp_falloc hFd (cs := vl0) (z := .agg (List.toArray (vl0))) rfl (by kernel_rfl) (by with_unfolding_all rfl) ?_)
       intro w81 g81 hF81 hz81
       refine hK.out _ _ (⟨hF81.blk (i := 4) rfl, hF81.blk (i := 3) rfl, hF81.blk (i := 2) rfl, (hF81.rdOwn (i := 1) rfl).mono (fun _ _ => trivial)⟩) (fun _ => ?_)
       clear hK K
       (try simp only [Act.put, List.setIfInBounds_toArray, List.set_cons_zero, List.set_cons_succ])
       refine rdy1 5 (fun K hK => ?_)
       refine stp (by with_unfolding_all rfl) (wp_call Tryz.func45 rfl (by with_unfolding_all rfl) (by with_unfolding_all rfl) (by with_unfolding_all rfl) (hfd.out _ hF81.below) ?_)
       rintro e w82 ⟨cs82, rfl, hvd82, hb82⟩
       refine ⟨_, rfl, ?_⟩
       have hF82 := hF81.call hb82
       refine hK.out _ _ (⟨hF82.blk (i := 4) rfl, hF82.blk (i := 3) rfl, hF82.blk (i := 2) rfl, (hF82.rdOwn (i := 1) rfl).mono (fun _ _ => trivial)⟩) (fun _ => ?_)
       clear hK K
       (try simp only [Act.put, List.setIfInBounds_toArray, List.set_cons_zero, List.set_cons_succ])
       refine tkp 6 ⟨hF82.blk (i := 4) rfl, hF82.blk (i := 3) rfl, hF82.blk (i := 2) rfl, (hF82.rdOwn (i := 1) rfl).mono (fun _ _ => trivial)⟩ ?_
       (try simp only [Act.put, List.setIfInBounds_toArray, List.set_cons_zero, List.set_cons_succ])
       refine tkp 7 ⟨hF82.blk (i := 4) rfl, hF82.blk (i := 3) rfl, hF82.blk (i := 2) rfl, (hF82.rdOwn (i := 1) rfl).mono (fun _ _ => trivial)⟩ ?_
       (try simp only [Act.put, List.setIfInBounds_toArray, List.set_cons_zero, List.set_cons_succ])
       refine tkp 8 ⟨hF82.blk (i := 4) rfl, hF82.blk (i := 3) rfl, hF82.blk (i := 2) rfl, (hF82.rdOwn (i := 1) rfl).mono (fun _ _ => trivial)⟩ ?_
       (try simp only [Act.put, List.setIfInBounds_toArray, List.set_cons_zero, List.set_cons_succ])
       refine rdy1 10 (fun K hK => ?_)
       have hql := box hvd82.len
       have hqo := box (VRd.ones hvd82)
       refine stp (by with_unfolding_all rfl) (wp_fstA hF82 (i := 0) rfl (ds := cs82) (by with_unfolding_all exact ⟨_, _, rfl, rfl, rfl⟩) (by rw [hql.out]; kernel_rfl) hqo.out (by rw [hql.out, vlL_len]; decide) ?_)
       intro w83 hF83 hz83
       (try simp only [List.set_cons_zero, List.set_cons_succ] at hF83)
       refine hK.out _ _ (⟨hF83.blk (i := 4) rfl, hF83.blk (i := 3) rfl, hF83.blk (i := 2) rfl, (hF83.rdOwn (i := 1) rfl).mono (fun _ _ => trivial)⟩) (fun _ => ?_)
       clear hK K
       (try simp only [Act.put, List.setIfInBounds_toArray, List.set_cons_zero, List.set_cons_succ])
       refine tkp 11 ⟨hF83.blk (i := 4) rfl, hF83.blk (i := 3) rfl, hF83.blk (i := 2) rfl, (hF83.rdOwn (i := 1) rfl).mono (fun _ _ => trivial)⟩ ?_
       (try simp only [Act.put, List.setIfInBounds_toArray, List.set_cons_zero])
       refine wpAnyH_done (by kernel_rfl) ?_ _
       replace hql := box hql
       clear hvd82 hql hqo
       rw [hfw.out]
       by_cases hi2 : i < 2
       ·skip
        have hwv : rWant false i = true := by unfold rWant; rw [decide_eq_true hi2]; rfl
        have f1 : decide ((i : Int) < 2) = true := decide_eq_true (by omega)
        cases hh : decide (rMem i ∈ ns) with
        | true =>
         have hstep' := box (hstep (by rw [hh, him.out, hwv]))
         clear hstep hstep2 hh hwv
         go_wp2_with fail
         go_roundg (5 - (i + 1))
         case rel => exact ⟨i + 1, by omega, box rfl, by go_num, hstep', hF83.tail⟩
         case measure => have := hkk5.out; omega
        | false =>
         have hbad := box (hstep2.out (by rw [hh, him.out, hwv]; decide))
         clear hstep hstep2 hh hwv
         go_wp2_with (first | (with_reducible refine lst (by with_unfolding_all rfl) (wp_fbuild Tryz.underlying40 (z := .agg (List.toArray doc0)) (by kernel_rfl) (pl := docP) (by kernel_rfl) (cs := doc0) rfl (vs := []) (by with_unfolding_all rfl) (by with_unfolding_all rfl) ?_)) | ((with_reducible refine lst (by with_unfolding_all rfl) (wp_fstA3 hF83 (by with_unfolding_all exact ⟨_, _, rfl, rfl, rfl⟩) (by rw [doc0_len]; kernel_rfl) doc0_one (Nat.le_of_eq (Nat.zero_add _)) (spl_all rfl) ?_)); intro w70 hF70 hz70))
         exact bodyPost_ret (results_cellF2 rfl _ hF70 (i := 3) rfl rfl Tryz.underlying40 rfl (by rw [doc0_len]; kernel_rfl)) rfl (by
          unfold MPs
          rw [hbad.out]
          exact ⟨_, _, rfl, VDoc.zero, hF70.tail.tail.tail.tail.tail⟩)
       by_cases hi4 : i < 4
       ·skip
        have hwv : rWant false i = false := by unfold rWant; rw [decide_eq_false hi2, decide_eq_true hi4, decide_eq_false (show ¬ i = 4 by omega)]; rfl
        have f1 : decide ((i : Int) < 2) = false := decide_eq_false (by omega)
        have f2 : decide ((i : Int) < 4) = true := decide_eq_true (by omega)
        have f3 : ((i : Int) == 4) = false := by rw [beq_eq_false_iff_ne]; omega
        cases hh : decide (rMem i ∈ ns) with
        | true =>
         have hbad := box (hstep2.out (by rw [hh, him.out, hwv]; decide))
         clear hstep hstep2 hh hwv
         go_wp2_with (first | (with_reducible refine lst (by with_unfolding_all rfl) (wp_fbuild Tryz.underlying40 (z := .agg (List.toArray doc0)) (by kernel_rfl) (pl := docP) (by kernel_rfl) (cs := doc0) rfl (vs := []) (by with_unfolding_all rfl) (by with_unfolding_all rfl) ?_)) | ((with_reducible refine lst (by with_unfolding_all rfl) (wp_fstA3 hF83 (by with_unfolding_all exact ⟨_, _, rfl, rfl, rfl⟩) (by rw [doc0_len]; kernel_rfl) doc0_one (Nat.le_of_eq (Nat.zero_add _)) (spl_all rfl) ?_)); intro w70 hF70 hz70))
         exact bodyPost_ret (results_cellF2 rfl _ hF70 (i := 3) rfl rfl Tryz.underlying40 rfl (by rw [doc0_len]; kernel_rfl)) rfl (by
          unfold MPs
          rw [hbad.out]
          exact ⟨_, _, rfl, VDoc.zero, hF70.tail.tail.tail.tail.tail⟩)
        | false =>
         have hstep' := box (hstep (by rw [hh, him.out, hwv]))
         clear hstep hstep2 hh hwv
         go_wp2_with fail
         go_roundg (5 - (i + 1))
         case rel => exact ⟨i + 1, by omega, box rfl, by go_num, hstep', hF83.tail⟩
         case measure => have := hkk5.out; omega
       ·skip
        have hwv : rWant false i = true := by unfold rWant; rw [decide_eq_false hi2, decide_eq_false hi4, decide_eq_true (show i = 4 by omega)]; rfl
        have f1 : decide ((i : Int) < 2) = false := decide_eq_false (by omega)
        have f2 : decide ((i : Int) < 4) = false := decide_eq_false (by omega)
        have f3 : ((i : Int) == 4) = true := by rw [beq_iff_eq]; omega
        cases hh : decide (rMem i ∈ ns) with
        | true =>
         have hstep' := box (hstep (by rw [hh, him.out, hwv]))
         clear hstep hstep2 hh hwv
         go_wp2_with fail
         go_roundg (5 - (i + 1))
         case rel => exact ⟨i + 1, by omega, box rfl, by go_num, hstep', hF83.tail⟩
         case measure => have := hkk5.out; omega
        | false =>
         have hbad := box (hstep2.out (by rw [hh, him.out, hwv]; decide))
         clear hstep hstep2 hh hwv
         go_wp2_with (first | (with_reducible refine lst (by with_unfolding_all rfl) (wp_fbuild Tryz.underlying40 (z := .agg (List.toArray doc0)) (by kernel_rfl) (pl := docP) (by kernel_rfl) (cs := doc0) rfl (vs := []) (by with_unfolding_all rfl) (by with_unfolding_all rfl) ?_)) | ((with_reducible refine lst (by with_unfolding_all rfl) (wp_fstA3 hF83 (by with_unfolding_all exact ⟨_, _, rfl, rfl, rfl⟩) (by rw [doc0_len]; kernel_rfl) doc0_one (Nat.le_of_eq (Nat.zero_add _)) (spl_all rfl) ?_)); intro w70 hF70 hz70))
         exact bodyPost_ret (results_cellF2 rfl _ hF70 (i := 3) rfl rfl Tryz.underlying40 rfl (by rw [doc0_len]; kernel_rfl)) rfl (by
          unfold MPs
          rw [hbad.out]
          exact ⟨_, _, rfl, VDoc.zero, hF70.tail.tail.tail.tail.tail⟩)
      exact AllReadyH.nil
     ·have hok := hgood.out (fun j hj => hwant.out j (by omega))
      replace hok := box hok
      obtain rfl : i = 5 := by omega
      go_wp2_with (first | (with_reducible refine lst (by with_unfolding_all rfl) (wp_fldA1 hF Tryz.underlying40 rfl (by with_unfolding_all exact ⟨_, rfl, rfl⟩) (ds := (docL d.media d.type cf eg sj d.has nt)) (by rw [hdl.out]; kernel_rfl) (take_all _) ?_)) | ((with_reducible refine lst (by with_unfolding_all rfl) (wp_fstA2 hF (by with_unfolding_all exact ⟨_, _, rfl, rfl, rfl⟩) (by rw [hdl.out]; kernel_rfl) hdo.out (by rw [hdl.out, hne0.out]; decide) (spl_all (by rw [hdl.out, hne0.out])) ?_)); intro w61 hF61 hz61))
      exact bodyPost_ret (results_cellF2 rfl _ hF61 (i := 2) rfl rfl Tryz.underlying40 rfl (by rw [hdl.out]; kernel_rfl)) rfl (by
       unfold MPs
       rw [hok.out]
       exact ⟨_, _, rfl, hD.out, hF61.tail.tail.tail.tail⟩)
end Go.Proofs.YtlhicfpmlncomaaGreatDoor
