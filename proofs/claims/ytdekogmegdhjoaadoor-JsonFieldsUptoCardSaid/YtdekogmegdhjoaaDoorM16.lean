/-
  Layer 6: values of which no more than so many kids are kept: in plain words, and as they stand on the heap.
  Layer 6: the laws' cut, walked.
  Layer 6: an object's members, in plain words. No program is named here.
  What the second form's bound gives of a slice: its room.
  From what the form reads of structs that came in to the words of the walks: parts of the cells, one by one. No program is named here.
  A slice of any elements that came in. No program is named here.
  Layer 6: a value that came in. No program is named here.
-/
import Derived.Test.YtdekogmegdhjoaaDoorM11
import Derived.Test.YtdekogmegdhjoaaDoorM15
import Derived.Test.YtdekogmegdhjoaaDoorM04
import Derived.Test.YtdekogmegdhjoaaDoorRows
import Derived.Test.YtdekogmegdhjoaaDoorM01
namespace Go.Proofs.YtdekogmegdhjoaaDoor
open Go.RowKit

def jCutL (f : JV → Nat → JV × Nat) : List JV → Nat → List JV × Nat
  | [], m => ([], m)
  | _ :: _, 0 => ([], 0)
  | v :: vs, m + 1 => ((f v m).1 :: (jCutL f vs (f v m).2).1, (jCutL f vs (f v m).2).2)
/-- A value, so deep, of so many kids at most; how many may still come. -/
def jCutN : Nat → JV → Nat → JV × Nat
  | 0, .mk k n t ns _, m => (.mk k n t ns [], m)
  | d + 1, .mk k n t ns ks, m => (.mk k n t ns (jCutL (jCutN d) ks m).1, (jCutL (jCutN d) ks m).2)
theorem jCutL_le {f : JV → Nat → JV × Nat} (hf : ∀ v m, (f v m).2 ≤ m) : ∀ (ks : List JV) (m : Nat), (jCutL f ks m).2 ≤ m
  | [], m => Nat.le_refl _
  | _ :: _, 0 => Nat.le_refl _
  | v :: vs, m + 1 => by
    rw [jCutL]
    have h1 := jCutL_le hf vs (f v m).2
    have h2 := hf v m
    simp only []
    omega
theorem jCutN_le : ∀ (d : Nat) (v : JV) (m : Nat), (jCutN d v m).2 ≤ m
  | 0, .mk k n t ns ks, m => by rw [jCutN]; exact Nat.le_refl _
  | d + 1, .mk k n t ns ks, m => by rw [jCutN]; exact jCutL_le (jCutN_le d) ks m
theorem jCutL_step {f : JV → Nat → JV × Nat} {ks ys : List JV} {i m m' : Nat} {v : JV} (hv : ks[i]? = some v) (h : jCutL f ks m = (ys ++ (jCutL f (ks.drop i) (m' + 1)).1, (jCutL f (ks.drop i) (m' + 1)).2)) :
    jCutL f ks m = (ys ++ [(f v m').1] ++ (jCutL f (ks.drop (i + 1)) (f v m').2).1, (jCutL f (ks.drop (i + 1)) (f v m').2).2) := by
  rw [h, List.drop_eq_getElem_cons (List.getElem?_eq_some_iff.1 hv).1, (List.getElem?_eq_some_iff.1 hv).2, jCutL]
  simp
theorem jCutL_zero {f : JV → Nat → JV × Nat} (ks : List JV) : jCutL f ks 0 = ([], 0) := by cases ks <;> rfl
mutual
/-- A value that was laid anew of one that came in: its names read as they came in, in blocks below B; of its kids the entries tell. -/
def VC (w : World) (B : Nat) : JV → List Value → List Ent → Prop
  | .mk k n t ns ks, cs, es => ∃ (An : Option Addr) (nn cn : Nat) (Ak : Option Addr) (nk ck : Nat) (xs : List Value) (TE : List Ent), nn ≤ cn ∧ nk ≤ ck ∧
      cs = vlL k n ⟨t.toArray⟩ (.slice An nn cn) (.slice Ak nk ck) ∧ Rd w (· < B) An 1 nn (ns.map strv) ∧ es = .rd Ak 5 nk xs :: TE ∧ VCL w B ks xs TE
def VCL (w : World) (B : Nat) : List JV → List Value → List Ent → Prop
  | [], xs, TE => xs = [] ∧ TE = []
  | v :: vs, xs, TE => ∃ (cs ys : List Value) (E1 E2 : List Ent), xs = cs ++ ys ∧ TE = E1 ++ E2 ∧ VC w B v cs E1 ∧ VCL w B vs ys E2
end
section
variable {w w' : World} {B : Nat}
theorem VC.mk_ {k n : Int} {t : List UInt8} {ns : List (List UInt8)} {ks : List JV} {An Ak : Option Addr} {nn cn nk ck : Nat} {xs : List Value} {TE : List Ent} (h1 : nn ≤ cn) (h2 : nk ≤ ck) (hr : Rd w (· < B) An 1 nn (ns.map strv)) (h : VCL w B ks xs TE) :
    VC w B (.mk k n t ns ks) (vlL k n ⟨t.toArray⟩ (.slice An nn cn) (.slice Ak nk ck)) (.rd Ak 5 nk xs :: TE) := by
  unfold VC
  exact ⟨_, _, _, _, _, _, _, _, h1, h2, rfl, hr, rfl, h⟩
theorem VC.len {v : JV} {cs : List Value} {es : List Ent} (h : VC w B v cs es) : cs.length = 5 := by
  cases v
  unfold VC at h
  obtain ⟨_, _, _, _, _, _, _, _, _, _, rfl, _⟩ := h
  rfl
theorem VC.one {v : JV} {cs : List Value} {es : List Ent} (h : VC w B v cs es) : ∀ u ∈ cs, u.oneCell' = true := by
  cases v
  unfold VC at h
  obtain ⟨_, _, _, _, _, _, _, _, _, _, rfl, _⟩ := h
  exact vlL_one
theorem VCL.nil : VCL w B [] [] [] := by unfold VCL; exact ⟨rfl, rfl⟩
theorem VCL.snoc : ∀ {ks : List JV} {v : JV} {xs cs : List Value} {TE es : List Ent}, VCL w B ks xs TE → VC w B v cs es → VCL w B (ks ++ [v]) (xs ++ cs) (TE ++ es)
  | [], v, xs, cs, TE, es, h, hv => by
    unfold VCL at h
    obtain ⟨rfl, rfl⟩ := h
    rw [List.nil_append, List.nil_append, List.nil_append, VCL]
    exact ⟨cs, [], es, [], by simp, by simp, hv, VCL.nil⟩
  | k :: ks, v, xs, cs, TE, es, h, hv => by
    rw [VCL] at h
    obtain ⟨c1, ys, E1, E2, rfl, rfl, h1, h2⟩ := h
    rw [List.cons_append, VCL]
    exact ⟨c1, ys ++ cs, E1, E2 ++ es, by simp, by simp, h1, VCL.snoc h2 hv⟩
theorem VCL.len : ∀ {ks : List JV} {xs : List Value} {TE : List Ent}, VCL w B ks xs TE → xs.length = ks.length * 5
  | [], xs, TE, h => by unfold VCL at h; rw [h.1]; rfl
  | k :: ks, xs, TE, h => by
    rw [VCL] at h
    obtain ⟨c1, ys, E1, E2, rfl, rfl, h1, h2⟩ := h
    rw [List.length_append, h1.len, VCL.len h2, List.length_cons]
    omega
mutual
theorem VC.keep (hk : ∀ k, k < B → w'.heap[k]? = w.heap[k]?) : ∀ (v : JV) {cs : List Value} {es : List Ent}, VC w B v cs es → VC w' B v cs es
  | .mk k n t ns ks, cs, es, h => by
    rw [VC] at h ⊢
    obtain ⟨An, nn, cn, Ak, nk, ck, xs, TE, h1, h2, rfl, hr, rfl, h3⟩ := h
    exact ⟨An, nn, cn, Ak, nk, ck, xs, TE, h1, h2, rfl, hr.same hk, rfl, VCL.keep hk ks h3⟩
theorem VCL.keep (hk : ∀ k, k < B → w'.heap[k]? = w.heap[k]?) : ∀ (vs : List JV) {xs : List Value} {TE : List Ent}, VCL w B vs xs TE → VCL w' B vs xs TE
  | [], xs, TE, h => by rw [VCL] at h ⊢; exact h
  | v :: vs, xs, TE, h => by
    rw [VCL] at h ⊢
    obtain ⟨cs, ys, E1, E2, rfl, rfl, h1, h2⟩ := h
    exact ⟨cs, ys, E1, E2, rfl, rfl, VC.keep hk v h1, VCL.keep hk vs h2⟩
end
mutual
theorem VC.rd {S : Nat → Prop} (hS : ∀ k, k < B → S k) (hk : ∀ k, k < B → w'.heap[k]? = w.heap[k]?) : ∀ (v : JV) {cs : List Value} {es : List Ent}, VC w B v cs es → (∀ e ∈ es, e.holds w' ∧ ∀ b, e.block = some b → S b) → VRd w' S v cs
  | .mk k n t ns ks, cs, es, h, hh => by
    rw [VC] at h
    obtain ⟨An, nn, cn, Ak, nk, ck, xs, TE, h1, h2, rfl, hr, rfl, h3⟩ := h
    rw [VRd]
    exact ⟨An, nn, cn, Ak, nk, ck, xs, h1, h2, rfl, (hr.same hk).mono hS, rd_of_ent (hh _ (by simp)).1 (hh _ (by simp)).2, VCL.rd hS hk ks h3 fun e he => hh e (by simp [he])⟩
theorem VCL.rd {S : Nat → Prop} (hS : ∀ k, k < B → S k) (hk : ∀ k, k < B → w'.heap[k]? = w.heap[k]?) : ∀ (vs : List JV) {xs : List Value} {TE : List Ent}, VCL w B vs xs TE → (∀ e ∈ TE, e.holds w' ∧ ∀ b, e.block = some b → S b) → VRdL w' S vs xs
  | [], xs, TE, h, _ => by rw [VCL] at h; rw [VRdL]; exact h.1
  | v :: vs, xs, TE, h, hh => by
    rw [VCL] at h
    obtain ⟨cs, ys, E1, E2, rfl, rfl, h1, h2⟩ := h
    rw [VRdL]
    exact ⟨cs, ys, rfl, VC.rd hS hk v h1 fun e he => hh e (by simp [he]), VCL.rd hS hk vs h2 fun e he => hh e (by simp [he])⟩
end
/-- A value of a frame, read in its world. -/
theorem VC.rdF {X : List Nat} {w0 : World} {v : JV} {cs : List Value} {es' es : List Ent} (h : VC w B v cs es') (hF : Fr X w0 w' es) (hB : B ≤ w'.heap.size) (hb : Below B w w') (hs : ∀ e ∈ es', e ∈ es) : VRd w' (· < w'.heap.size) v cs :=
  VC.rd (fun _ h => Nat.lt_of_lt_of_le h hB) (fun k hk => hb.block k hk) v h fun e he => by
    obtain ⟨i, hi⟩ := List.mem_iff_getElem?.1 (hs e he)
    exact ⟨hF.holds i e hi, fun b hb => Ent.lt (hF.holds i e hi) hb⟩
end
end Go.Proofs.YtdekogmegdhjoaaDoor

namespace Go.Proofs.YtdekogmegdhjoaaDoor
open Go.RowKit
set_option linter.unusedSimpArgs false


set_option maxRecDepth 20000 in
set_option maxHeartbeats 12800000 in
theorem cut_any (d : Nat) : ∀ (v : JV) (cs : List Value) (w : World) (gl m B : Nat), d ≤ 1000 → m ≤ 100000 → VRd w (· < B) v cs → JSm v → B ≤ gl → B ≤ w.heap.size → w.heap[gl]? = some (.cells [Value.int .i64 (m : Int)].toArray 3 (0, 0)) →
    Calls Tryd.prog 17 #[.agg cs.toArray, .int .i64 (d : Int), .pointer (some ⟨gl, 0, none⟩)] w fun e w' => ∃ cs' es', e = .returned (.agg cs'.toArray) ∧ VC w B (jCutN d v m).1 cs' es' ∧ Fr [gl] w w' (.blk gl 3 [.int .i64 ((jCutN d v m).2 : Int)] :: es') := by
  induction d with
  | zero =>
    intro v cs w gl m B hd hm hv hsm hgl hB hh
    obtain ⟨k, n, t, ns, ks⟩ := v
    rw [VRd] at hv
    obtain ⟨An, nn, cn, Ak, nk, ck, xk, hcn, hck, rfl, hrn, hrk, hvk⟩ := hv
    rw [JSm] at hsm
    obtain ⟨hs1, hs2, hs3⟩ := hsm
    have hnk : ks.length = nk := by have := hrk.len; rw [hvk.len] at this; omega
    rw [hnk] at hs2
    replace hnk := box hnk
    replace hvk := box hvk
    replace hs1 := box hs1
    have hF0 := Fr.one hh
    clear hh
    go_enter Tryd.func17, Tryd.ntmps17
    go_upto_region 3 with (first | ((with_reducible refine lst (by with_unfolding_all rfl) (wp_fbox hF0 (cs := (vlL k n ⟨t.toArray⟩ (.slice An nn cn) (.slice Ak nk ck))) rfl (by with_unfolding_all rfl) (by with_unfolding_all rfl) ?_)); intro w1 g1 hF1 hz1) | ((with_reducible refine lst (by with_unfolding_all rfl) (wp_falloc hF1 (cs := vl0) (z := .agg (List.toArray (vl0))) rfl (by kernel_rfl) (by with_unfolding_all rfl) ?_)); intro w2 g2 hF2 hz2) | (with_reducible refine lst (by with_unfolding_all rfl) (wp_fldA1 hF2 Tryd.underlying33 rfl (by with_unfolding_all exact ⟨_, rfl, rfl⟩) (ds := (vlL k n ⟨t.toArray⟩ (.slice An nn cn) (.slice Ak nk ck))) (by rw [vlL_len]; kernel_rfl) (take_all _) ?_)) | ((with_reducible refine lst (by with_unfolding_all rfl) (wp_falloc hF2 (cs := vl0) (z := .agg (List.toArray (vl0))) rfl (by kernel_rfl) (by with_unfolding_all rfl) ?_)); intro w3 g3 hF3 hz3) | ((with_reducible refine lst (by with_unfolding_all rfl) (wp_fstA0 hF3 (by with_unfolding_all exact ⟨_, _, rfl, rfl, rfl⟩) (by rw [vlL_len]; kernel_rfl) vlL_one vlL_fit vlL_spl ?_)); intro w4 hF4 hz4) | ((with_reducible refine lst (by with_unfolding_all rfl) (wp_fst0 hF4 (by with_unfolding_all exact ⟨_, _, rfl, rfl, rfl⟩) (by kernel_rfl) rfl rfl (by rw [vlL_len]; decide) vlL_4 ?_)); intro w5 hF5 hz5))
    have hF6 := (hF5.none_ w.heap.size 33 5).picks [1, 0, 4, 2, 3] (fs := (.blk g3 33 (vlL k n ⟨t.toArray⟩ (.slice An nn cn) (.slice none 0 0)) :: .own w.heap.size 33 5 (.slice none 0 0) 0 [] :: .blk gl 3 [.int .i64 (m : Int)] :: .blk g2 33 vl0 :: .blk g1 33 (vlL k n ⟨t.toArray⟩ (.slice An nn cn) (.slice Ak nk ck)) :: [])) rfl (by decide)
    clear hF0 hF1 hF2 hF3 hF4 hF5
    go_wp2_with fail
    go_loopg [8] nk (fun gk s wr => ∃ (i : Nat) (Ai : Option Addr) (ci' : Nat) (xs : List Value) (ys : List JV) (TE : List Ent) (m' : Nat), i ≤ nk ∧ Box (gk = nk - i) ∧ s = .int .i64 (i : Int) ∧ i ≤ ci' ∧ i = 0 ∧ m' ≤ m ∧ Box (VCL w B ys xs TE) ∧ Box ((([] : List JV), m) = (ys ++ [], m')) ∧ Fr [gl] w wr (.blk g3 33 (vlL k n ⟨t.toArray⟩ (.slice An nn cn) (.slice Ai i ci')) :: .own w.heap.size 33 5 (.slice Ai i ci') i xs :: .blk gl 3 [.int .i64 (m' : Int)] :: .blk g2 33 vl0 :: .blk g1 33 (vlL k n ⟨t.toArray⟩ (.slice An nn cn) (.slice Ak nk ck)) :: TE))
    case atStart => exact ⟨0, none, 0, [], [], [], m, by omega, box rfl, rfl, by omega, rfl, Nat.le_refl _, box VCL.nil, box (by simp), hF6⟩
    case round =>
      clear hF6
      obtain ⟨i, Ai, ci', xs, ys, TE, m', hi, hk, rfl, hci', h0, hm', hT, hJ, hF⟩ := hrel
      have hkf : Box (gk = nk - i) := hk
      clear hk
      subst h0
      by_cases hz0 : 0 < nk
      · go_wp2_with (first | (with_reducible refine lst (by with_unfolding_all rfl) (wp_fld4 hF Tryd.underlying31 rfl (by with_unfolding_all exact ⟨_, rfl, rfl⟩) rfl ?_)) | (with_reducible refine lst (by with_unfolding_all rfl) (wp_fld2 hF Tryd.underlying3 rfl (by with_unfolding_all exact ⟨_, rfl, rfl⟩) rfl ?_)) | (with_reducible refine lst (by with_unfolding_all rfl) (wp_fldA0 hF Tryd.underlying33 rfl (by with_unfolding_all exact ⟨_, rfl, rfl⟩) (ds := (vlL k n ⟨t.toArray⟩ (.slice An nn cn) (.slice Ai 0 ci'))) (by rw [vlL_len]; kernel_rfl) (take_all _) ?_)) | ((with_reducible refine lst (by with_unfolding_all rfl) (wp_fstA3 hF (by with_unfolding_all exact ⟨_, _, rfl, rfl, rfl⟩) (by rw [vlL_len]; kernel_rfl) vlL_one vlL_fit vlL_spl ?_)); intro w9 hF9 hz9))
        exact bodyPost_ret (results_cellF rfl _ hF9 (i := 3) rfl rfl Tryd.underlying33 rfl (by rw [vlL_len]; kernel_rfl)) rfl (by
          have hjc : jCutN (0) (.mk k n t ns ks) m = (.mk k n t ns ys, m') := by have h := hJ.out; simp only [List.append_nil, Prod.mk.injEq] at h; rw [jCutN, ← h.1, ← h.2]
          rw [hjc]
          refine ⟨_, _, rfl, VC.mk_ hcn hci' hrn hT.out, ?_⟩
          have h1 := hF9.toRd (i := 1) rfl
          simp only [List.set_cons_succ, List.set_cons_zero] at h1
          refine (h1.sub (es' := .rd Ai 5 0 xs :: .blk gl 3 [.int .i64 (m' : Int)] :: TE) ?_).perm (List.Perm.swap _ _ _)
          exact (((List.Sublist.refl _).cons _).cons _).cons_cons _ |>.cons_cons _ |>.cons _)
      · go_wp2_with (first | (with_reducible refine lst (by with_unfolding_all rfl) (wp_fld4 hF Tryd.underlying31 rfl (by with_unfolding_all exact ⟨_, rfl, rfl⟩) rfl ?_)) | (with_reducible refine lst (by with_unfolding_all rfl) (wp_fld2 hF Tryd.underlying3 rfl (by with_unfolding_all exact ⟨_, rfl, rfl⟩) rfl ?_)) | (with_reducible refine lst (by with_unfolding_all rfl) (wp_fldA0 hF Tryd.underlying33 rfl (by with_unfolding_all exact ⟨_, rfl, rfl⟩) (ds := (vlL k n ⟨t.toArray⟩ (.slice An nn cn) (.slice Ai 0 ci'))) (by rw [vlL_len]; kernel_rfl) (take_all _) ?_)) | ((with_reducible refine lst (by with_unfolding_all rfl) (wp_fstA3 hF (by with_unfolding_all exact ⟨_, _, rfl, rfl, rfl⟩) (by rw [vlL_len]; kernel_rfl) vlL_one vlL_fit vlL_spl ?_)); intro w9 hF9 hz9))
        exact bodyPost_ret (results_cellF rfl _ hF9 (i := 3) rfl rfl Tryd.underlying33 rfl (by rw [vlL_len]; kernel_rfl)) rfl (by
          have hjc : jCutN (0) (.mk k n t ns ks) m = (.mk k n t ns ys, m') := by have h := hJ.out; simp only [List.append_nil, Prod.mk.injEq] at h; rw [jCutN, ← h.1, ← h.2]
          rw [hjc]
          refine ⟨_, _, rfl, VC.mk_ hcn hci' hrn hT.out, ?_⟩
          have h1 := hF9.toRd (i := 1) rfl
          simp only [List.set_cons_succ, List.set_cons_zero] at h1
          refine (h1.sub (es' := .rd Ai 5 0 xs :: .blk gl 3 [.int .i64 (m' : Int)] :: TE) ?_).perm (List.Perm.swap _ _ _)
          exact (((List.Sublist.refl _).cons _).cons _).cons_cons _ |>.cons_cons _ |>.cons _)
  | succ d ih =>
    intro v cs w gl m B hd hm hv hsm hgl hB hh
    obtain ⟨k, n, t, ns, ks⟩ := v
    rw [VRd] at hv
    obtain ⟨An, nn, cn, Ak, nk, ck, xk, hcn, hck, rfl, hrn, hrk, hvk⟩ := hv
    rw [JSm] at hsm
    obtain ⟨hs1, hs2, hs3⟩ := hsm
    have hnk : ks.length = nk := by have := hrk.len; rw [hvk.len] at this; omega
    rw [hnk] at hs2
    replace hnk := box hnk
    replace hvk := box hvk
    replace hs1 := box hs1
    have hF0 := Fr.one hh
    clear hh
    go_enter Tryd.func17, Tryd.ntmps17
    go_upto_region 3 with (first | ((with_reducible refine lst (by with_unfolding_all rfl) (wp_fbox hF0 (cs := (vlL k n ⟨t.toArray⟩ (.slice An nn cn) (.slice Ak nk ck))) rfl (by with_unfolding_all rfl) (by with_unfolding_all rfl) ?_)); intro w1 g1 hF1 hz1) | ((with_reducible refine lst (by with_unfolding_all rfl) (wp_falloc hF1 (cs := vl0) (z := .agg (List.toArray (vl0))) rfl (by kernel_rfl) (by with_unfolding_all rfl) ?_)); intro w2 g2 hF2 hz2) | (with_reducible refine lst (by with_unfolding_all rfl) (wp_fldA1 hF2 Tryd.underlying33 rfl (by with_unfolding_all exact ⟨_, rfl, rfl⟩) (ds := (vlL k n ⟨t.toArray⟩ (.slice An nn cn) (.slice Ak nk ck))) (by rw [vlL_len]; kernel_rfl) (take_all _) ?_)) | ((with_reducible refine lst (by with_unfolding_all rfl) (wp_falloc hF2 (cs := vl0) (z := .agg (List.toArray (vl0))) rfl (by kernel_rfl) (by with_unfolding_all rfl) ?_)); intro w3 g3 hF3 hz3) | ((with_reducible refine lst (by with_unfolding_all rfl) (wp_fstA0 hF3 (by with_unfolding_all exact ⟨_, _, rfl, rfl, rfl⟩) (by rw [vlL_len]; kernel_rfl) vlL_one vlL_fit vlL_spl ?_)); intro w4 hF4 hz4) | ((with_reducible refine lst (by with_unfolding_all rfl) (wp_fst0 hF4 (by with_unfolding_all exact ⟨_, _, rfl, rfl, rfl⟩) (by kernel_rfl) rfl rfl (by rw [vlL_len]; decide) vlL_4 ?_)); intro w5 hF5 hz5))
    have hF6 := (hF5.none_ w.heap.size 33 5).picks [1, 0, 4, 2, 3] (fs := (.blk g3 33 (vlL k n ⟨t.toArray⟩ (.slice An nn cn) (.slice none 0 0)) :: .own w.heap.size 33 5 (.slice none 0 0) 0 [] :: .blk gl 3 [.int .i64 (m : Int)] :: .blk g2 33 vl0 :: .blk g1 33 (vlL k n ⟨t.toArray⟩ (.slice An nn cn) (.slice Ak nk ck)) :: [])) rfl (by decide)
    clear hF0 hF1 hF2 hF3 hF4 hF5
    go_wp2_with fail
    go_loopg [8] nk (fun gk s wr => ∃ (i : Nat) (Ai : Option Addr) (ci' : Nat) (xs : List Value) (ys : List JV) (TE : List Ent) (m' : Nat), i ≤ nk ∧ Box (gk = nk - i) ∧ s = .int .i64 (i : Int) ∧ i ≤ ci' ∧ True ∧ m' ≤ m ∧ Box (VCL w B ys xs TE) ∧ Box (jCutL (jCutN d) ks m = (ys ++ (jCutL (jCutN d) (ks.drop i) m').1, (jCutL (jCutN d) (ks.drop i) m').2)) ∧ Fr [gl] w wr (.blk g3 33 (vlL k n ⟨t.toArray⟩ (.slice An nn cn) (.slice Ai i ci')) :: .own w.heap.size 33 5 (.slice Ai i ci') i xs :: .blk gl 3 [.int .i64 (m' : Int)] :: .blk g2 33 vl0 :: .blk g1 33 (vlL k n ⟨t.toArray⟩ (.slice An nn cn) (.slice Ak nk ck)) :: TE))
    case atStart => exact ⟨0, none, 0, [], [], [], m, by omega, box rfl, rfl, by omega, trivial, Nat.le_refl _, box VCL.nil, box (by simp), hF6⟩
    case round =>
      clear hF6
      obtain ⟨i, Ai, ci', xs, ys, TE, m', hi, hk, rfl, hci', h0, hm', hT, hJ, hF⟩ := hrel
      have hkf : Box (gk = nk - i) := hk
      clear hk
      by_cases hlt : i < nk
      · by_cases hm0 : 0 < m'
        · obtain ⟨vi, hvi⟩ : ∃ vi, ks[i]? = some vi := ⟨ks[i]'(by rw [hnk.out]; exact hlt), by simp⟩
          obtain ⟨ci, hci, hvri⟩ := hvk.out.at hvi
          have hcil := box hvri.len
          replace hci := box hci
          have hsi := hs3.at hvi
          obtain ⟨m1, rfl⟩ : ∃ m1, m' = m1 + 1 := ⟨m' - 1, by omega⟩
          have ihc := box (fun (w' : World) (es : List Ent) (hF' : Fr [gl] w w' es) (hh : w'.heap[gl]? = some (.cells [Value.int .i64 (m1 : Int)].toArray 3 (0, 0))) => ih vi ci w' gl m1 B (by omega) (by omega) (hvri.onG (hF'.belowG hgl hB)) hsi hgl (Nat.le_trans hB hF'.size) hh)
          have hT2 : Box (∀ (w' : World) (es : List Ent), Fr [gl] w w' es → ∀ c e, VC w' B (jCutN d vi m1).1 c e → VCL w B (ys ++ [(jCutN d vi m1).1]) (xs ++ c) (TE ++ e)) := box (fun w' es hF' c e h => hT.out.snoc (h.keep fun k hk => ((hF'.belowG hgl hB).block k hk).symm))
          have hJ2 := box (jCutL_step hvi hJ.out)
          have hle := jCutN_le d vi m1
          obtain ⟨m2, hm2⟩ : ∃ m2, m2 = (jCutN d vi m1).2 := ⟨_, rfl⟩
          rw [← hm2] at hle
          replace hm2 := box hm2
          have hwp := wrap64_pred (d := d) (by omega)
          replace hvi := box hvi
          replace hvri := box hvri
          replace hsi := box hsi
          replace hs3 := box hs3
          go_upto_region 7 with (first | (with_reducible refine lst (by with_unfolding_all rfl) (wp_fld4 hF Tryd.underlying31 rfl (by with_unfolding_all exact ⟨_, rfl, rfl⟩) rfl ?_)) | (with_reducible refine lst (by with_unfolding_all rfl) (wp_fld2 hF Tryd.underlying3 rfl (by with_unfolding_all exact ⟨_, rfl, rfl⟩) rfl ?_)) | ((with_reducible refine lst (by with_unfolding_all rfl) (wp_fst2 hF (by with_unfolding_all exact ⟨_, _, rfl, rfl, rfl⟩) (by kernel_rfl) rfl rfl (by first | decide | (simp; done) | (simp; omega)) (spl1' _ (.int .i64 ((m1 : Nat) : Int))) ?_)); intro w7 hF7 hz7))
          have hFd := hF7.drew
          refine wp_region_held (S := fun w' => w'.heap[g1]? = some (.cells (List.toArray (vlL k n ⟨t.toArray⟩ (.slice An nn cn) (.slice Ak nk ck))) 33 (0, 0)) ∧ Rd w' (· < B) Ak 5 nk xk) (by kernel_rfl) ?_
          change wpAnyH _ _ _ _ _ _ _ _ (World.drew _)
          refine tkp 0 ⟨hFd.blk (i := 4) rfl, hrk.onG hFd hgl hB⟩ ?_
          (try simp only [Act.put, List.setIfInBounds_toArray, List.set_cons_zero, List.set_cons_succ])
          refine tkp 2 ⟨hFd.blk (i := 4) rfl, hrk.onG hFd hgl hB⟩ ?_
          (try simp only [Act.put, List.setIfInBounds_toArray, List.set_cons_zero, List.set_cons_succ])
          refine tky 3 (y := yi_fld (by with_unfolding_all rfl) (fun _ h => h.1) Tryd.underlying31 rfl (by with_unfolding_all exact ⟨_, rfl, rfl⟩) rfl) (s := ⟨hFd.blk (i := 4) rfl, hrk.onG hFd hgl hB⟩) (h := ?_)
          (try simp only [Act.put, List.setIfInBounds_toArray, List.set_cons_zero, List.set_cons_succ])
          refine tkp 4 ⟨hFd.blk (i := 4) rfl, hrk.onG hFd hgl hB⟩ ?_
          (try simp only [Act.put, List.setIfInBounds_toArray, List.set_cons_zero, List.set_cons_succ])
          refine tky 5 (y := yi_ix (by with_unfolding_all rfl) T_rvals (fun h => hrk.some_ h) (k := i) (by with_unfolding_all exact ⟨_, _, _, _, rfl, rfl, rfl⟩) rfl (by omega)) (s := ⟨hFd.blk (i := 4) rfl, hrk.onG hFd hgl hB⟩) (h := ?_)
          (try simp only [Act.put, List.setIfInBounds_toArray, List.set_cons_zero, List.set_cons_succ])
          refine tky 6 (y := yi_ldA (by with_unfolding_all rfl) (fun _ h => h.2) Tryd.underlying33 rfl (by with_unfolding_all exact ⟨_, rfl, rfl⟩) (ds := ci) (by rw [hcil.out]; kernel_rfl) (by rw [hcil.out]; exact hci.out)) (s := ⟨hFd.blk (i := 4) rfl, hrk.onG hFd hgl hB⟩) (h := ?_)
          (try simp only [Act.put, List.setIfInBounds_toArray, List.set_cons_zero, List.set_cons_succ])
          refine tkp 7 ⟨hFd.blk (i := 4) rfl, hrk.onG hFd hgl hB⟩ ?_
          (try simp only [Act.put, List.setIfInBounds_toArray, List.set_cons_zero, List.set_cons_succ])
          refine tkp 8 ⟨hFd.blk (i := 4) rfl, hrk.onG hFd hgl hB⟩ ?_
          (try simp only [Act.put, List.setIfInBounds_toArray, List.set_cons_zero, List.set_cons_succ])
          refine tkp 9 ⟨hFd.blk (i := 4) rfl, hrk.onG hFd hgl hB⟩ ?_
          (try simp only [Act.put, List.setIfInBounds_toArray, List.set_cons_zero, List.set_cons_succ])
          refine wpAnyH_ready (rs := [1, 10]) (by kernel_rfl) (by simp) ?_
          refine AllReadyH.cons (by simp only [List.getElem?_toArray, List.getElem?_cons_zero, List.getElem?_cons_succ]; rfl) (fun K hK => ?_) ?_
          · refine stp (by with_unfolding_all rfl) (wp_fld hFd (i := 0) rfl Tryd.underlying31 rfl (by with_unfolding_all exact ⟨_, rfl, rfl⟩) rfl ?_)
            refine hK.out _ _ (⟨hFd.blk (i := 4) rfl, hrk.onG hFd hgl hB⟩) (fun _ => ?_)
            clear hK K
            (try simp only [Act.put, List.setIfInBounds_toArray, List.set_cons_zero, List.set_cons_succ])
            refine rdy1 10 (fun K hK => ?_)
            refine stp (by with_unfolding_all rfl) (wp_call Tryd.func17 rfl (by with_unfolding_all rfl) (by with_unfolding_all rfl) (by with_unfolding_all rfl) (ihc.out _ _ hFd (hFd.blk (i := 2) rfl)) ?_)
            rintro e w31 ⟨cs31, es31, rfl, hvt31, hv31⟩
            refine ⟨_, rfl, ?_⟩
            have hF31 := hFd.putG (i := 2) rfl hv31
            simp only [List.set_cons_zero, List.set_cons_succ, List.cons_append] at hF31
            rw [← hm2.out] at hF31
            have hTn31 := box (hT2.out _ _ hFd _ _ hvt31)
            refine hK.out _ _ (⟨hF31.blk (i := 4) rfl, hrk.onG hF31 hgl hB⟩) (fun _ => ?_)
            clear hK K
            (try simp only [Act.put, List.setIfInBounds_toArray, List.set_cons_zero, List.set_cons_succ])
            refine rdy1 11 (fun K hK => ?_)
            refine stp (by with_unfolding_all rfl) (wp_fbs1 T_rvals hF31 (by with_unfolding_all rfl) (ds := cs31) (by with_unfolding_all rfl) hvt31.len (by decide) ?_)
            intro w32 g32 hF32 hz32
            refine hK.out _ _ (⟨hF32.blk (i := 5) rfl, hrk.onG hF32 hgl hB⟩) (fun _ => ?_)
            clear hK K
            (try simp only [Act.put, List.setIfInBounds_toArray, List.set_cons_zero, List.set_cons_succ])
            refine rdy1 12 (fun K hK => ?_)
            refine stp (by with_unfolding_all rfl) (wp_fappG T_rvals hF32 (i := 2) rfl (Nat.le_refl _) (hF32.rdOwn (i := 0) rfl) hvt31.one (by with_unfolding_all exact ⟨_, _, rfl, rfl, rfl⟩) (by unfold maxLen; omega) (by omega) ?_)
            intro v33 w33 hF33 hz33
            (try simp only [List.set_cons_zero, List.set_cons_succ] at hF33)
            obtain ⟨A33, c33, rfl, hc33⟩ := hF33.ownParts (i := 2) rfl
            refine hK.out _ _ (⟨hF33.blk (i := 5) rfl, hrk.onG hF33 hgl hB⟩) (fun _ => ?_)
            clear hK K
            (try simp only [Act.put, List.setIfInBounds_toArray, List.set_cons_zero, List.set_cons_succ])
            refine tkp 13 ⟨hF33.blk (i := 5) rfl, hrk.onG hF33 hgl hB⟩ ?_
            (try simp only [Act.put, List.setIfInBounds_toArray, List.set_cons_zero, List.set_cons_succ])
            refine rdy1 14 (fun K hK => ?_)
            refine stp (by with_unfolding_all rfl) (wp_fst hF33 (i := 1) rfl (v := .slice A33 (i + 1) c33) (by with_unfolding_all exact ⟨_, _, rfl, rfl, rfl⟩) (by kernel_rfl) rfl rfl (by rw [vlL_len]; decide) ?_)
            intro w34 hF34 hz34
            (try simp only [List.set_cons_zero, List.set_cons_succ] at hF34)
            rw [(vlL_4 (k := k) (n := n) (t := ⟨t.toArray⟩) (a := .slice An nn cn) (b := .slice Ai i ci'))] at hF34
            refine hK.out _ _ (⟨hF34.blk (i := 5) rfl, hrk.onG hF34 hgl hB⟩) (fun _ => ?_)
            clear hK K
            (try simp only [Act.put, List.setIfInBounds_toArray, List.set_cons_zero, List.set_cons_succ])
            refine wpAnyH_done (by kernel_rfl) ?_ _
            go_wp2_with fail
            go_roundg (nk - (i + 1))
            case rel => exact ⟨i + 1, A33, c33, _, _, _, m2, by omega, box rfl, by go_num, hc33, trivial, by omega, hTn31, box (by rw [hm2.out]; exact hJ2.out), hF34.tail⟩
            case measure => have := hkf.out; omega
          refine AllReadyH.cons (by simp only [List.getElem?_toArray, List.getElem?_cons_zero, List.getElem?_cons_succ]; rfl) (fun K hK => ?_) ?_
          · refine stp (by with_unfolding_all rfl) (wp_call Tryd.func17 rfl (by with_unfolding_all rfl) (by with_unfolding_all rfl) (by with_unfolding_all rfl) (ihc.out _ _ hFd (hFd.blk (i := 2) rfl)) ?_)
            rintro e w31 ⟨cs31, es31, rfl, hvt31, hv31⟩
            refine ⟨_, rfl, ?_⟩
            have hF31 := hFd.putG (i := 2) rfl hv31
            simp only [List.set_cons_zero, List.set_cons_succ, List.cons_append] at hF31
            rw [← hm2.out] at hF31
            have hTn31 := box (hT2.out _ _ hFd _ _ hvt31)
            refine hK.out _ _ (⟨hF31.blk (i := 4) rfl, hrk.onG hF31 hgl hB⟩) (fun _ => ?_)
            clear hK K
            (try simp only [Act.put, List.setIfInBounds_toArray, List.set_cons_zero, List.set_cons_succ])
            refine wpAnyH_ready (rs := [1, 11]) (by kernel_rfl) (by simp) ?_
            refine AllReadyH.cons (by simp only [List.getElem?_toArray, List.getElem?_cons_zero, List.getElem?_cons_succ]; rfl) (fun K hK => ?_) ?_
            · refine stp (by with_unfolding_all rfl) (wp_fld hF31 (i := 0) rfl Tryd.underlying31 rfl (by with_unfolding_all exact ⟨_, rfl, rfl⟩) rfl ?_)
              refine hK.out _ _ (⟨hF31.blk (i := 4) rfl, hrk.onG hF31 hgl hB⟩) (fun _ => ?_)
              clear hK K
              (try simp only [Act.put, List.setIfInBounds_toArray, List.set_cons_zero, List.set_cons_succ])
              refine rdy1 11 (fun K hK => ?_)
              refine stp (by with_unfolding_all rfl) (wp_fbs1 T_rvals hF31 (by with_unfolding_all rfl) (ds := cs31) (by with_unfolding_all rfl) hvt31.len (by decide) ?_)
              intro w32 g32 hF32 hz32
              refine hK.out _ _ (⟨hF32.blk (i := 5) rfl, hrk.onG hF32 hgl hB⟩) (fun _ => ?_)
              clear hK K
              (try simp only [Act.put, List.setIfInBounds_toArray, List.set_cons_zero, List.set_cons_succ])
              refine rdy1 12 (fun K hK => ?_)
              refine stp (by with_unfolding_all rfl) (wp_fappG T_rvals hF32 (i := 2) rfl (Nat.le_refl _) (hF32.rdOwn (i := 0) rfl) hvt31.one (by with_unfolding_all exact ⟨_, _, rfl, rfl, rfl⟩) (by unfold maxLen; omega) (by omega) ?_)
              intro v33 w33 hF33 hz33
              (try simp only [List.set_cons_zero, List.set_cons_succ] at hF33)
              obtain ⟨A33, c33, rfl, hc33⟩ := hF33.ownParts (i := 2) rfl
              refine hK.out _ _ (⟨hF33.blk (i := 5) rfl, hrk.onG hF33 hgl hB⟩) (fun _ => ?_)
              clear hK K
              (try simp only [Act.put, List.setIfInBounds_toArray, List.set_cons_zero, List.set_cons_succ])
              refine tkp 13 ⟨hF33.blk (i := 5) rfl, hrk.onG hF33 hgl hB⟩ ?_
              (try simp only [Act.put, List.setIfInBounds_toArray, List.set_cons_zero, List.set_cons_succ])
              refine rdy1 14 (fun K hK => ?_)
              refine stp (by with_unfolding_all rfl) (wp_fst hF33 (i := 1) rfl (v := .slice A33 (i + 1) c33) (by with_unfolding_all exact ⟨_, _, rfl, rfl, rfl⟩) (by kernel_rfl) rfl rfl (by rw [vlL_len]; decide) ?_)
              intro w34 hF34 hz34
              (try simp only [List.set_cons_zero, List.set_cons_succ] at hF34)
              rw [(vlL_4 (k := k) (n := n) (t := ⟨t.toArray⟩) (a := .slice An nn cn) (b := .slice Ai i ci'))] at hF34
              refine hK.out _ _ (⟨hF34.blk (i := 5) rfl, hrk.onG hF34 hgl hB⟩) (fun _ => ?_)
              clear hK K
              (try simp only [Act.put, List.setIfInBounds_toArray, List.set_cons_zero, List.set_cons_succ])
              refine wpAnyH_done (by kernel_rfl) ?_ _
              go_wp2_with fail
              go_roundg (nk - (i + 1))
              case rel => exact ⟨i + 1, A33, c33, _, _, _, m2, by omega, box rfl, by go_num, hc33, trivial, by omega, hTn31, box (by rw [hm2.out]; exact hJ2.out), hF34.tail⟩
              case measure => have := hkf.out; omega
            refine AllReadyH.cons (by simp only [List.getElem?_toArray, List.getElem?_cons_zero, List.getElem?_cons_succ]; rfl) (fun K hK => ?_) ?_
            · refine stp (by with_unfolding_all rfl) (wp_fbs1 T_rvals hF31 (by with_unfolding_all rfl) (ds := cs31) (by with_unfolding_all rfl) hvt31.len (by decide) ?_)
              intro w32 g32 hF32 hz32
              refine hK.out _ _ (⟨hF32.blk (i := 5) rfl, hrk.onG hF32 hgl hB⟩) (fun _ => ?_)
              clear hK K
              (try simp only [Act.put, List.setIfInBounds_toArray, List.set_cons_zero, List.set_cons_succ])
              refine rdy1 1 (fun K hK => ?_)
              refine stp (by with_unfolding_all rfl) (wp_fld hF32 (i := 1) rfl Tryd.underlying31 rfl (by with_unfolding_all exact ⟨_, rfl, rfl⟩) rfl ?_)
              refine hK.out _ _ (⟨hF32.blk (i := 5) rfl, hrk.onG hF32 hgl hB⟩) (fun _ => ?_)
              clear hK K
              (try simp only [Act.put, List.setIfInBounds_toArray, List.set_cons_zero, List.set_cons_succ])
              refine rdy1 12 (fun K hK => ?_)
              refine stp (by with_unfolding_all rfl) (wp_fappG T_rvals hF32 (i := 2) rfl (Nat.le_refl _) (hF32.rdOwn (i := 0) rfl) hvt31.one (by with_unfolding_all exact ⟨_, _, rfl, rfl, rfl⟩) (by unfold maxLen; omega) (by omega) ?_)
              intro v33 w33 hF33 hz33
              (try simp only [List.set_cons_zero, List.set_cons_succ] at hF33)
              obtain ⟨A33, c33, rfl, hc33⟩ := hF33.ownParts (i := 2) rfl
              refine hK.out _ _ (⟨hF33.blk (i := 5) rfl, hrk.onG hF33 hgl hB⟩) (fun _ => ?_)
              clear hK K
              (try simp only [Act.put, List.setIfInBounds_toArray, List.set_cons_zero, List.set_cons_succ])
              refine tkp 13 ⟨hF33.blk (i := 5) rfl, hrk.onG hF33 hgl hB⟩ ?_
              (try simp only [Act.put, List.setIfInBounds_toArray, List.set_cons_zero, List.set_cons_succ])
              refine rdy1 14 (fun K hK => ?_)
              refine stp (by with_unfolding_all rfl) (wp_fst hF33 (i := 1) rfl (v := .slice A33 (i + 1) c33) (by with_unfolding_all exact ⟨_, _, rfl, rfl, rfl⟩) (by kernel_rfl) rfl rfl (by rw [vlL_len]; decide) ?_)
              intro w34 hF34 hz34
              (try simp only [List.set_cons_zero, List.set_cons_succ] at hF34)
              rw [(vlL_4 (k := k) (n := n) (t := ⟨t.toArray⟩) (a := .slice An nn cn) (b := .slice Ai i ci'))] at hF34
              refine hK.out _ _ (⟨hF34.blk (i := 5) rfl, hrk.onG hF34 hgl hB⟩) (fun _ => ?_)
              clear hK K
              (try simp only [Act.put, List.setIfInBounds_toArray, List.set_cons_zero, List.set_cons_succ])
              refine wpAnyH_done (by kernel_rfl) ?_ _
              go_wp2_with fail
              go_roundg (nk - (i + 1))
              case rel => exact ⟨i + 1, A33, c33, _, _, _, m2, by omega, box rfl, by go_num, hc33, trivial, by omega, hTn31, box (by rw [hm2.out]; exact hJ2.out), hF34.tail⟩
              case measure => have := hkf.out; omega
            exact AllReadyH.nil
          exact AllReadyH.nil
        · have hjc0 : Box (jCutN (d + 1) (.mk k n t ns ks) m = (.mk k n t ns ys, m')) := box (by
            obtain rfl : m' = 0 := by omega
            have h := hJ.out
            rw [jCutL_zero] at h
            rw [jCutN, h, List.append_nil])
          clear hJ
          go_wp2_with (first | (with_reducible refine lst (by with_unfolding_all rfl) (wp_fld4 hF Tryd.underlying31 rfl (by with_unfolding_all exact ⟨_, rfl, rfl⟩) rfl ?_)) | (with_reducible refine lst (by with_unfolding_all rfl) (wp_fld2 hF Tryd.underlying3 rfl (by with_unfolding_all exact ⟨_, rfl, rfl⟩) rfl ?_)) | (with_reducible refine lst (by with_unfolding_all rfl) (wp_fldA0 hF Tryd.underlying33 rfl (by with_unfolding_all exact ⟨_, rfl, rfl⟩) (ds := (vlL k n ⟨t.toArray⟩ (.slice An nn cn) (.slice Ai i ci'))) (by rw [vlL_len]; kernel_rfl) (take_all _) ?_)) | ((with_reducible refine lst (by with_unfolding_all rfl) (wp_fstA3 hF (by with_unfolding_all exact ⟨_, _, rfl, rfl, rfl⟩) (by rw [vlL_len]; kernel_rfl) vlL_one vlL_fit vlL_spl ?_)); intro w9 hF9 hz9))
          exact bodyPost_ret (results_cellF rfl _ hF9 (i := 3) rfl rfl Tryd.underlying33 rfl (by rw [vlL_len]; kernel_rfl)) rfl (by
            have hjc : jCutN (d + 1) (.mk k n t ns ks) m = (.mk k n t ns ys, m') := by exact hjc0.out
            rw [hjc]
            refine ⟨_, _, rfl, VC.mk_ hcn hci' hrn hT.out, ?_⟩
            have h1 := hF9.toRd (i := 1) rfl
            simp only [List.set_cons_succ, List.set_cons_zero] at h1
            refine (h1.sub (es' := .rd Ai 5 i xs :: .blk gl 3 [.int .i64 (m' : Int)] :: TE) ?_).perm (List.Perm.swap _ _ _)
            exact (((List.Sublist.refl _).cons _).cons _).cons_cons _ |>.cons_cons _ |>.cons _)
      · have hjc0 : Box (jCutN (d + 1) (.mk k n t ns ks) m = (.mk k n t ns ys, m')) := box (by
          have h := hJ.out
          rw [List.drop_of_length_le (by rw [hnk.out]; omega), jCutL] at h
          rw [jCutN, h, List.append_nil])
        clear hJ
        go_wp2_with (first | (with_reducible refine lst (by with_unfolding_all rfl) (wp_fld4 hF Tryd.underlying31 rfl (by with_unfolding_all exact ⟨_, rfl, rfl⟩) rfl ?_)) | (with_reducible refine lst (by with_unfolding_all rfl) (wp_fld2 hF Tryd.underlying3 rfl (by with_unfolding_all exact ⟨_, rfl, rfl⟩) rfl ?_)) | (with_reducible refine lst (by with_unfolding_all rfl) (wp_fldA0 hF Tryd.underlying33 rfl (by with_unfolding_all exact ⟨_, rfl, rfl⟩) (ds := (vlL k n ⟨t.toArray⟩ (.slice An nn cn) (.slice Ai i ci'))) (by rw [vlL_len]; kernel_rfl) (take_all _) ?_)) | ((with_reducible refine lst (by with_unfolding_all rfl) (wp_fstA3 hF (by with_unfolding_all exact ⟨_, _, rfl, rfl, rfl⟩) (by rw [vlL_len]; kernel_rfl) vlL_one vlL_fit vlL_spl ?_)); intro w9 hF9 hz9))
        exact bodyPost_ret (results_cellF rfl _ hF9 (i := 3) rfl rfl Tryd.underlying33 rfl (by rw [vlL_len]; kernel_rfl)) rfl (by
          have hjc : jCutN (d + 1) (.mk k n t ns ks) m = (.mk k n t ns ys, m') := by exact hjc0.out
          rw [hjc]
          refine ⟨_, _, rfl, VC.mk_ hcn hci' hrn hT.out, ?_⟩
          have h1 := hF9.toRd (i := 1) rfl
          simp only [List.set_cons_succ, List.set_cons_zero] at h1
          refine (h1.sub (es' := .rd Ai 5 i xs :: .blk gl 3 [.int .i64 (m' : Int)] :: TE) ?_).perm (List.Perm.swap _ _ _)
          exact (((List.Sublist.refl _).cons _).cons _).cons_cons _ |>.cons_cons _ |>.cons _)

end Go.Proofs.YtdekogmegdhjoaaDoor

namespace Go.Proofs.YtdekogmegdhjoaaDoor
open Go.RowKit

def jFieldL (nm : List UInt8) : List (List UInt8) → List JV → Option JV
  | s :: ns, v :: ks => if s = nm then some v else jFieldL nm ns ks
  | _, _ => none
/-- A member of an object. -/
def jField (nm : List UInt8) : JV → Option JV
  | .mk k _ _ ns ks => if k = 6 then jFieldL nm ns ks else none
theorem jFieldL_here {nm : List UInt8} {ns : List (List UInt8)} {ks : List JV} {i : Nat} {v : JV} (hs : ns[i]? = some nm) (hv : ks[i]? = some v) : jFieldL nm (ns.drop i) (ks.drop i) = some v := by
  rw [List.drop_eq_getElem_cons (List.getElem?_eq_some_iff.1 hv).1, (List.getElem?_eq_some_iff.1 hv).2, List.drop_eq_getElem_cons (List.getElem?_eq_some_iff.1 hs).1, (List.getElem?_eq_some_iff.1 hs).2, jFieldL, if_pos rfl]
theorem jFieldL_out {nm : List UInt8} {ns : List (List UInt8)} {ks : List JV} {i : Nat} (h : ns.length ≤ i ∨ ks.length ≤ i) : jFieldL nm (ns.drop i) (ks.drop i) = none := by
  rcases h with h | h
  · rw [List.drop_of_length_le h, jFieldL]; rintro _ _ _ _ h; cases h
  · rw [List.drop_of_length_le h, jFieldL]; rintro _ _ _ _ _ h; cases h
theorem jFieldL_next {nm s : List UInt8} {ns : List (List UInt8)} {ks : List JV} {i : Nat} (hs : ns[i]? = some s) (h : s ≠ nm ∨ ks.length ≤ i) : jFieldL nm (ns.drop i) (ks.drop i) = jFieldL nm (ns.drop (i + 1)) (ks.drop (i + 1)) := by
  rcases Nat.lt_or_ge i ks.length with hi | hi
  · have hv : ks[i]? = some ks[i] := List.getElem?_eq_getElem hi
    rw [List.drop_eq_getElem_cons hi, List.drop_eq_getElem_cons (List.getElem?_eq_some_iff.1 hs).1, (List.getElem?_eq_some_iff.1 hs).2, jFieldL, if_neg (h.resolve_right (by omega))]
  · rw [jFieldL_out (.inr hi), jFieldL_out (.inr (by omega))]
/-- What the two programs' Field tells. -/
def FieldPost (w : World) (B : Nat) (nm : List UInt8) (v : JV) (e : Ending) (w' : World) : Prop :=
  ∃ cs', e = .returned (.tuple #[.agg cs'.toArray, .bool (jField nm v).isSome]) ∧ VRd w (· < B) ((jField nm v).getD .null) cs' ∧ Below w.heap.size w w'
theorem null_rd (w : World) (S : Nat → Prop) : VRd w S .null vl0 := by
  unfold JV.null
  rw [VRd]
  refine ⟨none, 0, 0, none, 0, 0, [], Nat.le_refl _, Nat.le_refl _, rfl, Rd.nil _ _ _ _, Rd.nil _ _ _ _, by rw [VRdL]⟩
end Go.Proofs.YtdekogmegdhjoaaDoor

namespace Go.Proofs.YtdekogmegdhjoaaDoor

theorem bulk_pos {H : Type} : ∀ d : DataW H, 1 ≤ Rows.uptoBulk d
  | .lit l => by cases l <;> simp [Rows.uptoBulk]
  | .nil => by simp [Rows.uptoBulk]
  | .ptr d => by simp [Rows.uptoBulk]
  | .slice e s => by simp [Rows.uptoBulk]
  | .agg p => by simp [Rows.uptoBulk]
  | .iface t d => by simp [Rows.uptoBulk]
  | .map e => by simp [Rows.uptoBulk]
  | .held h => by simp [Rows.uptoBulk]
theorem bulk_len {H : Type} : ∀ l : List (DataW H), l.length ≤ Rows.uptoBulkAll l
  | [] => Nat.zero_le _
  | d :: r => by have h1 := bulk_pos d; have h2 := bulk_len r; simp only [Rows.uptoBulkAll, List.length_cons]; omega
theorem bulk_cap {H : Type} (e s : List (DataW H)) : e.length + s.length + 1 ≤ Rows.uptoBulk (.slice e s) := by
  have h1 := bulk_len e
  have h2 := bulk_len s
  simp only [Rows.uptoBulk]; omega
end Go.Proofs.YtdekogmegdhjoaaDoor

namespace Go.Proofs.YtdekogmegdhjoaaDoor
open Go.ChangeShapes Go.WideShapes Go.ChangeAt Go.RowKit

section
variable {H : Type} {enc : TypeId × Value → H} {P : Program} {W : World} {hd : Bool} {fuel : Nat}

theorem bulk_mem {l : List (DataW H)} {d : DataW H} (h : d ∈ l) : Rows.uptoBulk d ≤ Rows.uptoBulkAll l := by
  induction l with
  | nil => cases h
  | cons a l ih =>
    simp only [Rows.uptoBulkAll]
    rcases List.mem_cons.1 h with rfl | h
    · omega
    · have := ih h; omega
/-- A field of a struct that came in: its cells, and how they are read. -/
theorem field_in {t : TypeId} {fs : Array Field} (ht : P.underlying t = some (.struct fs)) {cs : List Value} {x : DataW H × List MemPlace} (h : DataW.trod enc P W 0 (fun _ => true) hd fuel t cs = some x)
    {i : Nat} {f : Field} (hf : fs[i]? = some f) : ∃ n y, DataW.trod enc P W 0 (fun _ => true) hd n f.type ((cs.drop f.offset).take (P.cellsOf f.type)) = some y ∧ Rows.uptoBulk y.1 + 1 ≤ Rows.uptoBulk x.1 := by
  obtain ⟨xs, n, _, hx, _, hlen, hg⟩ := DataW.trod_struct ht h
  have hi : i < fs.size := (Array.getElem?_eq_some_iff.1 hf).1
  have hy : xs[i]? = some (xs[i]'(by omega)) := List.getElem?_eq_getElem (by omega)
  refine ⟨n, _, (hg i f hf).trans hy, ?_⟩
  rw [hx]
  have := bulk_mem (d := (xs[i]'(by omega)).1) (l := xs.map (·.1)) (List.mem_map_of_mem (List.getElem_mem _))
  simp only [Rows.uptoBulk]; omega
theorem ints_in {t : TypeId} {k : IntKind} (ht : P.underlying t = some (.int k)) {cs : List Value} {x : DataW H × List MemPlace} (h : DataW.trod enc P W 0 (fun _ => true) hd fuel t cs = some x) : ∃ n, cs = [.int k n] ∧ (Lit.int k n).wf = true := by
  obtain ⟨n, h1, _, h2⟩ := DataW.trod_int ht h
  exact ⟨n, h1, h2⟩
theorem strs_in {t : TypeId} (ht : P.underlying t = some .string) {cs : List Value} {x : DataW H × List MemPlace} (h : DataW.trod enc P W 0 (fun _ => true) hd fuel t cs = some x) : ∃ s : ByteArray, cs = [.string s] ∧ s.size + 1 ≤ Rows.uptoBulk x.1 := by
  obtain ⟨s, h1, h2, _⟩ := DataW.trod_string ht h
  exact ⟨s, h1, by rw [h2]; simp [Rows.uptoBulk]⟩
theorem bools_in {t : TypeId} (ht : P.underlying t = some .bool) {cs : List Value} {x : DataW H × List MemPlace} (h : DataW.trod enc P W 0 (fun _ => true) hd fuel t cs = some x) : ∃ b : Bool, cs = [.bool b] := by
  cases fuel with
  | zero => simp [DataW.trod] at h
  | succ n =>
    unfold DataW.trod at h
    rw [ht] at h
    split at h <;> simp_all
theorem bytes_of_cells : ∀ (cs : List Value), (∀ i, i < cs.length → ∃ c : UInt8, cs[i]? = some (bv c)) → ∃ d : List UInt8, cs = d.map bv
  | [], _ => ⟨[], rfl⟩
  | c :: cs, h => by
    obtain ⟨a, ha⟩ := h 0 (by simp)
    obtain ⟨d, hd⟩ := bytes_of_cells cs (fun i hi => by
      have := h (i + 1) (by simp; omega)
      simpa using this)
    simp only [List.getElem?_cons_zero, Option.some.injEq] at ha
    exact ⟨a :: d, by rw [ha, hd]; rfl⟩
/-- An array of bytes that came in. -/
theorem arr_in {t e : TypeId} {n : Nat} (ht : P.underlying t = some (.array n e)) (he : P.underlying e = some (.int .u8)) (hc : P.cellsOf e = 1) (hcs : P.cellsOf t = n) {cs : List Value} {x : DataW H × List MemPlace} (h : DataW.trod enc P W 0 (fun _ => true) hd fuel t cs = some x) :
    ∃ d : List UInt8, cs = d.map bv ∧ d.length = n := by
  obtain ⟨xs, m, _, _, hlen, hxl, hg⟩ := DataW.trod_array ht h
  rw [hcs] at hlen
  have key : ∀ i, i < n → ∃ c : UInt8, cs[i]? = some (bv c) := fun i hi => by
    have h1 := hg i hi
    rw [hc, Nat.mul_one, List.getElem?_eq_getElem (by omega)] at h1
    obtain ⟨k, h2, h3⟩ := ints_in he h1
    obtain ⟨c, rfl⟩ := u8_of_wf h3
    refine ⟨c, ?_⟩
    have h4 : ((cs.drop i).take 1)[0]? = some (bv c) := by rw [h2]; rfl
    rw [List.getElem?_take, if_pos (by omega), List.getElem?_drop] at h4
    simpa using h4
  obtain ⟨d, hd⟩ := bytes_of_cells cs (fun i hi => key i (by omega))
  exact ⟨d, hd, by rw [hd, List.length_map] at hlen; exact hlen⟩
/-- A slice of bytes that came in, as a cell. -/
theorem sl_in {t e : TypeId} (ht : P.underlying t = some (.slice e)) (he : P.underlying e = some (.int .u8)) (hc : P.cellsOf e = 1) {cs : List Value} {x : DataW H × List MemPlace} (h : DataW.trod enc P W 0 (fun _ => true) hd fuel t cs = some x) :
    ∃ (a : Option Addr) (len cap : Nat) (l : List UInt8), cs = [.slice a len cap] ∧ len ≤ cap ∧ cap ≤ maxLen ∧ Rd W (· < W.heap.size) a 1 len (l.map bv) ∧ cap + 1 ≤ Rows.uptoBulk x.1 := by
  have hform : ∃ a len cap, cs = [.slice a len cap] := by
    rcases open_ints ht he hc h with ⟨hcs, _⟩ | ⟨x, l, c, zs, hcs, _⟩
    · exact ⟨none, 0, 0, hcs⟩
    · exact ⟨some x, l, c, hcs⟩
  obtain ⟨a, len, cap, rfl⟩ := hform
  obtain ⟨l, h1, h2, h3, h4⟩ := bytes_in (a := a) (len := len) (cap := cap) ht he hc (d := x.1) (ps := x.2) ⟨fuel, h⟩
  refine ⟨a, len, cap, l, rfl, h1, h2, h3, ?_⟩
  rcases h4 with ⟨e1, e2⟩ | ⟨es, sp, e1, e2⟩
  · rw [e1, e2]; simp [Rows.uptoBulk]
  · rw [e1, ← e2]; exact bulk_cap es sp
theorem cut_at (cs : List Value) (k m : Nat) : cs.drop k = (cs.drop k).take m ++ cs.drop (k + m) := by rw [← List.drop_drop, List.take_append_drop]
end
end Go.Proofs.YtdekogmegdhjoaaDoor

namespace Go.Proofs.YtdekogmegdhjoaaDoor
open Go.ChangeShapes Go.WideShapes Go.ChangeAt Go.RowKit

theorem flat_at {α β : Type} {f : α → List β} {sz : Nat} (hsz : 0 < sz) : ∀ {l : List α}, (∀ u ∈ l, (f u).length = sz) → ∀ {j : Nat} {v : β}, (l.flatMap f)[j]? = some v → ∃ u, l[j / sz]? = some u ∧ (f u)[j % sz]? = some v
  | [], _, j, v, h => by simp at h
  | u :: l, hl, j, v, h => by
    have hu := hl u (by simp)
    rw [List.flatMap_cons] at h
    rcases Nat.lt_or_ge j sz with hj | hj
    · rw [List.getElem?_append_left (by omega)] at h
      refine ⟨u, ?_, ?_⟩
      · rw [Nat.div_eq_of_lt hj]; rfl
      · rw [Nat.mod_eq_of_lt hj]; exact h
    · rw [List.getElem?_append_right (by omega), hu] at h
      obtain ⟨u', h1, h2⟩ := flat_at hsz (l := l) (fun x hx => hl x (by simp [hx])) h
      have e1 : j / sz = (j - sz) / sz + 1 := by rw [Nat.div_eq_sub_div hsz hj]
      have e2 : j % sz = (j - sz) % sz := by rw [Nat.mod_eq_sub_mod hj]
      exact ⟨u', by rw [e1]; exact h1, by rw [e2]; exact h2⟩
theorem flat_len {α β : Type} {f : α → List β} {sz : Nat} : ∀ {l : List α}, (∀ u ∈ l, (f u).length = sz) → (l.flatMap f).length = l.length * sz
  | [], _ => by simp
  | u :: l, hl => by
    rw [List.flatMap_cons, List.length_append, hl u (by simp), flat_len (fun x hx => hl x (by simp [hx])), List.length_cons, Nat.add_mul]; omega
theorem list_of {α : Type} {p : Nat → α → Prop} : ∀ (n : Nat), (∀ i, i < n → ∃ u, p i u) → ∃ l : List α, l.length = n ∧ ∀ i u, l[i]? = some u → p i u
  | 0, _ => ⟨[], rfl, fun i u h => by simp at h⟩
  | n + 1, h => by
    obtain ⟨l, hl, hp⟩ := list_of n (fun i hi => h i (by omega))
    obtain ⟨u, hu⟩ := h n (by omega)
    refine ⟨l ++ [u], by simp [hl], fun i x hx => ?_⟩
    rcases Nat.lt_or_ge i n with hi | hi
    · rw [List.getElem?_append_left (by omega)] at hx; exact hp i x hx
    · rw [List.getElem?_append_right (by omega)] at hx
      match hk : i - l.length, hx with
      | 0, hx => injection hx with hx; subst hx; obtain rfl : i = n := by omega
                 exact hu
      | k + 1, hx => simp at hx

section
variable {H : Type} {enc : TypeId × Value → H} {P : Program} {W : World} {hd : Bool} {fuel : Nat}
theorem slG_in {α : Type} {t e : TypeId} {sz : Nat} (ht : P.underlying t = some (.slice e)) (hc : P.cellsOf e = sz) (hpos : 0 < sz) {f : α → List Value} (hel : ∀ n cs x, DataW.trod enc P W 0 (fun _ => true) hd n e cs = some x → ∃ u : α, cs = f u ∧ (f u).length = sz)
    {cs : List Value} {x : DataW H × List MemPlace} (h : DataW.trod enc P W 0 (fun _ => true) hd fuel t cs = some x) :
    ∃ (A : Option Addr) (len cap : Nat) (l : List α), cs = [.slice A len cap] ∧ len ≤ cap ∧ cap ≤ maxLen ∧ l.length = len ∧ Rd W (· < W.heap.size) A sz len (l.flatMap f) ∧ (∀ u ∈ l, (f u).length = sz) ∧ cap + 1 ≤ Rows.uptoBulk x.1 := by
  rcases DataW.trod_slice ht h with ⟨hcs, hx⟩ | ⟨a, len, cap, es, rest, n, _, hcs, hx, _, hl, hm, hlen, hat, hsp, _⟩
  · exact ⟨none, 0, 0, [], hcs, Nat.le_refl _, Nat.zero_le _, rfl, Rd.nil _ _ _ _, fun u hu => by simp at hu, by rw [hx]; simp [Rows.uptoBulk]⟩
  · have key : ∀ i, i < len → ∃ u : α, W.cells? 0 (a.add (i * sz)) sz = some (f u) ∧ (f u).length = sz := fun i hi => by
      have h1 := hat i hi
      rw [hc, List.getElem?_eq_getElem (by omega), Option.bind_eq_some_iff] at h1
      obtain ⟨cs', h2, h3⟩ := h1
      obtain ⟨u, rfl, h4⟩ := hel _ _ _ h3
      exact ⟨u, h2, h4⟩
    obtain ⟨l, hll, hp⟩ := list_of len key
    have hone : ∀ u ∈ l, (f u).length = sz := fun u hu => by
      obtain ⟨i, hi⟩ := List.mem_iff_getElem?.1 hu
      exact (hp i u hi).2
    have hcell : ∀ j v, (l.flatMap f)[j]? = some v → W.cell? (a.add j) = some v := fun j v hv => by
      obtain ⟨u, h1, h2⟩ := flat_at hpos hone hv
      obtain ⟨h3, _⟩ := hp _ u h1
      obtain ⟨_, _, h5⟩ := World.cells?_some h3
      have h6 := h5 (j % sz) (Nat.mod_lt _ hpos)
      rw [add_add, Nat.mul_comm, Nat.div_add_mod] at h6
      rw [h6]; exact h2
    have hrest := (hsp rfl).1
    refine ⟨some a, len, cap, l, hcs, hl, hm, hll, ⟨by rw [flat_len hone, hll], fun _ => rfl, fun h0 => ?_, hcell⟩, hone, ?_⟩
    · have hlt : 0 < (l.flatMap f).length := by rw [flat_len hone, hll]; exact Nat.mul_pos h0 hpos
      have := hcell 0 _ (List.getElem?_eq_getElem hlt)
      have hb := World.block_lt_of_cell? W _ this
      have e : (a.add 0).block = a.block := by unfold Addr.add; split <;> rfl
      rw [e] at hb
      exact hb
    · rw [hx]
      have := bulk_cap (es.map (·.1)) (rest.map (·.1))
      simp only [List.length_map] at this
      show cap + 1 ≤ Rows.uptoBulk (DataW.slice _ _)
      omega
end
end Go.Proofs.YtdekogmegdhjoaaDoor

namespace Go.Proofs.YtdekogmegdhjoaaDoor
open Go.ChangeShapes Go.WideShapes Go.ChangeAt Go.RowKit

mutual
/-- How much a value is. -/
def jW : JV → Nat
  | .mk _ _ t ns ks => t.length + (ns.map (·.length + 1)).sum + jWL ks + 1
def jWL : List JV → Nat
  | [] => 0
  | v :: vs => jW v + jWL vs
end
mutual
/-- A value's numbers are a machine's. -/
def JI : JV → Prop
  | .mk k n _ _ ks => (-9223372036854775808 ≤ k ∧ k ≤ 9223372036854775807) ∧ (-9223372036854775808 ≤ n ∧ n ≤ 9223372036854775807) ∧ JIL ks
def JIL : List JV → Prop
  | [] => True
  | v :: vs => JI v ∧ JIL vs
end
theorem jWL_len : ∀ ks : List JV, ks.length ≤ jWL ks
  | [] => Nat.zero_le _
  | .mk k n t ns ks' :: vs => by
    have := jWL_len vs
    rw [jWL, jW, List.length_cons]
    omega
theorem jWn_len : ∀ ns : List (List UInt8), ns.length ≤ (ns.map (·.length + 1)).sum
  | [] => Nat.zero_le _
  | n :: ns => by
    have := jWn_len ns
    rw [List.map_cons, List.sum_cons, List.length_cons]
    omega
theorem jWn_mem : ∀ {ns : List (List UInt8)} {s : List UInt8}, s ∈ ns → s.length + 1 ≤ (ns.map (·.length + 1)).sum
  | [], _, h => by cases h
  | n :: ns, s, h => by
    rw [List.map_cons, List.sum_cons]
    rcases List.mem_cons.1 h with rfl | h
    · omega
    · have := jWn_mem h; omega
mutual
theorem jW_sm : ∀ (v : JV), jW v ≤ 1048576 → JSm v
  | .mk k n t ns ks, h => by
    rw [jW] at h
    rw [JSm]
    have h1 := jWL_len ks
    have h2 := jWn_len ns
    exact ⟨by omega, by omega, jWL_sm ks (by omega)⟩
theorem jWL_sm : ∀ (ks : List JV), jWL ks ≤ 1048576 → JSmL ks
  | [], _ => by rw [JSmL]; trivial
  | v :: vs, h => by
    rw [jWL] at h
    rw [JSmL]
    exact ⟨jW_sm v (by omega), jWL_sm vs (by omega)⟩
end
mutual
theorem jW_tx : ∀ (v : JV), jW v ≤ 1048576 → JTx v
  | .mk k n t ns ks, h => by
    rw [jW] at h
    rw [JTx]
    exact ⟨by omega, fun s hs => by have := jWn_mem hs; omega, jWL_tx ks (by omega)⟩
theorem jWL_tx : ∀ (ks : List JV), jWL ks ≤ 1048576 → JTxL ks
  | [], _ => by rw [JTxL]; trivial
  | v :: vs, h => by
    rw [jWL] at h
    rw [JTxL]
    exact ⟨jW_tx v (by omega), jWL_tx vs (by omega)⟩
end
theorem jWn_tail (ns : List (List UInt8)) : (ns.headD []).length + (ns.tail.map (·.length + 1)).sum ≤ (ns.map (·.length + 1)).sum := by
  cases ns with
  | nil => simp
  | cons n ns => simp [List.sum_cons]; try omega
mutual
theorem jW_full : ∀ (v : JV), JI v → (jFull v).length + 4 ≤ 30 * jW v
  | .mk k n t ns ks, h => by
    rw [JI] at h
    have hq := jQuote_len t
    have hi := itoa_len h.2.1.1 h.2.1.2
    have h5 := jWL_full ks true false ns h.2.2
    have h6 := jWL_full ks false false ns h.2.2
    rw [jFull, jW]
    split
    · simp; omega
    split
    · simp; omega
    split
    · simp; omega
    split
    · omega
    split
    · omega
    split
    · simp only [List.length_append, List.length_cons, List.length_nil]; omega
    · simp only [List.length_append, List.length_cons, List.length_nil]; omega
theorem jWL_full : ∀ (ks : List JV) (obj more : Bool) (ns : List (List UInt8)), JIL ks → (jFullL obj more ns ks).length ≤ 30 * jWL ks + 6 * (ns.map (·.length + 1)).sum
  | [], obj, more, ns, _ => by rw [jFullL]; simp
  | v :: vs, obj, more, ns, h => by
    rw [JIL] at h
    have h1 := jW_full v h.1
    have h2 := jWL_full vs obj true ns.tail h.2
    have h3 := jQuote_len (ns.headD [])
    have h4 := jWn_tail ns
    rw [jFullL, jWL]
    have hp : 1 ≤ jW v := by cases v; rw [jW]; omega
    simp only [List.length_append]
    have e1 : (if more = true then [(44 : UInt8)] else []).length ≤ 1 := by split <;> simp
    have e2 : (if obj = true then jQuote (ns.headD []) ++ [58] else []).length ≤ 6 * (ns.headD []).length + 3 := by
      split
      · simp only [List.length_append, List.length_cons, List.length_nil]; omega
      · simp
    omega
end

theorem sum_le {α : Type} {H : Type} {g : α → Nat} : ∀ (l : List α) (es : List (DataW H × List MemPlace)), l.length = es.length → (∀ (i : Nat) (u : α) (e : DataW H × List MemPlace), l[i]? = some u → es[i]? = some e → g u ≤ Rows.uptoBulk e.1) → (l.map g).sum ≤ Rows.uptoBulkAll (es.map (·.1))
  | [], [], _, _ => by simp [Rows.uptoBulkAll]
  | u :: l, e :: es, hl, h => by
    have h0 := h 0 u e rfl rfl
    have h1 := sum_le (g := g) l es (by simpa using hl) (fun i u e hu he => h (i + 1) u e (by simpa using hu) (by simpa using he))
    simp only [List.map_cons, List.sum_cons, Rows.uptoBulkAll]
    omega
  | [], _ :: _, hl, _ => by simp at hl
  | _ :: _, [], hl, _ => by simp at hl
section
variable {H : Type} {enc : TypeId × Value → H} {P : Program} {W : World} {hd : Bool} {fuel : Nat}
/-- A slice that came in, of elements of which something is known. -/
theorem slR_in {α : Type} {t e : TypeId} {sz : Nat} (ht : P.underlying t = some (.slice e)) (hc : P.cellsOf e = sz) (hpos : 0 < sz) {f : α → List Value} {g : α → Nat} {p : α → Prop} (hel : ∀ m cs x, m < fuel → DataW.trod enc P W 0 (fun _ => true) hd m e cs = some x → ∃ u : α, cs = f u ∧ (f u).length = sz ∧ p u ∧ g u ≤ Rows.uptoBulk x.1)
    {cs : List Value} {x : DataW H × List MemPlace} (h : DataW.trod enc P W 0 (fun _ => true) hd fuel t cs = some x) :
    ∃ (A : Option Addr) (len cap : Nat) (l : List α), cs = [.slice A len cap] ∧ len ≤ cap ∧ l.length = len ∧ Rd W (· < W.heap.size) A sz len (l.flatMap f) ∧ (∀ u ∈ l, (f u).length = sz ∧ p u) ∧ (l.map g).sum + 1 ≤ Rows.uptoBulk x.1 := by
  rcases DataW.trod_slice ht h with ⟨hcs, hx⟩ | ⟨a, len, cap, es, rest, n, hfu, hcs, hx, _, hl, hm, hlen, hat, hsp, _⟩
  · exact ⟨none, 0, 0, [], hcs, Nat.le_refl _, rfl, Rd.nil _ _ _ _, fun u hu => by simp at hu, by rw [hx]; simp [Rows.uptoBulk]⟩
  · have key : ∀ i, i < len → ∃ u : α, W.cells? 0 (a.add (i * sz)) sz = some (f u) ∧ (f u).length = sz ∧ p u ∧ ∀ e, es[i]? = some e → g u ≤ Rows.uptoBulk e.1 := fun i hi => by
      have h1 := hat i hi
      rw [hc, List.getElem?_eq_getElem (by omega), Option.bind_eq_some_iff] at h1
      obtain ⟨cs', h2, h3⟩ := h1
      obtain ⟨u, rfl, h4, h5, h6⟩ := hel n _ _ (by omega) h3
      exact ⟨u, h2, h4, h5, fun e he => by
        rw [List.getElem?_eq_getElem (by omega)] at he
        injection he with he
        rw [← he]; exact h6⟩
    obtain ⟨l, hll, hp⟩ := list_of len key
    have hone : ∀ u ∈ l, (f u).length = sz ∧ p u := fun u hu => by
      obtain ⟨i, hi⟩ := List.mem_iff_getElem?.1 hu
      exact ⟨(hp i u hi).2.1, (hp i u hi).2.2.1⟩
    have hcell : ∀ j v, (l.flatMap f)[j]? = some v → W.cell? (a.add j) = some v := fun j v hv => by
      obtain ⟨u, h1, h2⟩ := flat_at hpos (fun u hu => (hone u hu).1) hv
      obtain ⟨h3, _⟩ := hp _ u h1
      obtain ⟨_, _, h5⟩ := World.cells?_some h3
      have h6 := h5 (j % sz) (Nat.mod_lt _ hpos)
      rw [add_add, Nat.mul_comm, Nat.div_add_mod] at h6
      rw [h6]; exact h2
    have hfl : (l.flatMap f).length = len * sz := by rw [flat_len (fun u hu => (hone u hu).1), hll]
    refine ⟨some a, len, cap, l, hcs, hl, hll, ⟨hfl, fun _ => rfl, fun h0 => ?_, hcell⟩, hone, ?_⟩
    · have hlt : 0 < (l.flatMap f).length := by rw [hfl]; exact Nat.mul_pos h0 hpos
      have := hcell 0 _ (List.getElem?_eq_getElem hlt)
      have hb := World.block_lt_of_cell? W _ this
      have e : (a.add 0).block = a.block := by unfold Addr.add; split <;> rfl
      rw [e] at hb
      exact hb
    · have := sum_le (g := g) l es (by omega) (fun i u e hu he => (hp i u hu).2.2.2 e he)
      rw [hx]
      show _ ≤ Rows.uptoBulk (DataW.slice _ _)
      simp only [Rows.uptoBulk]
      omega
/-- The fields of a value: where, of which type, how many cells. -/
structure JVT (P : Program) (t : TypeId) (fs : Array Field) (f0 f1 f2 f3 f4 : Field) (us : TypeId) : Prop where
  und : P.underlying t = some (.struct fs)
  size : P.cellsOf t = 5
  at_ : fs = #[f0, f1, f2, f3, f4]
  off : [f0, f1, f2, f3, f4].map (fun f => (f.offset, P.cellsOf f.type)) = [(0, 1), (1, 1), (2, 1), (3, 1), (4, 1)]
  typ : [f0, f1, f2, f3, f4].map (fun f => P.underlying f.type) = [some (.int .i64), some (.int .i64), some .string, some (.slice us), some (.slice t)]
  str : P.underlying us = some .string
  sone : P.cellsOf us = 1
theorem flat_strv : ∀ l : List (List UInt8), l.flatMap (fun s => [strv s]) = l.map strv
  | [] => rfl
  | s :: l => by rw [List.flatMap_cons, flat_strv l]; rfl
theorem kids_of {S : Nat → Prop} : ∀ (l : List (JV × List Value)), (∀ u ∈ l, u.2.length = 5 ∧ VRd W S u.1 u.2 ∧ JI u.1) → VRdL W S (l.map (·.1)) (l.flatMap (·.2)) ∧ JIL (l.map (·.1))
  | [], _ => by simp [VRdL, JIL]
  | u :: l, h => by
    obtain ⟨h1, h2⟩ := kids_of l (fun x hx => h x (by simp [hx]))
    obtain ⟨_, h3, h4⟩ := h u (by simp)
    rw [List.map_cons, List.flatMap_cons, VRdL, JIL]
    exact ⟨⟨_, _, rfl, h3, h1⟩, h4, h2⟩
theorem kids_w : ∀ (l : List (JV × List Value)), jWL (l.map (·.1)) = (l.map (fun u => jW u.1)).sum
  | [] => rfl
  | u :: l => by rw [List.map_cons, jWL, kids_w l]; rfl
theorem five_sum {H : Type} {xs : List (DataW H × List MemPlace)} (h : xs.length = 5) : ∃ x0 x1 x2 x3 x4, xs = [x0, x1, x2, x3, x4] := by
  match xs, h with
  | [x0, x1, x2, x3, x4], _ => exact ⟨_, _, _, _, _, rfl⟩
theorem jval_in' {t us : TypeId} {fs : Array Field} {f0 f1 f2 f3 f4 : Field} (T : JVT P t fs f0 f1 f2 f3 f4 us) : ∀ (N fuel : Nat) (cs : List Value) (x : DataW H × List MemPlace), fuel ≤ N → DataW.trod enc P W 0 (fun _ => true) hd fuel t cs = some x →
    ∃ v : JV, VRd W (· < W.heap.size) v cs ∧ cs.length = 5 ∧ JI v ∧ jW v ≤ Rows.uptoBulk x.1 := by
  intro N
  induction N with
  | zero =>
    intro fuel cs x hN h
    obtain rfl : fuel = 0 := by omega
    simp [DataW.trod] at h
  | succ N ih =>
    intro fuel cs x hN h
    obtain ⟨xs, n, rfl, hx, hlen, hxl, hg⟩ := DataW.trod_struct T.und h
    rw [T.at_] at hxl
    obtain ⟨x0, x1, x2, x3, x4, rfl⟩ := five_sum hxl
    have ho := T.off
    have ht := T.typ
    simp only [List.map_cons, List.map_nil, List.cons.injEq, Prod.mk.injEq, and_true] at ho ht
    obtain ⟨⟨o0, z0⟩, ⟨o1, z1⟩, ⟨o2, z2⟩, ⟨o3, z3⟩, ⟨o4, z4⟩⟩ := ho
    obtain ⟨u0, u1, u2, u3, u4⟩ := ht
    have g0 := hg 0 f0 (by rw [T.at_]; rfl)
    have g1 := hg 1 f1 (by rw [T.at_]; rfl)
    have g2 := hg 2 f2 (by rw [T.at_]; rfl)
    have g3 := hg 3 f3 (by rw [T.at_]; rfl)
    have g4 := hg 4 f4 (by rw [T.at_]; rfl)
    rw [o0, z0] at g0
    rw [o1, z1] at g1
    rw [o2, z2] at g2
    rw [o3, z3] at g3
    rw [o4, z4] at g4
    obtain ⟨k, e0, w0⟩ := ints_in u0 g0
    obtain ⟨m, e1, w1⟩ := ints_in u1 g1
    obtain ⟨s, e2, b2⟩ := strs_in u2 g2
    obtain ⟨An, nn, cn, ln, e3, hn1, hn2, hn3, hn4, hn5⟩ := slR_in (α := List UInt8) (f := fun s => [strv s]) (g := fun s => s.length + 1) (p := fun _ => True) u3 T.sone (by decide) (fun m cs x _ h => by
      obtain ⟨s, hs, hb⟩ := strs_in T.str h
      exact ⟨s.data.toList, by rw [hs]; rfl, rfl, trivial, by rw [str_len]; exact hb⟩) g3
    obtain ⟨Ak, nk, ck, lk, e4, hk1, hk2, hk3, hk4, hk5⟩ := slR_in (α := JV × List Value) (f := (·.2)) (g := fun u => jW u.1) (p := fun u => VRd W (· < W.heap.size) u.1 u.2 ∧ JI u.1) u4 T.size (by decide) (fun m cs x hm h => by
      obtain ⟨v, h1, h2, h3, h4⟩ := ih m cs x (by omega) h
      exact ⟨(v, cs), rfl, h2, ⟨h1, h3⟩, h4⟩) g4
    rw [T.size] at hlen
    rw [flat_strv] at hn3
    obtain ⟨hv, hi⟩ := kids_of lk hk4
    refine ⟨.mk k m s.data.toList ln (lk.map (·.1)), ?_, hlen, ?_, ?_⟩
    · rw [VRd]
      refine ⟨An, nn, cn, Ak, nk, ck, lk.flatMap (·.2), hn1, hk1, ?_, hn3, hk3, hv⟩
      rw [show cs = cs.drop 0 from rfl, cut_at cs 0 1, e0, cut_at cs (0 + 1) 1, e1, cut_at cs (0 + 1 + 1) 1, e2, cut_at cs (0 + 1 + 1 + 1) 1, e3, cut_at cs (0 + 1 + 1 + 1 + 1) 1, e4, List.drop_of_length_le (by omega)]
      rfl
    · rw [JI]
      exact ⟨i64_of_wf w0, i64_of_wf w1, hi⟩
    · rw [hx, jW, kids_w]
      simp only [List.map_cons, List.map_nil, Rows.uptoBulk, Rows.uptoBulkAll]
      have : s.data.toList.length = s.size := str_len s
      omega
theorem jval_in {t us : TypeId} {fs : Array Field} {f0 f1 f2 f3 f4 : Field} (T : JVT P t fs f0 f1 f2 f3 f4 us) {r : Reach} {b0 : Nat} {v : Value} {d : DataW H} {ps : List MemPlace} (hv : Value.okWide P W r b0 t v) (h : DataW.Trod enc P W 0 (fun _ => true) hd t v d ps) :
    ∃ (q : JV) (cs : List Value), v = .agg cs.toArray ∧ VRd W (· < W.heap.size) q cs ∧ JI q ∧ jW q ≤ Rows.uptoBulk d := by
  obtain ⟨cs, rfl, hsz⟩ := okWide_struct T.und hv
  obtain ⟨fuel, hf⟩ := h
  obtain ⟨q, h1, h2, h3, h4⟩ := jval_in' T fuel fuel cs.toList (d, ps) (Nat.le_refl _) hf
  exact ⟨q, cs.toList, by simp, h1, h3, h4⟩
end
end Go.Proofs.YtdekogmegdhjoaaDoor
