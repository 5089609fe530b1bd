/-
 Layer 8: the document's withNotes, walked.
 Layer 6: the document's Size and Valid, walked.
 Layer 6: the document's Size, walked.
 Layer 6: the document's Valid, walked.
 Layer 8: the document's RightNotes and RightDesc, walked.
 Layer 7: the walks of a sum's text, further: the document's Parse; both Text.
 Layer 8: the document's desc, walked.
 Layer 8: the document's edges, walked.
-/
import Derived.Test.YtlhicfpmlncomaaGreatDoorF11
import Derived.Test.YtlhicfpmlncomaaGreatDoorF02
import Derived.Test.YtlhicfpmlncomaaGreatDoorF12
import Derived.Test.YtlhicfpmlncomaaGreatDoorF07
import Derived.Lib.ValidLaws
import Derived.Test.YtlhicfpmlncomaaGreatDoorF09
import Derived.Test.YtlhicfpmlncomaaGreatDoorF10
import Derived.Test.YtlhicfpmlncomaaGreatDoorF00
set_option linter.unusedSimpArgs false
set_option linter.unusedVariables false
namespace Go.Proofs.YtlhicfpmlncomaaGreatDoor
open Go.RowKit
theorem take_snoc1 {α : Type} {l : List α} {i : Nat} {x : α} (h : l[i]? = some x) : l.take (i + 1) = l.take i ++ [x] := by rw [List.take_add_one, h]; rfl
theorem ntsL_key {l : List MNote} {i : Nat} {x : MNote} (h : l[i]? = some x) : (ntsL l)[i * 2]? = some (.string ⟨x.key.toArray⟩) := by
 have h1 := ntsL_at h
 have h2 := congrArg (fun z => z[0]?) h1
 simpa [List.getElem?_take, List.getElem?_drop, ntL, strv] using h2
theorem ntsL_val {l : List MNote} {i : Nat} {x : MNote} (h : l[i]? = some x) : (ntsL l)[i * 2 + 1]? = some (.string ⟨x.val.toArray⟩) := by
 have h1 := ntsL_at h
 have h2 := congrArg (fun z => z[1]?) h1
 simpa [List.getElem?_take, List.getElem?_drop, ntL, strv] using h2
def tMem (l : List MNote) : List (List UInt8 × JV) := l.map fun x => (x.key, jT x.val)
theorem tNotes_mem (l : List MNote) : tNotes l = .mk 6 0 [] ((tMem l).map (·.1)) ((tMem l).map (·.2)) := rfl
theorem tMem_snoc {l : List MNote} {i : Nat} {x : MNote} (h : l[i]? = some x) : tMem (l.take (i + 1)) = tMem (l.take i) ++ [(x.key, jT x.val)] := by
 unfold tMem
 rw [take_snoc1 h, List.map_append]
 rfl
theorem tWith_nil : tWith [] = [] := rfl
theorem tWith_some {l : List MNote} (h : l ≠ []) : tWith l = [(kNotes, tNotes l)] := if_neg h
theorem tperm {α : Type} (a b p g2 g1 n k : α) (es te : List α) : (a :: b :: p :: g2 :: g1 :: n :: k :: (es ++ te)).Perm (n :: k :: g2 :: p :: g1 :: (es ++ (a :: b :: te))) := by
 have h1 : (a :: b :: p :: g2 :: g1 :: n :: k :: (es ++ te)).Perm (a :: b :: (n :: k :: g2 :: p :: g1 :: (es ++ te))) := by
  refine List.Perm.cons _ (List.Perm.cons _ ?_)
  have h2 : (p :: g2 :: g1 :: n :: k :: (es ++ te)) = [p, g2, g1, n, k] ++ (es ++ te) := rfl
  have h3 : (n :: k :: g2 :: p :: g1 :: (es ++ te)) = [n, k, g2, p, g1] ++ (es ++ te) := rfl
  rw [h2, h3]
  refine List.Perm.append_right _ ?_
  have e1 : [p, g2, g1, n, k] = [p, g2, g1] ++ [n, k] := rfl
  rw [e1]
  refine List.perm_append_comm.trans ?_
  exact List.Perm.cons _ (List.Perm.cons _ (List.Perm.swap _ _ _))
 refine h1.trans ?_
 have h4 : (n :: k :: g2 :: p :: g1 :: (es ++ (a :: b :: te))) = ([n, k, g2, p, g1] ++ es) ++ ([a, b] ++ te) := by simp
 have h5 : (a :: b :: (n :: k :: g2 :: p :: g1 :: (es ++ te))) = [a, b] ++ (([n, k, g2, p, g1] ++ es) ++ te) := by simp
 rw [h4, h5]
 exact List.perm_append_comm_assoc _ _ _
def More (w0 : World) (es : List Ent) (num : Int) (t : ByteArray) (nn nk : Nat) (ns : List (List UInt8)) (xs : List Value) (ms : List (List UInt8 × JV)) (e : Ending) (w' : World) : Prop :=
 ∃ A1 c1 A2 c2 zs E2, nn + ms.length ≤ c1 ∧ nk + ms.length ≤ c2 ∧ e = .returned (.agg (vlL 6 num t (.slice A1 (nn + ms.length) c1) (.slice A2 (nk + ms.length) c2)).toArray) ∧ VTL (ms.map (·.2)) zs E2 ∧
  Fr [] w0 w' (.own w0.heap.size 9 1 (.slice A1 (nn + ms.length) c1) (nn + ms.length) ((ns ++ ms.map (·.1)).map strv) :: .own w0.heap.size 51 5 (.slice A2 (nk + ms.length) c2) (nk + ms.length) (xs ++ zs) :: (es ++ E2))
set_option maxRecDepth 20000 in
set_option maxHeartbeats 12800000 in
theorem rwith_any {w0 w : World} {es : List Ent} {num : Int} {t : ByteArray} {An Ak : Option Addr} {nn cn nk ck : Nat} {ns : List (List UInt8)} {xs : List Value} (l : List MNote) (Al : Option Addr) (nl cl : Nat)
  (hF : Fr [] w0 w (.own w0.heap.size 9 1 (.slice An nn cn) nn (ns.map strv) :: .own w0.heap.size 51 5 (.slice Ak nk ck) nk xs :: es)) (hnn : nn ≤ 1000) (hnk : nk ≤ 1000) (hcn : nn ≤ cn) (hck : nk ≤ ck) (hl : nl = l.length) (hll : nl ≤ 1000000) (hr : Rd w0 (· < w0.heap.size) Al 2 nl (ntsL l)) :
  Calls Tryz.prog 52 #[.agg (vlL 6 num t (.slice An nn cn) (.slice Ak nk ck)).toArray, .slice Al nl cl] w (More w0 es num t nn nk ns xs (tWith l)) := by
 by_cases hl0 : l = []
 ·subst hl0
  obtain rfl : nl = 0 := hl
  go_enter Tryz.func52, Tryz.ntmps52
  go_wp2_with (first | ((with_reducible refine lsx (wp_fbox hF (cs := (vlL 6 num t (.slice An nn cn) (.slice Ak nk ck))) rfl (by with_unfolding_all rfl) (by with_unfolding_all rfl) ?_)); intro w1 g1 hF1 hz1) | ((with_reducible refine lsx (wp_falloc hF1 (cs := vl0) (z := .agg (List.toArray (vl0))) rfl (by kernel_rfl) (by with_unfolding_all rfl) ?_)); intro w2 g2 hF2 hz2) | (with_reducible refine lsx (wp_fldA1 hF2 uq51 rfl (by with_unfolding_all exact ⟨_, rfl, rfl⟩) (ds := (vlL 6 num t (.slice An nn cn) (.slice Ak nk ck))) (by rw [vlL_len]; kernel_rfl) (take_all _) ?_)) | ((with_reducible refine lsx (wp_fstA0 hF2 (by with_unfolding_all exact ⟨_, _, rfl, rfl, rfl⟩) (by rw [vlL_len]; kernel_rfl) vlL_one vlL_fit vlL_spl ?_)); intro w3 hF3 hz3))
  exact bodyPost_ret (results_cellF rfl _ hF3 (i := 0) rfl rfl uq51 rfl (by rw [vlL_len]; kernel_rfl)) rfl (by
   unfold More
   exact ⟨An, cn, Ak, ck, [], [], hcn, hck, rfl, VTL.nil, by simpa [tWith_nil] using hF3.tail.tail⟩)
 ·have hlp : 0 < l.length := List.length_pos_iff.2 hl0
  have hq : ((nl : Int) == 0) = false := by rw [beq_eq_false_iff_ne]; omega
  have hw := tWith_some hl0
  replace hl := box hl
  replace hl0 := box hl0
  replace hw := box hw
  clear hlp
  go_enter Tryz.func52, Tryz.ntmps52
  go_wp2_with (first | ((with_reducible refine lsx (wp_fbox hF (cs := (vlL 6 num t (.slice An nn cn) (.slice Ak nk ck))) rfl (by with_unfolding_all rfl) (by with_unfolding_all rfl) ?_)); intro w1 g1 hF1 hz1) | ((with_reducible refine lsx (wp_falloc hF1 (cs := vl0) (z := .agg (List.toArray (vl0))) rfl (by kernel_rfl) (by with_unfolding_all rfl) ?_)); intro w2 g2 hF2 hz2) | (with_reducible refine lsx (wp_fbuild uq51 (z := .agg (List.toArray vl0)) (by kernel_rfl) (pl := vlP) (by kernel_rfl) (cs := (vlL 6 0 ⟨#[]⟩ (.slice none 0 0) (.slice none 0 0))) rfl (vs := [(0, .int .i64 6)]) (by with_unfolding_all rfl) (by with_unfolding_all rfl) ?_)) | ((with_reducible refine lsx (wp_falloc hF2 (cs := vl0) (z := .agg (List.toArray (vl0))) rfl (by kernel_rfl) (by with_unfolding_all rfl) ?_)); intro w3 g3 hF3 hz3) | ((with_reducible refine lsx (wp_fstA0 hF3 (by with_unfolding_all exact ⟨_, _, rfl, rfl, rfl⟩) (by rw [vlL_len]; kernel_rfl) vlL_one vlL_fit vlL_spl ?_)); intro w4 hF4 hz4))
  have hF5 := (hF4.none_ w0.heap.size 51 5).none_ w0.heap.size 9 1
  clear hF1 hF2 hF3 hF4
  go_loopg [6] nl (fun g iv wr => ∃ (i : Nat) (A : Option Addr) (c : Nat) (B : Option Addr) (d : Nat) (ys : List Value) (TE : List Ent), i ≤ nl ∧ Box (g = nl - i) ∧ iv = .int .i64 (i : Int) ∧ i ≤ c ∧ i ≤ d ∧ Box (VTL ((tMem (l.take i)).map (·.2)) ys TE) ∧ Fr [] w0 wr (.own w0.heap.size 9 1 (.slice A i c) i (((tMem (l.take i)).map (·.1)).map strv) :: .own w0.heap.size 51 5 (.slice B i d) i ys :: .blk g3 51 (vlL 6 0 ⟨#[]⟩ (.slice A i c) (.slice B i d)) :: .blk g2 51 vl0 :: .blk g1 51 (vlL 6 num t (.slice An nn cn) (.slice Ak nk ck)) :: .own w0.heap.size 9 1 (.slice An nn cn) nn (ns.map strv) :: .own w0.heap.size 51 5 (.slice Ak nk ck) nk xs :: (es ++ TE)))
  case atStart => exact ⟨0, none, 0, none, 0, [], [], by omega, box rfl, rfl, Nat.le_refl _, Nat.le_refl _, box VTL.nil, by simpa [tMem] using hF5⟩
  case round =>
   clear hF5 hF
   obtain ⟨i, A, c, B, d, ys, TE, hi, hgi, rfl, hic, hid, hT, hF⟩ := hrel
   have hkk : Box (_ = nl - i) := hgi
   clear hgi
   by_cases hlt : i < nl
   ·obtain ⟨x, hx'⟩ : ∃ x, l[i]? = some x := ⟨l[i]'(by rw [← hl.out]; exact hlt), by simp⟩
    have hx := box hx'
    have hxk := box (ntsL_key hx')
    have hxv := box (ntsL_val hx')
    have hrlb := box hr
    clear hx'
    go_upto_region 7 with fail
    have hFd := hF.drew
    clear hF
    refine wp_region_held (S := fun w' => Rd w' (· < w0.heap.size) Al 2 nl (ntsL l)) (by kernel_rfl) ?_
    change wpAnyH _ _ _ _ _ _ _ _ (World.drew _)
    refine tkp 1 (hr.below hFd.below) ?_
    (try simp only [zP, zQ, zS, zZ, zN])
    refine tkp 2 (hr.below hFd.below) ?_
    (try simp only [zP, zQ, zS, zZ, zN])
    refine tky 3 (y := yi_ix (by with_unfolding_all rfl) T_rnote15 (fun h => hrlb.out.some_ h) (k := i) (by with_unfolding_all exact ⟨_, _, _, _, rfl, rfl, rfl⟩) rfl (by omega)) (s := (hr.below hFd.below)) (h := ?_)
    (try simp only [zP, zQ, zS, zZ, zN])
    refine tkp 4 (hr.below hFd.below) ?_
    (try simp only [zP, zQ, zS, zZ, zN])
    refine tky 5 (y := yi_ld (by with_unfolding_all rfl) (j := i * 2) (fun _ h => h) uq9 rfl (by with_unfolding_all exact ⟨_, rfl, rfl⟩) hxk.out) (s := (hr.below hFd.below)) (h := ?_)
    (try simp only [zP, zQ, zS, zZ, zN])
    refine tkp 6 (hr.below hFd.below) ?_
    (try simp only [zP, zQ, zS, zZ, zN])
    refine tkp 7 (hr.below hFd.below) ?_
    (try simp only [zP, zQ, zS, zZ, zN])
    refine tky 8 (y := yi_ix (by with_unfolding_all rfl) T_rnote15 (fun h => hrlb.out.some_ h) (k := i) (by with_unfolding_all exact ⟨_, _, _, _, rfl, rfl, rfl⟩) rfl (by omega)) (s := (hr.below hFd.below)) (h := ?_)
    (try simp only [zP, zQ, zS, zZ, zN])
    refine tkp 9 (hr.below hFd.below) ?_
    (try simp only [zP, zQ, zS, zZ, zN])
    refine tky 10 (y := yi_ld (by with_unfolding_all rfl) (j := i * 2 + 1) (fun _ h => h) uq9 rfl (by with_unfolding_all exact ⟨_, rfl, congrArg (fun p => Value.pointer (some p)) (atp_fld Al (i * 2) 1 (by decide))⟩) hxv.out) (s := (hr.below hFd.below)) (h := ?_)
    (try simp only [zP, zQ, zS, zZ, zN])
    refine wpAnyH_ready (rs := [0, 11]) (by kernel_rfl) (by simp) ?_
    refine AllReadyH.cons (by simp only [List.getElem?_toArray, List.getElem?_cons_zero]; rfl) (fun K hK => ?_) ?_
    ·refine stp (by with_unfolding_all rfl) (wp_fldA hFd (i := 2) rfl uq51 rfl (by with_unfolding_all exact ⟨_, rfl, rfl⟩) (ds := (vlL 6 0 ⟨#[]⟩ (.slice A i c) (.slice B i d))) (by rw [vlL_len]; kernel_rfl) (take_all _) ?_)
     refine hK.out _ _ ((hr.below hFd.below)) (fun _ => ?_)
     clear hK K
     (try simp only [zP, zQ, zS, zZ, zN])
     refine rdy1 11 (fun K hK => ?_)
     refine stp (by with_unfolding_all rfl) (wp_call Tryz.func50 rfl (by with_unfolding_all rfl) (by with_unfolding_all rfl) (by with_unfolding_all rfl) (rtext_any x.val _) ?_)
     rintro e w31 ⟨rfl, hb31⟩
     refine ⟨_, rfl, ?_⟩
     have hF31 := hFd.call hb31
     refine hK.out _ _ ((hr.below hF31.below)) (fun _ => ?_)
     clear hK K
     (try simp only [zP, zQ, zS, zZ, zN])
     refine rdy1 12 (fun K hK => ?_)
     refine stp (by with_unfolding_all rfl) (wp_call Tryz.func49 rfl (by with_unfolding_all rfl) (by with_unfolding_all rfl) (by with_unfolding_all rfl) (rput_any x.key (vlL 4 0 ⟨x.val.toArray⟩ (.slice none 0 0) (.slice none 0 0)) hF31 (by omega) (by omega) rfl vlL_one) ?_)
     rintro e w32 ⟨A32, c32, B32, d32, hc32, hd32, rfl, hF32⟩
     refine ⟨_, rfl, ?_⟩
     refine hK.out _ _ ((hr.below hF32.below)) (fun _ => ?_)
     clear hK K
     (try simp only [zP, zQ, zS, zZ, zN])
     refine rdy1 13 (fun K hK => ?_)
     refine stp (by with_unfolding_all rfl) (wp_fstA hF32 (i := 2) rfl (ds := (vlL 6 0 ⟨#[]⟩ (.slice A32 (i + 1) c32) (.slice B32 (i + 1) d32))) (by with_unfolding_all exact ⟨_, _, rfl, rfl, rfl⟩) (by rw [vlL_len]; kernel_rfl) vlL_one vlL_fit ?_)
     intro w33 hF33 hz33
     (try simp only [zZ, zN] at hF33)
     rw [(vlL_spl (k' := 6) : spl _ 0 (vlL 6 0 ⟨#[]⟩ (.slice A32 (i + 1) c32) (.slice B32 (i + 1) d32)) = (vlL 6 0 ⟨#[]⟩ (.slice A32 (i + 1) c32) (.slice B32 (i + 1) d32)))] at hF33
     refine hK.out _ _ ((hr.below hF33.below)) (fun _ => ?_)
     clear hK K
     (try simp only [zP, zQ, zS, zZ, zN])
     refine wpAnyH_done (by kernel_rfl) ?_ _
     go_wp2_with fail
     go_roundg (nl - (i + 1))
     case rel => exact ⟨i + 1, A32, c32, B32, d32, ys ++ (vlL 4 0 ⟨x.val.toArray⟩ (.slice none 0 0) (.slice none 0 0)), TE ++ [.rd none 1 0 [], .rd none 5 0 []], by omega, box rfl, by go_num, hc32, hd32, box (by rw [tMem_snoc hx.out, List.map_append]; exact hT.out.snoc VT.leaf), ((hF33.pushNone 5).pushNone 1).perm (by rw [tMem_snoc hx.out, List.map_append]; refine (List.perm_append_comm (l₁ := [Ent.rd none 1 0 [], Ent.rd none 5 0 []])).trans (by simp))⟩
     case measure => have := hkk.out; omega
    refine AllReadyH.cons (by simp only [List.getElem?_toArray, List.getElem?_cons_zero, List.getElem?_cons_succ]; rfl) (fun K hK => ?_) ?_
    ·refine stp (by with_unfolding_all rfl) (wp_call Tryz.func50 rfl (by with_unfolding_all rfl) (by with_unfolding_all rfl) (by with_unfolding_all rfl) (rtext_any x.val _) ?_)
     rintro e w31 ⟨rfl, hb31⟩
     refine ⟨_, rfl, ?_⟩
     have hF31 := hFd.call hb31
     refine hK.out _ _ ((hr.below hF31.below)) (fun _ => ?_)
     clear hK K
     (try simp only [zP, zQ, zS, zZ, zN])
     refine rdy1 0 (fun K hK => ?_)
     refine stp (by with_unfolding_all rfl) (wp_fldA hF31 (i := 2) rfl uq51 rfl (by with_unfolding_all exact ⟨_, rfl, rfl⟩) (ds := (vlL 6 0 ⟨#[]⟩ (.slice A i c) (.slice B i d))) (by rw [vlL_len]; kernel_rfl) (take_all _) ?_)
     refine hK.out _ _ ((hr.below hF31.below)) (fun _ => ?_)
     clear hK K
     (try simp only [zP, zQ, zS, zZ, zN])
     refine rdy1 12 (fun K hK => ?_)
     refine stp (by with_unfolding_all rfl) (wp_call Tryz.func49 rfl (by with_unfolding_all rfl) (by with_unfolding_all rfl) (by with_unfolding_all rfl) (rput_any x.key (vlL 4 0 ⟨x.val.toArray⟩ (.slice none 0 0) (.slice none 0 0)) hF31 (by omega) (by omega) rfl vlL_one) ?_)
     rintro e w32 ⟨A32, c32, B32, d32, hc32, hd32, rfl, hF32⟩
     refine ⟨_, rfl, ?_⟩
     refine hK.out _ _ ((hr.below hF32.below)) (fun _ => ?_)
     clear hK K
     (try simp only [zP, zQ, zS, zZ, zN])
     refine rdy1 13 (fun K hK => ?_)
     refine stp (by with_unfolding_all rfl) (wp_fstA hF32 (i := 2) rfl (ds := (vlL 6 0 ⟨#[]⟩ (.slice A32 (i + 1) c32) (.slice B32 (i + 1) d32))) (by with_unfolding_all exact ⟨_, _, rfl, rfl, rfl⟩) (by rw [vlL_len]; kernel_rfl) vlL_one vlL_fit ?_)
     intro w33 hF33 hz33
     (try simp only [zZ, zN] at hF33)
     rw [(vlL_spl (k' := 6) : spl _ 0 (vlL 6 0 ⟨#[]⟩ (.slice A32 (i + 1) c32) (.slice B32 (i + 1) d32)) = (vlL 6 0 ⟨#[]⟩ (.slice A32 (i + 1) c32) (.slice B32 (i + 1) d32)))] at hF33
     refine hK.out _ _ ((hr.below hF33.below)) (fun _ => ?_)
     clear hK K
     (try simp only [zP, zQ, zS, zZ, zN])
     refine wpAnyH_done (by kernel_rfl) ?_ _
     go_wp2_with fail
     go_roundg (nl - (i + 1))
     case rel => exact ⟨i + 1, A32, c32, B32, d32, ys ++ (vlL 4 0 ⟨x.val.toArray⟩ (.slice none 0 0) (.slice none 0 0)), TE ++ [.rd none 1 0 [], .rd none 5 0 []], by omega, box rfl, by go_num, hc32, hd32, box (by rw [tMem_snoc hx.out, List.map_append]; exact hT.out.snoc VT.leaf), ((hF33.pushNone 5).pushNone 1).perm (by rw [tMem_snoc hx.out, List.map_append]; refine (List.perm_append_comm (l₁ := [Ent.rd none 1 0 [], Ent.rd none 5 0 []])).trans (by simp))⟩
     case measure => have := hkk.out; omega
    exact AllReadyH.nil
   ·obtain rfl : nl = i := by omega
    have htk : l.take nl = l := by rw [hl.out]; exact List.take_length
    rw [htk] at hT hF
    clear htk
    go_wp2_with (first | (with_reducible refine lsx (wp_fldA4 hF uq51 rfl (by with_unfolding_all exact ⟨_, rfl, rfl⟩) (ds := (vlL 6 num t (.slice An nn cn) (.slice Ak nk ck))) (by rw [vlL_len]; kernel_rfl) (take_all _) ?_)) | (with_reducible refine lsx (wp_fldA2 hF uq51 rfl (by with_unfolding_all exact ⟨_, rfl, rfl⟩) (ds := (vlL 6 0 ⟨#[]⟩ (.slice A nl c) (.slice B nl d))) (by rw [vlL_len]; kernel_rfl) (take_all _) ?_)))
    have hG := ((hF.toRd (i := 0) rfl).toRd (i := 1) rfl).perm (es' := .own w0.heap.size 9 1 (.slice An nn cn) nn (ns.map strv) :: .own w0.heap.size 51 5 (.slice Ak nk ck) nk xs :: .blk g2 51 vl0 :: .blk g3 51 (vlL 6 0 ⟨#[]⟩ (.slice A nl c) (.slice B nl d)) :: .blk g1 51 (vlL 6 num t (.slice An nn cn) (.slice Ak nk ck)) :: (es ++ (.rd A 1 nl (((tMem l).map (·.1)).map strv) :: .rd B 5 nl ys :: TE))) (by
     simp only [zZ, zN]
     exact tperm _ _ _ _ _ _ _ _ _)
    have hVN : VT (tNotes l) (vlL 6 0 ⟨#[]⟩ (.slice A nl c) (.slice B nl d)) (.rd A 1 nl (((tMem l).map (·.1)).map strv) :: .rd B 5 nl ys :: TE) := by
     rw [tNotes_mem]; exact VT.mk_ hic hid hT.out
    clear hF
    refine (rput_any kNotes _ hG (by omega) (by omega) rfl vlL_one).mono ?_
    rintro e w7 ⟨A7, c7, B7, d7, hc7, hd7, rfl, hF7⟩
    clear hG
    go_wp2_with (first | ((with_reducible refine lsx (wp_fstA2 hF7 (by with_unfolding_all exact ⟨_, _, rfl, rfl, rfl⟩) (by rw [vlL_len]; kernel_rfl) vlL_one vlL_fit vlL_spl ?_)); intro w8 hF8 hz8))
    exact bodyPost_ret (results_cellF rfl _ hF8 (i := 2) rfl rfl uq51 rfl (by rw [vlL_len]; kernel_rfl)) rfl (by
     unfold More
     rw [hw.out]
     exact ⟨A7, c7, B7, d7, _, _, hc7, hd7, rfl, VTL.snoc VTL.nil hVN, hF8.sub (List.Sublist.cons_cons _ (List.Sublist.cons_cons _ (List.Sublist.cons _ (List.Sublist.cons _ (List.Sublist.cons _ (List.Sublist.refl _))))))⟩)
end Go.Proofs.YtlhicfpmlncomaaGreatDoor

namespace Go.Proofs.YtlhicfpmlncomaaGreatDoor
open Go.RowKit Go.Lib
def szv (n : Int) (xs : List UInt8) : Int := xs.foldl (fun n x => n * 64 + (x.toNat : Int) - 128) n
theorem szv_snoc (n : Int) (xs : List UInt8) (x : UInt8) : szv n (xs ++ [x]) = szv n xs * 64 + (x.toNat : Int) - 128 := by unfold szv; rw [List.foldl_append]; rfl
theorem jSize1 {c : UInt8} {t : List UInt8} (h : c.toNat < 128) : jSize (c :: t) = 1 := by rw [jSize.eq_def]; simp only []; rw [if_pos h]
theorem jSize0 {c : UInt8} {t : List UInt8} (h : 128 ≤ c.toNat ∧ c.toNat < 194 ∨ 245 ≤ c.toNat) : jSize (c :: t) = 0 := by
 rw [jSize.eq_def]
 simp only []
 rw [if_neg (by omega)]
 by_cases h1 : c.toNat < 194
 ·rw [if_pos h1]
 ·rw [if_neg h1, if_neg (by omega), if_neg (by omega), if_neg (by omega)]
theorem cont_eq (x : UInt8) : jCont x = true ↔ 128 ≤ x.toNat ∧ x.toNat ≤ 191 := by unfold jCont; rw [Bool.and_eq_true, decide_eq_true_eq, decide_eq_true_eq]
def szOk (k : Nat) (base : Nat) (c : UInt8) (xs : List UInt8) : Prop :=
 xs.all jCont = true ∧ (k = 3 → ¬ (szv ((c.toNat : Int) - base) xs < 2048 ∨ 55296 ≤ szv ((c.toNat : Int) - base) xs ∧ szv ((c.toNat : Int) - base) xs < 57344)) ∧ (k = 4 → ¬ (szv ((c.toNat : Int) - base) xs < 65536 ∨ 1114111 < szv ((c.toNat : Int) - base) xs))
instance (k base : Nat) (c : UInt8) (xs : List UInt8) : Decidable (szOk k base c xs) := by unfold szOk; exact inferInstance
theorem jSize_k {c : UInt8} {t : List UInt8} {k base : Nat} (h : k = 2 ∧ base = 192 ∧ 194 ≤ c.toNat ∧ c.toNat < 224 ∨ k = 3 ∧ base = 224 ∧ 224 ≤ c.toNat ∧ c.toNat < 240 ∨ k = 4 ∧ base = 240 ∧ 240 ≤ c.toNat ∧ c.toNat < 245) :
  jSize (c :: t) = if k ≤ t.length + 1 ∧ szOk k base c (t.take (k - 1)) then k else 0 := by
 rw [jSize.eq_def]
 simp only []
 rw [if_neg (by omega), if_neg (by omega)]
 rcases h with ⟨rfl, rfl, h1, h2⟩ | ⟨rfl, rfl, h1, h2⟩ | ⟨rfl, rfl, h1, h2⟩
 ·rw [if_pos h2]
  match t with
  | [] => simp
  | x :: t => simp [szOk]
 ·rw [if_neg (by omega), if_pos h2]
  match t with
  | [] => simp
  | [x] => simp
  | x :: y :: t =>
   simp only [List.length_cons, szOk, szv, List.take_succ_cons, List.take_zero, List.all_cons, List.all_nil, Bool.and_true, Bool.and_eq_true, List.foldl_cons, List.foldl_nil]
   by_cases hx : jCont x = true
   ·by_cases hy : jCont y = true
    ·have h3 := (cont_eq x).1 hx
     have h4 := (cont_eq y).1 hy
     congr 1
     simp only [hx, hy, true_and, eq_iff_iff]
     constructor
     ·intro h; refine ⟨by omega, fun _ => by omega, fun h => by omega⟩
     ·intro h; have := h.2.1 trivial; omega
    ·simp [hy]
   ·simp [hx]
 ·rw [if_neg (by omega), if_neg (by omega), if_pos h2]
  match t with
  | [] => simp
  | [x] => simp
  | [x, y] => simp
  | x :: y :: z :: t =>
   simp only [List.length_cons, szOk, szv, List.take_succ_cons, List.take_zero, List.all_cons, List.all_nil, Bool.and_true, Bool.and_eq_true, List.foldl_cons, List.foldl_nil]
   by_cases hx : jCont x = true
   ·by_cases hy : jCont y = true
    ·by_cases hz : jCont z = true
     ·have h3 := (cont_eq x).1 hx
      have h4 := (cont_eq y).1 hy
      have h5 := (cont_eq z).1 hz
      congr 1
      simp only [hx, hy, hz, true_and, eq_iff_iff]
      constructor
      ·intro h; refine ⟨by omega, fun h => by omega, fun _ => by omega⟩
      ·intro h; have := h.2.2 trivial; omega
     ·simp [hz]
    ·simp [hy]
   ·simp [hx]
end Go.Proofs.YtlhicfpmlncomaaGreatDoor

namespace Go.Proofs.YtlhicfpmlncomaaGreatDoor
open Go.RowKit
set_option maxRecDepth 20000 in
set_option maxHeartbeats 12800000 in
theorem rsize_pos (A : Option Addr) (n c : Nat) (c0 : UInt8) (t : List UInt8) (w : World) (S : Nat → Prop) (hn : n ≤ 140737488355328) (hr : Rd w S A 1 n ((c0 :: t).map bv)) :
  Calls Tryz.prog 104 #[.slice A n c] w fun e w' => e = .returned (.int .i64 (jSize (c0 :: t) : Int)) ∧ w = w' := by
 have hl0 := hr.bytes_len
 rw [List.length_cons] at hl0
 have hl := box hl0
 have hn0 : 0 < n := by omega
 have hz : ((n : Int) == 0) = false := by rw [beq_eq_false_iff_ne]; omega
 clear hl0
 have hc0 : Box ((c0 :: t)[0]? = some c0) := box rfl
 have hcl := c0.toNat_lt
 by_cases k1 : c0.toNat < 128
 ·have hend : Box (jSize (c0 :: t) = 1) := box (jSize1 k1)
  have d128 : decide ((128 : Int) ≤ (c0.toNat : Int)) = false := decide_eq_false (by omega)
  have hn1 : ¬ (n : Int) < 1 := by omega
  replace k1 := box k1
  go_enter Tryz.func104, Tryz.ntmps104
  go_wp2_with (first | (with_reducible refine lsx (wp_indexAddr T_u8 hr (by with_unfolding_all exact ⟨_, _, _, _, rfl, rfl, rfl⟩) (by omega) (by omega) ?_)) | (with_reducible refine lsx (wp_loadC hr hc0 uq5 rfl (by with_unfolding_all exact ⟨_, rfl, rfl⟩) (by first | (simp; done) | (simp; omega) | omega) ?_)))
  go_loopg [5] 0 (fun gk b wr => b = .int .i64 1 ∧ wr = w)
  case atStart => exact ⟨rfl, rfl⟩
  case round =>
   obtain ⟨rfl, rfl⟩ := hrel
   go_wp2
   go_ret
   exact ⟨by rw [hend.out]; rfl, rfl⟩
 have d128 : decide ((128 : Int) ≤ (c0.toNat : Int)) = true := decide_eq_true (by omega)
 by_cases k2 : c0.toNat < 194
 ·have hend : Box (jSize (c0 :: t) = 0) := box (jSize0 (.inl ⟨by omega, k2⟩))
  have d194 : decide ((194 : Int) ≤ (c0.toNat : Int)) = false := decide_eq_false (by omega)
  have d224 : decide ((224 : Int) ≤ (c0.toNat : Int)) = false := decide_eq_false (by omega)
  have d240 : decide ((240 : Int) ≤ (c0.toNat : Int)) = false := decide_eq_false (by omega)
  replace k1 := box k1
  replace k2 := box k2
  go_enter Tryz.func104, Tryz.ntmps104
  go_wp2_with (first | (with_reducible refine lsx (wp_indexAddr T_u8 hr (by with_unfolding_all exact ⟨_, _, _, _, rfl, rfl, rfl⟩) (by omega) (by omega) ?_)) | (with_reducible refine lsx (wp_loadC hr hc0 uq5 rfl (by with_unfolding_all exact ⟨_, rfl, rfl⟩) (by first | (simp; done) | (simp; omega) | omega) ?_)))
  go_ret
  exact ⟨by rw [hend.out]; rfl, rfl⟩
 by_cases k3 : 245 ≤ c0.toNat
 ·have hend : Box (jSize (c0 :: t) = 0) := box (jSize0 (.inr k3))
  have d194 : decide ((194 : Int) ≤ (c0.toNat : Int)) = true := decide_eq_true (by omega)
  have e224 : decide ((c0.toNat : Int) < 224) = false := decide_eq_false (by omega)
  have d224 : decide ((224 : Int) ≤ (c0.toNat : Int)) = true := decide_eq_true (by omega)
  have e240 : decide ((c0.toNat : Int) < 240) = false := decide_eq_false (by omega)
  have d240 : decide ((240 : Int) ≤ (c0.toNat : Int)) = true := decide_eq_true (by omega)
  have e245 : decide ((c0.toNat : Int) < 245) = false := decide_eq_false (by omega)
  replace k1 := box k1
  replace k2 := box k2
  replace k3 := box k3
  go_enter Tryz.func104, Tryz.ntmps104
  go_wp2_with (first | (with_reducible refine lsx (wp_indexAddr T_u8 hr (by with_unfolding_all exact ⟨_, _, _, _, rfl, rfl, rfl⟩) (by omega) (by omega) ?_)) | (with_reducible refine lsx (wp_loadC hr hc0 uq5 rfl (by with_unfolding_all exact ⟨_, rfl, rfl⟩) (by first | (simp; done) | (simp; omega) | omega) ?_)))
  go_ret
  exact ⟨by rw [hend.out]; rfl, rfl⟩
 have d194 : decide ((194 : Int) ≤ (c0.toNat : Int)) = true := decide_eq_true (by omega)
 by_cases k4 : c0.toNat < 224
 ·skip
  have e224 : decide ((c0.toNat : Int) < 224) = true := decide_eq_true (by omega)
  have hj := box (jSize_k (c := c0) (t := t) (k := 2) (base := 192) (by omega))
  have hb0 : 0 ≤ (c0.toNat : Int) - 192 ∧ (c0.toNat : Int) - 192 ≤ 31 := by omega
  have hb1 : 192 ≤ c0.toNat := by omega
  replace k1 := box k1
  replace k2 := box k2
  replace k3 := box k3
  replace k4 := box k4
  by_cases hshort : n < 2
  ·have hend : Box (jSize (c0 :: t) = 0) := box (by rw [hj.out, if_neg (by have := hl.out; omega)])
   have hn1 : (n : Int) < 2 := by omega
   go_enter Tryz.func104, Tryz.ntmps104
   go_wp2_with (first | (with_reducible refine lsx (wp_indexAddr T_u8 hr (by with_unfolding_all exact ⟨_, _, _, _, rfl, rfl, rfl⟩) (by omega) (by omega) ?_)) | (with_reducible refine lsx (wp_loadC hr hc0 uq5 rfl (by with_unfolding_all exact ⟨_, rfl, rfl⟩) (by first | (simp; done) | (simp; omega) | omega) ?_)))
   go_ret
   exact ⟨by rw [hend.out]; rfl, rfl⟩
  have hn1 : ¬ (n : Int) < 2 := by omega
  replace hshort := box hshort
  go_enter Tryz.func104, Tryz.ntmps104
  go_wp2_with (first | (with_reducible refine lsx (wp_indexAddr T_u8 hr (by with_unfolding_all exact ⟨_, _, _, _, rfl, rfl, rfl⟩) (by omega) (by omega) ?_)) | (with_reducible refine lsx (wp_loadC hr hc0 uq5 rfl (by with_unfolding_all exact ⟨_, rfl, rfl⟩) (by first | (simp; done) | (simp; omega) | omega) ?_)))
  go_loopg [4, 5] 1 (fun gk a b wr => ∃ (i : Nat) (m : Int), 1 ≤ i ∧ i ≤ 2 ∧ Box (gk = 2 - i) ∧ a = .int .i64 m ∧ b = .int .i64 (i : Int) ∧ Box (m = szv ((c0.toNat : Int) - (192 : Nat)) (t.take (i - 1))) ∧ Box ((t.take (i - 1)).all jCont = true) ∧ 0 ≤ m ∧ m ≤ 8388607 ∧ Box ((i = 1 → m ≤ 31) ∧ (i = 2 → m ≤ 2047) ∧ (i = 3 → m ≤ 131071)) ∧ wr = w)
  case atStart => exact ⟨1, (c0.toNat : Int) - 192, by omega, by omega, box rfl, by go_num, rfl, box rfl, box rfl, by omega, by omega, box ⟨fun _ => by omega, fun h => by omega, fun h => by omega⟩, rfl⟩
  case round =>
   obtain ⟨i, m, hi1, hi, hk, rfl, rfl, hm, hco, hm0, hm1, hmb, rfl⟩ := hrel
   by_cases hlt : i < 2
   ·obtain ⟨x, hx'⟩ : ∃ x, t[i - 1]? = some x := ⟨t[i - 1]'(by have := hl.out; omega), by simp⟩
    have hx : Box ((c0 :: t)[i]? = some x) := box (by obtain ⟨j, rfl⟩ : ∃ j, i = j + 1 := ⟨i - 1, by omega⟩; simpa using hx')
    have hm2 : m ≤ 131071 := by have h := hmb.out; rcases (by omega : i = 1 ∨ i = 2 ∨ i = 3) with h1 | h1 | h1; exact Int.le_trans (h.1 h1) (by omega); exact Int.le_trans (h.2.1 h1) (by omega); exact h.2.2 h1
    have hxl := x.toNat_lt
    have hsn : Box (t.take i = t.take (i - 1) ++ [x]) := box (by obtain ⟨j, rfl⟩ : ∃ j, i = j + 1 := ⟨i - 1, by omega⟩; rw [List.take_add_one]; simp only [Nat.add_sub_cancel] at hx' ⊢; rw [hx']; rfl)
    replace hx' := box hx'
    by_cases hc : 128 ≤ x.toNat ∧ x.toNat ≤ 191
    ·have f1 : decide ((x.toNat : Int) < 128) = false := decide_eq_false (by omega)
     have f2 : decide ((191 : Int) < (x.toNat : Int)) = false := decide_eq_false (by omega)
     go_wp2_with (first | (with_reducible refine lsx (wp_indexAddr T_u8 hr (by with_unfolding_all exact ⟨_, _, _, _, rfl, rfl, rfl⟩) (by omega) (by omega) ?_)) | (with_reducible refine lsx (wp_loadC hr hc0 uq5 rfl (by with_unfolding_all exact ⟨_, rfl, rfl⟩) (by first | (simp; done) | (simp; omega) | omega) ?_)) | (with_reducible refine lsx (wp_loadC hr hx uq5 rfl (by with_unfolding_all exact ⟨_, rfl, rfl⟩) (by first | (simp; done) | (simp; omega) | omega) ?_)))
     go_roundg (2 - (i + 1))
     case rel => exact ⟨i + 1, m * 64 + (x.toNat : Int) - 128, by omega, by omega, box rfl, by go_num, by go_num, box (by rw [Nat.add_sub_cancel, hsn.out, szv_snoc, hm.out]), box (by rw [Nat.add_sub_cancel, hsn.out, List.all_append, hco.out]; simp only [List.all_cons, List.all_nil, Bool.and_true, Bool.true_and]; exact (cont_eq x).2 hc), by omega, by omega, box (by have h := hmb.out; refine ⟨fun h1 => by omega, fun h1 => ?_, fun h1 => ?_⟩; have := h.1 (by omega); omega; have := h.2.1 (by omega); omega), rfl⟩
     case measure => have := hk.out; omega
    ·have hend : Box (jSize (c0 :: t) = 0) := box (by
      rw [hj.out, if_neg]
      intro h
      have h2 := h.2.1
      have h3 : x ∈ t.take (2 - 1) := by
       refine List.mem_of_getElem? (i := i - 1) ?_
       rw [List.getElem?_take, if_pos (by omega)]; exact hx'.out
      have := (cont_eq x).1 (List.all_eq_true.1 h2 x h3)
      exact hc this)
     by_cases hc2 : x.toNat < 128
     ·have f1 : decide ((x.toNat : Int) < 128) = true := decide_eq_true (by omega)
      go_wp2_with (first | (with_reducible refine lsx (wp_indexAddr T_u8 hr (by with_unfolding_all exact ⟨_, _, _, _, rfl, rfl, rfl⟩) (by omega) (by omega) ?_)) | (with_reducible refine lsx (wp_loadC hr hc0 uq5 rfl (by with_unfolding_all exact ⟨_, rfl, rfl⟩) (by first | (simp; done) | (simp; omega) | omega) ?_)) | (with_reducible refine lsx (wp_loadC hr hx uq5 rfl (by with_unfolding_all exact ⟨_, rfl, rfl⟩) (by first | (simp; done) | (simp; omega) | omega) ?_)))
      go_ret
      exact ⟨by rw [hend.out]; rfl, rfl⟩
     ·have f1 : decide ((x.toNat : Int) < 128) = false := decide_eq_false (by omega)
      have f2 : decide ((191 : Int) < (x.toNat : Int)) = true := decide_eq_true (by omega)
      go_wp2_with (first | (with_reducible refine lsx (wp_indexAddr T_u8 hr (by with_unfolding_all exact ⟨_, _, _, _, rfl, rfl, rfl⟩) (by omega) (by omega) ?_)) | (with_reducible refine lsx (wp_loadC hr hc0 uq5 rfl (by with_unfolding_all exact ⟨_, rfl, rfl⟩) (by first | (simp; done) | (simp; omega) | omega) ?_)) | (with_reducible refine lsx (wp_loadC hr hx uq5 rfl (by with_unfolding_all exact ⟨_, rfl, rfl⟩) (by first | (simp; done) | (simp; omega) | omega) ?_)))
      go_ret
      exact ⟨by rw [hend.out]; rfl, rfl⟩
   ·obtain rfl : i = 2 := by omega
    have hend : Box (jSize (c0 :: t) = 2) := box (by rw [hj.out, if_pos]; refine ⟨by have := hl.out; have := hshort.out; omega, hco.out, ?_, ?_⟩ <;> (intro hh; first | omega | (have := hm.out; simp only [Nat.add_one_sub_one] at this; rw [← this]; omega)))
    go_wp2
    go_ret
    exact ⟨by rw [hend.out]; rfl, rfl⟩
 have e224 : decide ((c0.toNat : Int) < 224) = false := decide_eq_false (by omega)
 have d224 : decide ((224 : Int) ≤ (c0.toNat : Int)) = true := decide_eq_true (by omega)
 by_cases k5 : c0.toNat < 240
 ·skip
  have e240 : decide ((c0.toNat : Int) < 240) = true := decide_eq_true (by omega)
  have hj := box (jSize_k (c := c0) (t := t) (k := 3) (base := 224) (by omega))
  have hb0 : 0 ≤ (c0.toNat : Int) - 224 ∧ (c0.toNat : Int) - 224 ≤ 31 := by omega
  have hb1 : 224 ≤ c0.toNat := by omega
  replace k1 := box k1
  replace k2 := box k2
  replace k3 := box k3
  replace k4 := box k4
  replace k5 := box k5
  by_cases hshort : n < 3
  ·have hend : Box (jSize (c0 :: t) = 0) := box (by rw [hj.out, if_neg (by have := hl.out; omega)])
   have hn1 : (n : Int) < 3 := by omega
   go_enter Tryz.func104, Tryz.ntmps104
   go_wp2_with (first | (with_reducible refine lsx (wp_indexAddr T_u8 hr (by with_unfolding_all exact ⟨_, _, _, _, rfl, rfl, rfl⟩) (by omega) (by omega) ?_)) | (with_reducible refine lsx (wp_loadC hr hc0 uq5 rfl (by with_unfolding_all exact ⟨_, rfl, rfl⟩) (by first | (simp; done) | (simp; omega) | omega) ?_)))
   go_ret
   exact ⟨by rw [hend.out]; rfl, rfl⟩
  have hn1 : ¬ (n : Int) < 3 := by omega
  replace hshort := box hshort
  go_enter Tryz.func104, Tryz.ntmps104
  go_wp2_with (first | (with_reducible refine lsx (wp_indexAddr T_u8 hr (by with_unfolding_all exact ⟨_, _, _, _, rfl, rfl, rfl⟩) (by omega) (by omega) ?_)) | (with_reducible refine lsx (wp_loadC hr hc0 uq5 rfl (by with_unfolding_all exact ⟨_, rfl, rfl⟩) (by first | (simp; done) | (simp; omega) | omega) ?_)))
  go_loopg [4, 5] 2 (fun gk a b wr => ∃ (i : Nat) (m : Int), 1 ≤ i ∧ i ≤ 3 ∧ Box (gk = 3 - i) ∧ a = .int .i64 m ∧ b = .int .i64 (i : Int) ∧ Box (m = szv ((c0.toNat : Int) - (224 : Nat)) (t.take (i - 1))) ∧ Box ((t.take (i - 1)).all jCont = true) ∧ 0 ≤ m ∧ m ≤ 8388607 ∧ Box ((i = 1 → m ≤ 31) ∧ (i = 2 → m ≤ 2047) ∧ (i = 3 → m ≤ 131071)) ∧ wr = w)
  case atStart => exact ⟨1, (c0.toNat : Int) - 224, by omega, by omega, box rfl, by go_num, rfl, box rfl, box rfl, by omega, by omega, box ⟨fun _ => by omega, fun h => by omega, fun h => by omega⟩, rfl⟩
  case round =>
   obtain ⟨i, m, hi1, hi, hk, rfl, rfl, hm, hco, hm0, hm1, hmb, rfl⟩ := hrel
   by_cases hlt : i < 3
   ·obtain ⟨x, hx'⟩ : ∃ x, t[i - 1]? = some x := ⟨t[i - 1]'(by have := hl.out; omega), by simp⟩
    have hx : Box ((c0 :: t)[i]? = some x) := box (by obtain ⟨j, rfl⟩ : ∃ j, i = j + 1 := ⟨i - 1, by omega⟩; simpa using hx')
    have hm2 : m ≤ 131071 := by have h := hmb.out; rcases (by omega : i = 1 ∨ i = 2 ∨ i = 3) with h1 | h1 | h1; exact Int.le_trans (h.1 h1) (by omega); exact Int.le_trans (h.2.1 h1) (by omega); exact h.2.2 h1
    have hxl := x.toNat_lt
    have hsn : Box (t.take i = t.take (i - 1) ++ [x]) := box (by obtain ⟨j, rfl⟩ : ∃ j, i = j + 1 := ⟨i - 1, by omega⟩; rw [List.take_add_one]; simp only [Nat.add_sub_cancel] at hx' ⊢; rw [hx']; rfl)
    replace hx' := box hx'
    by_cases hc : 128 ≤ x.toNat ∧ x.toNat ≤ 191
    ·have f1 : decide ((x.toNat : Int) < 128) = false := decide_eq_false (by omega)
     have f2 : decide ((191 : Int) < (x.toNat : Int)) = false := decide_eq_false (by omega)
     go_wp2_with (first | (with_reducible refine lsx (wp_indexAddr T_u8 hr (by with_unfolding_all exact ⟨_, _, _, _, rfl, rfl, rfl⟩) (by omega) (by omega) ?_)) | (with_reducible refine lsx (wp_loadC hr hc0 uq5 rfl (by with_unfolding_all exact ⟨_, rfl, rfl⟩) (by first | (simp; done) | (simp; omega) | omega) ?_)) | (with_reducible refine lsx (wp_loadC hr hx uq5 rfl (by with_unfolding_all exact ⟨_, rfl, rfl⟩) (by first | (simp; done) | (simp; omega) | omega) ?_)))
     go_roundg (3 - (i + 1))
     case rel => exact ⟨i + 1, m * 64 + (x.toNat : Int) - 128, by omega, by omega, box rfl, by go_num, by go_num, box (by rw [Nat.add_sub_cancel, hsn.out, szv_snoc, hm.out]), box (by rw [Nat.add_sub_cancel, hsn.out, List.all_append, hco.out]; simp only [List.all_cons, List.all_nil, Bool.and_true, Bool.true_and]; exact (cont_eq x).2 hc), by omega, by omega, box (by have h := hmb.out; refine ⟨fun h1 => by omega, fun h1 => ?_, fun h1 => ?_⟩; have := h.1 (by omega); omega; have := h.2.1 (by omega); omega), rfl⟩
     case measure => have := hk.out; omega
    ·have hend : Box (jSize (c0 :: t) = 0) := box (by
      rw [hj.out, if_neg]
      intro h
      have h2 := h.2.1
      have h3 : x ∈ t.take (3 - 1) := by
       refine List.mem_of_getElem? (i := i - 1) ?_
       rw [List.getElem?_take, if_pos (by omega)]; exact hx'.out
      have := (cont_eq x).1 (List.all_eq_true.1 h2 x h3)
      exact hc this)
     by_cases hc2 : x.toNat < 128
     ·have f1 : decide ((x.toNat : Int) < 128) = true := decide_eq_true (by omega)
      go_wp2_with (first | (with_reducible refine lsx (wp_indexAddr T_u8 hr (by with_unfolding_all exact ⟨_, _, _, _, rfl, rfl, rfl⟩) (by omega) (by omega) ?_)) | (with_reducible refine lsx (wp_loadC hr hc0 uq5 rfl (by with_unfolding_all exact ⟨_, rfl, rfl⟩) (by first | (simp; done) | (simp; omega) | omega) ?_)) | (with_reducible refine lsx (wp_loadC hr hx uq5 rfl (by with_unfolding_all exact ⟨_, rfl, rfl⟩) (by first | (simp; done) | (simp; omega) | omega) ?_)))
      go_ret
      exact ⟨by rw [hend.out]; rfl, rfl⟩
     ·have f1 : decide ((x.toNat : Int) < 128) = false := decide_eq_false (by omega)
      have f2 : decide ((191 : Int) < (x.toNat : Int)) = true := decide_eq_true (by omega)
      go_wp2_with (first | (with_reducible refine lsx (wp_indexAddr T_u8 hr (by with_unfolding_all exact ⟨_, _, _, _, rfl, rfl, rfl⟩) (by omega) (by omega) ?_)) | (with_reducible refine lsx (wp_loadC hr hc0 uq5 rfl (by with_unfolding_all exact ⟨_, rfl, rfl⟩) (by first | (simp; done) | (simp; omega) | omega) ?_)) | (with_reducible refine lsx (wp_loadC hr hx uq5 rfl (by with_unfolding_all exact ⟨_, rfl, rfl⟩) (by first | (simp; done) | (simp; omega) | omega) ?_)))
      go_ret
      exact ⟨by rw [hend.out]; rfl, rfl⟩
   ·obtain rfl : i = 3 := by omega
    by_cases b1 : m < 2048
    ·have hend : Box (jSize (c0 :: t) = 0) := box (by rw [hj.out, if_neg]; intro hh; have h3 := hh.2.2.1 rfl; have := hm.out; simp only [Nat.add_one_sub_one] at this; rw [← this] at h3; omega)
     have f1 : decide (m < 2048) = true := decide_eq_true b1
     go_wp2
     go_ret
     exact ⟨by rw [hend.out]; rfl, rfl⟩
    have f1 : decide (m < 2048) = false := decide_eq_false b1
    by_cases b2 : 55296 ≤ m
    ·have f2 : decide ((55296 : Int) ≤ m) = true := decide_eq_true b2
     by_cases b3 : m < 57344
     ·have hend : Box (jSize (c0 :: t) = 0) := box (by rw [hj.out, if_neg]; intro hh; have h3 := hh.2.2.1 rfl; have := hm.out; simp only [Nat.add_one_sub_one] at this; rw [← this] at h3; omega)
      have f3 : decide (m < 57344) = true := decide_eq_true b3
      go_wp2
      go_ret
      exact ⟨by rw [hend.out]; rfl, rfl⟩
     ·have hend : Box (jSize (c0 :: t) = 3) := box (by rw [hj.out, if_pos]; refine ⟨by have := hl.out; have := hshort.out; omega, hco.out, ?_, ?_⟩ <;> (intro hh; first | omega | (have := hm.out; simp only [Nat.add_one_sub_one] at this; rw [← this]; omega)))
      have f3 : decide (m < 57344) = false := decide_eq_false b3
      go_wp2
      go_ret
      exact ⟨by rw [hend.out]; rfl, rfl⟩
    ·have hend : Box (jSize (c0 :: t) = 3) := box (by rw [hj.out, if_pos]; refine ⟨by have := hl.out; have := hshort.out; omega, hco.out, ?_, ?_⟩ <;> (intro hh; first | omega | (have := hm.out; simp only [Nat.add_one_sub_one] at this; rw [← this]; omega)))
     have f2 : decide ((55296 : Int) ≤ m) = false := decide_eq_false b2
     go_wp2
     go_ret
     exact ⟨by rw [hend.out]; rfl, rfl⟩
 have e240 : decide ((c0.toNat : Int) < 240) = false := decide_eq_false (by omega)
 have d240 : decide ((240 : Int) ≤ (c0.toNat : Int)) = true := decide_eq_true (by omega)
 have e245 : decide ((c0.toNat : Int) < 245) = true := decide_eq_true (by omega)
 have hj := box (jSize_k (c := c0) (t := t) (k := 4) (base := 240) (by omega))
 have hb0 : 0 ≤ (c0.toNat : Int) - 240 ∧ (c0.toNat : Int) - 240 ≤ 31 := by omega
 have hb1 : 240 ≤ c0.toNat := by omega
 replace k1 := box k1
 replace k2 := box k2
 replace k3 := box k3
 replace k4 := box k4
 replace k5 := box k5
 by_cases hshort : n < 4
 ·have hend : Box (jSize (c0 :: t) = 0) := box (by rw [hj.out, if_neg (by have := hl.out; omega)])
  have hn1 : (n : Int) < 4 := by omega
  go_enter Tryz.func104, Tryz.ntmps104
  go_wp2_with (first | (with_reducible refine lsx (wp_indexAddr T_u8 hr (by with_unfolding_all exact ⟨_, _, _, _, rfl, rfl, rfl⟩) (by omega) (by omega) ?_)) | (with_reducible refine lsx (wp_loadC hr hc0 uq5 rfl (by with_unfolding_all exact ⟨_, rfl, rfl⟩) (by first | (simp; done) | (simp; omega) | omega) ?_)))
  go_ret
  exact ⟨by rw [hend.out]; rfl, rfl⟩
 have hn1 : ¬ (n : Int) < 4 := by omega
 replace hshort := box hshort
 go_enter Tryz.func104, Tryz.ntmps104
 go_wp2_with (first | (with_reducible refine lsx (wp_indexAddr T_u8 hr (by with_unfolding_all exact ⟨_, _, _, _, rfl, rfl, rfl⟩) (by omega) (by omega) ?_)) | (with_reducible refine lsx (wp_loadC hr hc0 uq5 rfl (by with_unfolding_all exact ⟨_, rfl, rfl⟩) (by first | (simp; done) | (simp; omega) | omega) ?_)))
 go_loopg [4, 5] 3 (fun gk a b wr => ∃ (i : Nat) (m : Int), 1 ≤ i ∧ i ≤ 4 ∧ Box (gk = 4 - i) ∧ a = .int .i64 m ∧ b = .int .i64 (i : Int) ∧ Box (m = szv ((c0.toNat : Int) - (240 : Nat)) (t.take (i - 1))) ∧ Box ((t.take (i - 1)).all jCont = true) ∧ 0 ≤ m ∧ m ≤ 8388607 ∧ Box ((i = 1 → m ≤ 31) ∧ (i = 2 → m ≤ 2047) ∧ (i = 3 → m ≤ 131071)) ∧ wr = w)
 case atStart => exact ⟨1, (c0.toNat : Int) - 240, by omega, by omega, box rfl, by go_num, rfl, box rfl, box rfl, by omega, by omega, box ⟨fun _ => by omega, fun h => by omega, fun h => by omega⟩, rfl⟩
 case round =>
  obtain ⟨i, m, hi1, hi, hk, rfl, rfl, hm, hco, hm0, hm1, hmb, rfl⟩ := hrel
  by_cases hlt : i < 4
  ·obtain ⟨x, hx'⟩ : ∃ x, t[i - 1]? = some x := ⟨t[i - 1]'(by have := hl.out; omega), by simp⟩
   have hx : Box ((c0 :: t)[i]? = some x) := box (by obtain ⟨j, rfl⟩ : ∃ j, i = j + 1 := ⟨i - 1, by omega⟩; simpa using hx')
   have hm2 : m ≤ 131071 := by have h := hmb.out; rcases (by omega : i = 1 ∨ i = 2 ∨ i = 3) with h1 | h1 | h1; exact Int.le_trans (h.1 h1) (by omega); exact Int.le_trans (h.2.1 h1) (by omega); exact h.2.2 h1
   have hxl := x.toNat_lt
   have hsn : Box (t.take i = t.take (i - 1) ++ [x]) := box (by obtain ⟨j, rfl⟩ : ∃ j, i = j + 1 := ⟨i - 1, by omega⟩; rw [List.take_add_one]; simp only [Nat.add_sub_cancel] at hx' ⊢; rw [hx']; rfl)
   replace hx' := box hx'
   by_cases hc : 128 ≤ x.toNat ∧ x.toNat ≤ 191
   ·have f1 : decide ((x.toNat : Int) < 128) = false := decide_eq_false (by omega)
    have f2 : decide ((191 : Int) < (x.toNat : Int)) = false := decide_eq_false (by omega)
    go_wp2_with (first | (with_reducible refine lsx (wp_indexAddr T_u8 hr (by with_unfolding_all exact ⟨_, _, _, _, rfl, rfl, rfl⟩) (by omega) (by omega) ?_)) | (with_reducible refine lsx (wp_loadC hr hc0 uq5 rfl (by with_unfolding_all exact ⟨_, rfl, rfl⟩) (by first | (simp; done) | (simp; omega) | omega) ?_)) | (with_reducible refine lsx (wp_loadC hr hx uq5 rfl (by with_unfolding_all exact ⟨_, rfl, rfl⟩) (by first | (simp; done) | (simp; omega) | omega) ?_)))
    go_roundg (4 - (i + 1))
    case rel => exact ⟨i + 1, m * 64 + (x.toNat : Int) - 128, by omega, by omega, box rfl, by go_num, by go_num, box (by rw [Nat.add_sub_cancel, hsn.out, szv_snoc, hm.out]), box (by rw [Nat.add_sub_cancel, hsn.out, List.all_append, hco.out]; simp only [List.all_cons, List.all_nil, Bool.and_true, Bool.true_and]; exact (cont_eq x).2 hc), by omega, by omega, box (by have h := hmb.out; refine ⟨fun h1 => by omega, fun h1 => ?_, fun h1 => ?_⟩; have := h.1 (by omega); omega; have := h.2.1 (by omega); omega), rfl⟩
    case measure => have := hk.out; omega
   ·have hend : Box (jSize (c0 :: t) = 0) := box (by
     rw [hj.out, if_neg]
     intro h
     have h2 := h.2.1
     have h3 : x ∈ t.take (4 - 1) := by
      refine List.mem_of_getElem? (i := i - 1) ?_
      rw [List.getElem?_take, if_pos (by omega)]; exact hx'.out
     have := (cont_eq x).1 (List.all_eq_true.1 h2 x h3)
     exact hc this)
    by_cases hc2 : x.toNat < 128
    ·have f1 : decide ((x.toNat : Int) < 128) = true := decide_eq_true (by omega)
     go_wp2_with (first | (with_reducible refine lsx (wp_indexAddr T_u8 hr (by with_unfolding_all exact ⟨_, _, _, _, rfl, rfl, rfl⟩) (by omega) (by omega) ?_)) | (with_reducible refine lsx (wp_loadC hr hc0 uq5 rfl (by with_unfolding_all exact ⟨_, rfl, rfl⟩) (by first | (simp; done) | (simp; omega) | omega) ?_)) | (with_reducible refine lsx (wp_loadC hr hx uq5 rfl (by with_unfolding_all exact ⟨_, rfl, rfl⟩) (by first | (simp; done) | (simp; omega) | omega) ?_)))
     go_ret
     exact ⟨by rw [hend.out]; rfl, rfl⟩
    ·have f1 : decide ((x.toNat : Int) < 128) = false := decide_eq_false (by omega)
     have f2 : decide ((191 : Int) < (x.toNat : Int)) = true := decide_eq_true (by omega)
     go_wp2_with (first | (with_reducible refine lsx (wp_indexAddr T_u8 hr (by with_unfolding_all exact ⟨_, _, _, _, rfl, rfl, rfl⟩) (by omega) (by omega) ?_)) | (with_reducible refine lsx (wp_loadC hr hc0 uq5 rfl (by with_unfolding_all exact ⟨_, rfl, rfl⟩) (by first | (simp; done) | (simp; omega) | omega) ?_)) | (with_reducible refine lsx (wp_loadC hr hx uq5 rfl (by with_unfolding_all exact ⟨_, rfl, rfl⟩) (by first | (simp; done) | (simp; omega) | omega) ?_)))
     go_ret
     exact ⟨by rw [hend.out]; rfl, rfl⟩
  ·obtain rfl : i = 4 := by omega
   by_cases b1 : m < 65536
   ·have hend : Box (jSize (c0 :: t) = 0) := box (by rw [hj.out, if_neg]; intro hh; have h3 := hh.2.2.2 rfl; have := hm.out; simp only [Nat.add_one_sub_one] at this; rw [← this] at h3; omega)
    have f1 : decide (m < 65536) = true := decide_eq_true b1
    go_wp2
    go_ret
    exact ⟨by rw [hend.out]; rfl, rfl⟩
   have f1 : decide (m < 65536) = false := decide_eq_false b1
   by_cases b2 : 1114111 < m
   ·have hend : Box (jSize (c0 :: t) = 0) := box (by rw [hj.out, if_neg]; intro hh; have h3 := hh.2.2.2 rfl; have := hm.out; simp only [Nat.add_one_sub_one] at this; rw [← this] at h3; omega)
    have f2 : decide ((1114111 : Int) < m) = true := decide_eq_true b2
    go_wp2
    go_ret
    exact ⟨by rw [hend.out]; rfl, rfl⟩
   ·have hend : Box (jSize (c0 :: t) = 4) := box (by rw [hj.out, if_pos]; refine ⟨by have := hl.out; have := hshort.out; omega, hco.out, ?_, ?_⟩ <;> (intro hh; first | omega | (have := hm.out; simp only [Nat.add_one_sub_one] at this; rw [← this]; omega)))
    have f2 : decide ((1114111 : Int) < m) = false := decide_eq_false b2
    go_wp2
    go_ret
    exact ⟨by rw [hend.out]; rfl, rfl⟩
theorem rsize_any (A : Option Addr) (n c : Nat) (l : List UInt8) (w : World) (S : Nat → Prop) (hn : n ≤ 140737488355328) (hr : Rd w S A 1 n (l.map bv)) :
  Calls Tryz.prog 104 #[.slice A n c] w fun e w' => e = .returned (.int .i64 (jSize l : Int)) ∧ w = w' := by
 cases l with
 | cons c0 t => exact rsize_pos A n c c0 t w S hn hr
 | nil =>
  have hl := hr.bytes_len
  obtain rfl : 0 = n := hl
  go_enter Tryz.func104, Tryz.ntmps104
  go_wp2
  go_ret
  exact ⟨rfl, rfl⟩
end Go.Proofs.YtlhicfpmlncomaaGreatDoor

namespace Go.Proofs.YtlhicfpmlncomaaGreatDoor
open Go.RowKit Go.Lib
set_option maxRecDepth 20000 in
set_option maxHeartbeats 3200000 in
theorem rvalid_any (t : List UInt8) (w : World) (ht : t.length ≤ 140737488355328) :
  Calls Tryz.prog 74 #[.string ⟨t.toArray⟩] w fun e w' => e = .returned (.bool (validD t)) ∧ Below w.heap.size w w' := by
 obtain ⟨R, hR⟩ : ∃ R, R = validD t := ⟨_, rfl⟩
 rw [← hR]
 replace hR := box hR
 have hF0 := Fr.nil w
 go_enter Tryz.func74, Tryz.ntmps74
 go_wp2_with (first | ((with_reducible refine lsx (wp_fs2b T_u8 uq5 uq9 hF0 (by with_unfolding_all exact ⟨_, rfl, rfl⟩) ?_)); intro w1 g1 c1 hF1 hz1 hc1))
 have hr1 := hF1.rd (i := 0) rfl
 rw [str_mk_size] at hr1 hc1
 go_loopg [3] (t.length + 1) (fun gk a wr => ∃ (A : Option Addr) (n c : Nat) (l : List UInt8), a = .slice A n c ∧ n ≤ c ∧ Box (gk = n + 1) ∧ n ≤ 140737488355328 ∧ Box (R = validD l) ∧ Rd w1 (· < w1.heap.size) A 1 n (l.map bv) ∧ wr = w1)
 case atStart => exact ⟨_, _, _, t, rfl, hc1, box rfl, ht, hR, hr1, rfl⟩
 case round =>
  obtain ⟨A, n, c, l, rfl, hnc, hk, hn, hv, hr, rfl⟩ := hrel
  clear hr1 hc1 ht
  have hl := box hr.bytes_len
  cases l with
  | nil =>
   obtain rfl : 0 = n := hl.out
   have hend : Box (R = true) := box (by rw [hv.out]; rfl)
   go_wp2
   go_ret
   exact ⟨by rw [hend.out]; rfl, hF1.below⟩
  | cons y l =>
   have hn0 : 0 < n := by have := hl.out; rw [List.length_cons] at this; omega
   have hs := rsize_any A n c (y :: l) wr _ hn hr
   have hvd := validD_jSize y l
   go_wp2_with fail
   refine hs.mono ?_
   rintro e w2 ⟨rfl, rfl⟩
   by_cases h0 : jSize (y :: l) = 0
   ·rw [if_pos h0] at hvd
    have hend : Box (R = false) := box (by rw [hv.out, hvd])
    rw [h0]
    clear hvd hs
    go_wp2
    go_ret
    exact ⟨by rw [hend.out]; rfl, hF1.below⟩
   ·rw [if_neg h0] at hvd
    have hle := (jSize_take h0 (Nat.le_refl _)).1
    rw [hl.out] at hle
    have hv2 : Box (R = validD ((y :: l).drop (jSize (y :: l)))) := box (by rw [hv.out, hvd])
    obtain ⟨k, hk'⟩ : ∃ k, k = jSize (y :: l) := ⟨_, rfl⟩
    rw [← hk'] at hv2 hle h0
    rw [← hk']
    have hkz : ((k : Int) == 0) = false := by rw [beq_eq_false_iff_ne]; omega
    have htk : Box ((y :: l).take n = y :: l) := box (List.take_of_length_le (by rw [hl.out]; exact Nat.le_refl _))
    replace hk' := box hk'
    replace h0 := box h0
    clear hvd hs
    go_wp2_with (first | ((with_reducible refine lsx (wp_cutB T_u8 hr hnc (lo := (some (k:Int))) (hi := none) (mx := none) ?_ (l := k) (h := n) (m := c) (by first | (simp; done) | (simp; omega)) (by first | (simp; done) | (simp; omega)) (by first | (simp; done) | (simp; omega)) (by simp) (by omega) (by omega) (by omega) (by omega) ?_)); exact ⟨_, _, _, _, .i64, .i64, .i64, rfl, rfl, rfl, rfl, rfl⟩; intro A2 c2 hr2 hc2 hc3))
    rw [htk.out] at hr2
    go_roundg (n - k + 1)
    case rel => exact ⟨A2, n - k, c2, _, rfl, hc2, box rfl, by omega, hv2, hr2, rfl⟩
    case measure => have := hk.out; have := h0.out; omega
end Go.Proofs.YtlhicfpmlncomaaGreatDoor

namespace Go.Proofs.YtlhicfpmlncomaaGreatDoor
open Go.RowKit
def NtSm (l : List MNote) : Prop := l.length ≤ 1000000 ∧ ∀ x ∈ l, x.key.length ≤ 100000000 ∧ x.val.length ≤ 100000000
def rnGood (l : List MNote) (i : Nat) : Prop := ∀ j x, j < i → l[j]? = some x → Lib.validD x.key = true ∧ Lib.validD x.val = true ∧ ∀ k y, k < j → l[k]? = some y → y.key ≠ x.key
theorem rnGood_all {l : List MNote} (h32 : l.length ≤ 32) (h : rnGood l l.length) : mRightN l := by
 refine ⟨h32, fun x hx => ?_, ?_⟩
 ·obtain ⟨j, hj⟩ := List.mem_iff_getElem?.1 hx
  have := h j x (List.getElem?_eq_some_iff.1 hj).1 hj
  exact ⟨this.1, this.2.1⟩
 ·rw [List.Nodup, List.pairwise_iff_getElem]
  intro i j hi hj hij
  rw [List.length_map] at hi hj
  rw [List.getElem_map, List.getElem_map]
  exact (h j l[j] hj (List.getElem?_eq_getElem hj)).2.2 i l[i] hij (List.getElem?_eq_getElem hi)
theorem rnBad_v {l : List MNote} {i : Nat} {x : MNote} (hx : l[i]? = some x) (h : Lib.validD x.key = false ∨ Lib.validD x.val = false) : ¬ mRightN l := fun hr => by
 have := hr.2.1 x (List.mem_of_getElem? hx)
 rcases h with h | h
 ·rw [h] at this; exact absurd this.1 (by decide)
 ·rw [h] at this; exact absurd this.2 (by decide)
theorem rnBad_k {l : List MNote} {i k : Nat} {x y : MNote} (hx : l[i]? = some x) (hy : l[k]? = some y) (hk : k < i) (h : y.key = x.key) : ¬ mRightN l := fun hr => by
 have hn := hr.2.2
 rw [List.Nodup, List.pairwise_iff_getElem] at hn
 obtain ⟨hi, rfl⟩ := List.getElem?_eq_some_iff.1 hx
 obtain ⟨hk2, rfl⟩ := List.getElem?_eq_some_iff.1 hy
 have := hn k i (by rw [List.length_map]; exact hk2) (by rw [List.length_map]; exact hi) hk
 rw [List.getElem_map, List.getElem_map] at this
 exact this h
set_option maxRecDepth 20000 in
set_option maxHeartbeats 12800000 in
theorem rrightN_any (l : List MNote) (A : Option Addr) (n c : Nat) (w : World) (hr : Rd w (· < w.heap.size) A 2 n (ntsL l)) (hn' : n = l.length) (hs : NtSm l) :
  Calls Tryz.prog 47 #[.slice A n c] w fun e w' => e = .returned (.bool (decide (mRightN l))) ∧ Below w.heap.size w w' := by
 have hF0 := Fr.nil w
 have hvl := box (fun (s : List UInt8) (w' : World) (h : s.length ≤ 100000000) => rvalid_any s w' (by omega))
 by_cases h32 : n ≤ 32
 rotate_left
 ·have hbad : Box (¬ mRightN l) := box (fun h => h32 (by rw [hn']; exact h.1))
  have hlt0 : 0 < n := by omega
  have d2 : decide ((n : Int) ≤ 32) = false := decide_eq_false (by omega)
  replace h32 := box h32
  clear hn' hs
  go_enter Tryz.func47, Tryz.ntmps47
  go_wp2_with fail
  go_loopg [3] 0 (fun gk a wr => a = .int .i64 0 ∧ wr = w)
  case atStart => exact ⟨rfl, rfl⟩
  case round =>
   obtain ⟨rfl, rfl⟩ := hrel
   go_wp2_with fail
   go_ret
   exact ⟨by rw [decide_eq_false hbad.out]; rfl, hF0.below⟩
 have d2 : decide ((n : Int) ≤ 32) = true := decide_eq_true (by omega)
 have hn := box hn'
 obtain ⟨hs1, hs2'⟩ := hs
 have hs2 := box hs2'
 clear hn' hs1 hs2'
 go_enter Tryz.func47, Tryz.ntmps47
 go_wp2_with fail
 go_loopg [3] n (fun g a wr => ∃ i : Nat, i ≤ n ∧ Box (g = n - i) ∧ a = .int .i64 (i : Int) ∧ Box (rnGood l i) ∧ Fr [] w wr [])
 case atStart => exact ⟨0, by omega, box rfl, rfl, box (fun j x hj => absurd hj (by omega)), hF0⟩
 case round =>
  clear hF0
  obtain ⟨i, hi, hgi, rfl, hgd, hF⟩ := hrel
  have hkk : Box (_ = n - i) := hgi
  clear hgi
  have hrl := hr.below hF.below
  by_cases hlt : i < n
  ·obtain ⟨x, hx'⟩ : ∃ x, l[i]? = some x := ⟨l[i]'(by rw [← hn.out]; exact hlt), by simp⟩
   have hxk := box (ntsL_key hx')
   have hxv := box (ntsL_val hx')
   have hxs := hs2.out x (List.mem_of_getElem? hx')
   have hx := box hx'
   have hv1 := box (fun w' => hvl.out x.key w' hxs.1)
   have hv2 := box (fun w' => hvl.out x.val w' hxs.2)
   clear hx' hxs
   cases hq1 : Lib.validD x.key with
   | false =>
    have hbad := box (rnBad_v hx.out (.inl hq1))
    rw [hq1] at hv1
    replace hq1 := box hq1
    go_wp2_with (first | (with_reducible refine lsx (wp_indexAddr T_rnote15 hrl (by with_unfolding_all exact ⟨_, _, _, _, rfl, rfl, rfl⟩) (by omega) (by omega) ?_)) | (with_reducible refine lsx (wp_load1C (j := i * 2) hrl hxk uq9 rfl (by with_unfolding_all exact ⟨_, rfl, rfl⟩) rfl ?_)) | (with_reducible refine lsx (wp_load1C (j := i * 2 + 1) hrl hxv uq9 rfl (by with_unfolding_all exact ⟨_, rfl, congrArg (fun p => Value.pointer (some p)) (atp_fld A (i * 2) 1 (by decide))⟩) rfl ?_)))
    refine (hv1.out _).mono ?_
    rintro e w2 ⟨rfl, hb2⟩
    have hF2 := hF.call hb2
    go_wp2_with fail
    go_ret
    exact ⟨by rw [decide_eq_false hbad.out]; rfl, hF2.below⟩
   | true =>
    rw [hq1] at hv1
    replace hq1 := box hq1
    cases hq2 : Lib.validD x.val with
    | false =>
     have hbad := box (rnBad_v hx.out (.inr hq2))
     rw [hq2] at hv2
     replace hq2 := box hq2
     go_wp2_with (first | (with_reducible refine lsx (wp_indexAddr T_rnote15 hrl (by with_unfolding_all exact ⟨_, _, _, _, rfl, rfl, rfl⟩) (by omega) (by omega) ?_)) | (with_reducible refine lsx (wp_load1C (j := i * 2) hrl hxk uq9 rfl (by with_unfolding_all exact ⟨_, rfl, rfl⟩) rfl ?_)) | (with_reducible refine lsx (wp_load1C (j := i * 2 + 1) hrl hxv uq9 rfl (by with_unfolding_all exact ⟨_, rfl, congrArg (fun p => Value.pointer (some p)) (atp_fld A (i * 2) 1 (by decide))⟩) rfl ?_)))
     refine (hv1.out _).mono ?_
     rintro e w2 ⟨rfl, hb2⟩
     have hF2 := hF.call hb2
     have hrl2 := hr.below hF2.below
     go_wp2_with (first | (with_reducible refine lsx (wp_indexAddr T_rnote15 hrl2 (by with_unfolding_all exact ⟨_, _, _, _, rfl, rfl, rfl⟩) (by omega) (by omega) ?_)) | (with_reducible refine lsx (wp_load1C (j := i * 2) hrl2 hxk uq9 rfl (by with_unfolding_all exact ⟨_, rfl, rfl⟩) rfl ?_)) | (with_reducible refine lsx (wp_load1C (j := i * 2 + 1) hrl2 hxv uq9 rfl (by with_unfolding_all exact ⟨_, rfl, congrArg (fun p => Value.pointer (some p)) (atp_fld A (i * 2) 1 (by decide))⟩) rfl ?_)))
     refine (hv2.out _).mono ?_
     rintro e w3 ⟨rfl, hb3⟩
     have hF3 := hF2.call hb3
     go_wp2_with fail
     go_ret
     exact ⟨by rw [decide_eq_false hbad.out]; rfl, hF3.below⟩
    | true =>
     rw [hq2] at hv2
     replace hq2 := box hq2
     go_wp2_with (first | (with_reducible refine lsx (wp_indexAddr T_rnote15 hrl (by with_unfolding_all exact ⟨_, _, _, _, rfl, rfl, rfl⟩) (by omega) (by omega) ?_)) | (with_reducible refine lsx (wp_load1C (j := i * 2) hrl hxk uq9 rfl (by with_unfolding_all exact ⟨_, rfl, rfl⟩) rfl ?_)) | (with_reducible refine lsx (wp_load1C (j := i * 2 + 1) hrl hxv uq9 rfl (by with_unfolding_all exact ⟨_, rfl, congrArg (fun p => Value.pointer (some p)) (atp_fld A (i * 2) 1 (by decide))⟩) rfl ?_)))
     refine (hv1.out _).mono ?_
     rintro e w2 ⟨rfl, hb2⟩
     have hF2 := hF.call hb2
     have hrl2 := hr.below hF2.below
     go_wp2_with (first | (with_reducible refine lsx (wp_indexAddr T_rnote15 hrl2 (by with_unfolding_all exact ⟨_, _, _, _, rfl, rfl, rfl⟩) (by omega) (by omega) ?_)) | (with_reducible refine lsx (wp_load1C (j := i * 2) hrl2 hxk uq9 rfl (by with_unfolding_all exact ⟨_, rfl, rfl⟩) rfl ?_)) | (with_reducible refine lsx (wp_load1C (j := i * 2 + 1) hrl2 hxv uq9 rfl (by with_unfolding_all exact ⟨_, rfl, congrArg (fun p => Value.pointer (some p)) (atp_fld A (i * 2) 1 (by decide))⟩) rfl ?_)))
     refine (hv2.out _).mono ?_
     rintro e w3 ⟨rfl, hb3⟩
     have hF3 := hF2.call hb3
     clear hF hF2 hrl2 hrl hb2 hb3
     go_wp2_with fail
     go_loopg [4] i (fun g a wr => ∃ k : Nat, k ≤ i ∧ Box (g = i - k) ∧ a = .int .i64 (k : Int) ∧ Box (∀ k' y, k' < k → l[k']? = some y → y.key ≠ x.key) ∧ Fr [] w wr [])
     case atStart => exact ⟨0, by omega, box rfl, rfl, box (fun k' y hk' => absurd hk' (by omega)), hF3⟩
     case round =>
      clear hF3
      obtain ⟨k, hk, hgk, rfl, hno, hF⟩ := hrel
      have hkj : Box (_ = i - k) := hgk
      clear hgk
      by_cases hki : k < i
      ·obtain ⟨y, hy'⟩ : ∃ y, l[k]? = some y := ⟨l[k]'(by rw [← hn.out]; omega), by simp⟩
       have hyk := box (ntsL_key hy')
       have hy := box hy'
       have hki' := box hki
       clear hy'
       go_upto_region 9 with fail
       have hFd := hF.drew
       clear hF
       cases hsu : (y.key == x.key) with
       | true =>
        have hbad := box (rnBad_k hx.out hy.out hki'.out (beq_iff_eq.1 hsu))
        refine wp_region_held (S := fun w' => Rd w' (· < w.heap.size) A 2 n (ntsL l)) (by kernel_rfl) ?_
        change wpAnyH _ _ _ _ _ _ _ _ (World.drew _)
        refine tkp 0 (hr.below hFd.below) ?_
        (try simp only [zP, zQ, zS, zZ, zN])
        refine tkp 1 (hr.below hFd.below) ?_
        (try simp only [zP, zQ, zS, zZ, zN])
        refine tky 2 (y := yi_ix (by with_unfolding_all rfl) T_rnote15 (fun h => hr.some_ h) (k := k) (by with_unfolding_all exact ⟨_, _, _, _, rfl, rfl, rfl⟩) rfl (by omega)) (s := (hr.below hFd.below)) (h := ?_)
        (try simp only [zP, zQ, zS, zZ, zN])
        refine tkp 3 (hr.below hFd.below) ?_
        (try simp only [zP, zQ, zS, zZ, zN])
        refine tky 4 (y := yi_ld (by with_unfolding_all rfl) (j := k * 2) (fun _ h => h) uq9 rfl (by with_unfolding_all exact ⟨_, rfl, rfl⟩) hyk.out) (s := (hr.below hFd.below)) (h := ?_)
        (try simp only [zP, zQ, zS, zZ, zN])
        refine tkp 5 (hr.below hFd.below) ?_
        (try simp only [zP, zQ, zS, zZ, zN])
        refine tkp 6 (hr.below hFd.below) ?_
        (try simp only [zP, zQ, zS, zZ, zN])
        refine tky 7 (y := yi_ix (by with_unfolding_all rfl) T_rnote15 (fun h => hr.some_ h) (k := i) (by with_unfolding_all exact ⟨_, _, _, _, rfl, rfl, rfl⟩) rfl (by omega)) (s := (hr.below hFd.below)) (h := ?_)
        (try simp only [zP, zQ, zS, zZ, zN])
        refine tkp 8 (hr.below hFd.below) ?_
        (try simp only [zP, zQ, zS, zZ, zN])
        refine tky 9 (y := yi_ld (by with_unfolding_all rfl) (j := i * 2) (fun _ h => h) uq9 rfl (by with_unfolding_all exact ⟨_, rfl, rfl⟩) hxk.out) (s := (hr.below hFd.below)) (h := ?_)
        (try simp only [zP, zQ, zS, zZ, zN])
        refine tkp 10 (hr.below hFd.below) ?_
        (try simp only [zP, zQ, zS, zZ, zN])
        refine wpAnyH_done (by kernel_rfl) ?_ _
        go_wp2_with fail
        go_ret
        exact ⟨by rw [decide_eq_false hbad.out]; rfl, hFd.below⟩
       | false =>
        have hno2 : Box (∀ k' z, k' < k + 1 → l[k']? = some z → z.key ≠ x.key) := box (fun k' z hk' hz => by
         by_cases h : k' < k
         ·exact hno.out k' z h hz
         ·obtain rfl : k' = k := by omega
          rw [hy.out] at hz
          injection hz with hz
          subst hz
          exact beq_eq_false_iff_ne.1 hsu)
        refine wp_region_held (S := fun w' => Rd w' (· < w.heap.size) A 2 n (ntsL l)) (by kernel_rfl) ?_
        change wpAnyH _ _ _ _ _ _ _ _ (World.drew _)
        refine tkp 0 (hr.below hFd.below) ?_
        (try simp only [zP, zQ, zS, zZ, zN])
        refine tkp 1 (hr.below hFd.below) ?_
        (try simp only [zP, zQ, zS, zZ, zN])
        refine tky 2 (y := yi_ix (by with_unfolding_all rfl) T_rnote15 (fun h => hr.some_ h) (k := k) (by with_unfolding_all exact ⟨_, _, _, _, rfl, rfl, rfl⟩) rfl (by omega)) (s := (hr.below hFd.below)) (h := ?_)
        (try simp only [zP, zQ, zS, zZ, zN])
        refine tkp 3 (hr.below hFd.below) ?_
        (try simp only [zP, zQ, zS, zZ, zN])
        refine tky 4 (y := yi_ld (by with_unfolding_all rfl) (j := k * 2) (fun _ h => h) uq9 rfl (by with_unfolding_all exact ⟨_, rfl, rfl⟩) hyk.out) (s := (hr.below hFd.below)) (h := ?_)
        (try simp only [zP, zQ, zS, zZ, zN])
        refine tkp 5 (hr.below hFd.below) ?_
        (try simp only [zP, zQ, zS, zZ, zN])
        refine tkp 6 (hr.below hFd.below) ?_
        (try simp only [zP, zQ, zS, zZ, zN])
        refine tky 7 (y := yi_ix (by with_unfolding_all rfl) T_rnote15 (fun h => hr.some_ h) (k := i) (by with_unfolding_all exact ⟨_, _, _, _, rfl, rfl, rfl⟩) rfl (by omega)) (s := (hr.below hFd.below)) (h := ?_)
        (try simp only [zP, zQ, zS, zZ, zN])
        refine tkp 8 (hr.below hFd.below) ?_
        (try simp only [zP, zQ, zS, zZ, zN])
        refine tky 9 (y := yi_ld (by with_unfolding_all rfl) (j := i * 2) (fun _ h => h) uq9 rfl (by with_unfolding_all exact ⟨_, rfl, rfl⟩) hxk.out) (s := (hr.below hFd.below)) (h := ?_)
        (try simp only [zP, zQ, zS, zZ, zN])
        refine tkp 10 (hr.below hFd.below) ?_
        (try simp only [zP, zQ, zS, zZ, zN])
        refine wpAnyH_done (by kernel_rfl) ?_ _
        go_wp2_with fail
        go_roundg (i - (k + 1))
        case rel => exact ⟨k + 1, by omega, box rfl, by go_num, hno2, hFd⟩
        case measure => have := hkj.out; omega
      ·obtain rfl : i = k := by omega
       have hgd2 : Box (rnGood l (i + 1)) := box (fun j z hj hz => by
        by_cases h : j < i
        ·exact hgd.out j z h hz
        ·obtain rfl : j = i := by omega
         rw [hx.out] at hz
         injection hz with hz
         subst hz
         exact ⟨hq1.out, hq2.out, hno.out⟩)
       go_wp2_with fail
       go_roundg (n - (i + 1))
       case rel => exact ⟨i + 1, by omega, box rfl, by go_num, hgd2, hF⟩
       case measure => have := hkk.out; omega
  ·obtain rfl : n = i := by omega
   have hok := box (rnGood_all (by rw [← hn.out]; exact h32) (by rw [← hn.out]; exact hgd.out))
   go_wp2_with fail
   go_ret
   exact ⟨by rw [decide_eq_true hok.out]; rfl, hF.below⟩
end Go.Proofs.YtlhicfpmlncomaaGreatDoor

namespace Go.Proofs.YtlhicfpmlncomaaGreatDoor
open Go.RowKit
def part (l m : List UInt8) (j : Nat) : List UInt8 := l.take j ++ m.drop j
theorem str_app (a b : ByteArray) : (a ++ b).data.toList = a.data.toList ++ b.data.toList := by simp
theorem str_ext {a b : ByteArray} (h : a.data.toList = b.data.toList) : a = b := ByteArray.ext (Array.ext' h)
theorem dgT_str (d : List UInt8) : (⟨(dgT d).toArray⟩ : ByteArray) = ⟨#[115, 104, 97, 50, 53, 54, 58]⟩ ++ ⟨(hexL d).toArray⟩ := str_ext (by rw [str_app]; rfl)
set_option maxRecDepth 20000 in
set_option maxHeartbeats 800000 in
theorem dgTextF_any (d : List UInt8) (w : World) (hd : d.length = 32) : Calls Tryz.prog 78 #[.agg (d.map bv).toArray] w fun e w' => e = .returned (.string ⟨(dgT d).toArray⟩) ∧ Below w.heap.size w w' := by
 have hF0 := Fr.nil w
 replace hd := box hd
 have hdm : Box ((d.map bv).length = 32) := box (by rw [List.length_map]; exact hd.out)
 go_enter Tryz.func78, Tryz.ntmps78
 go_wp2_with (first | ((with_reducible refine lsx (wp_fbox hF0 (cs := (d.map bv)) rfl (by with_unfolding_all rfl) (by with_unfolding_all rfl) ?_)); intro w1 g1 hF1 hz1))
 have hr := hF1.rdBlk (i := 0) (off := 0) (n := 32) (xs := d.map bv) rfl hdm.out (by rw [List.drop_zero, List.take_of_length_le (by have := hdm.out; omega)])
 refine (rhex_any _ 32 _ d _ (by omega) hr).mono ?_
 rintro e w2 ⟨rfl, hb2⟩
 have hF2 := hF1.call hb2
 have hlen : (hexL d).length ≤ 64 := by rw [hexL_len2, hd.out]; exact Nat.le_refl _
 go_wp2_with fail
 go_ret
 exact ⟨by rw [dgT_str]; rfl, hF2.below⟩
end Go.Proofs.YtlhicfpmlncomaaGreatDoor

namespace Go.Proofs.YtlhicfpmlncomaaGreatDoor
open Go.RowKit
end Go.Proofs.YtlhicfpmlncomaaGreatDoor

namespace Go.Proofs.YtlhicfpmlncomaaGreatDoor
open Go.RowKit
theorem T_rdesc17 : SlT Tryz.prog 38 37 35 80 (.agg ds0.toArray) := ⟨uq38, by kernel_rfl, by kernel_rfl, by decide⟩
end Go.Proofs.YtlhicfpmlncomaaGreatDoor
