/-
 Layer 8: the document's Tell, walked.
 Layer 8: a document that came in. No program is named here.
-/
import Derived.Test.YtlhicfpmlncomaaGreatDoorK16
import Derived.Test.YtlhicfpmlncomaaGreatDoorK02
import Derived.Test.YtlhicfpmlncomaaGreatDoorK18
import Derived.Test.YtlhicfpmlncomaaGreatDoorK15
import Derived.Test.YtlhicfpmlncomaaGreatDoorK11
import Derived.Test.YtlhicfpmlncomaaGreatDoorK00
set_option linter.unusedSimpArgs false
set_option linter.unusedVariables false
namespace Go.Proofs.YtlhicfpmlncomaaGreatDoor
open Go.RowKit
theorem permTail {α : Type} (a b c : List α) : ((a ++ b) ++ c).Perm ((a ++ c) ++ b) := by
 rw [List.append_assoc, List.append_assoc]
 exact List.Perm.append_left _ List.perm_append_comm
theorem lperm {α : Type} (z a l n k o g2 g1 : α) (te le : List α) : (z :: a :: l :: n :: k :: o :: g2 :: g1 :: (te ++ le)).Perm (n :: k :: o :: g2 :: g1 :: l :: (te ++ (z :: a :: le))) := by
 have e1 : (z :: a :: l :: n :: k :: o :: g2 :: g1 :: (te ++ le)) = [z, a] ++ (([l] ++ [n, k, o, g2, g1]) ++ (te ++ le)) := rfl
 have e2 : (n :: k :: o :: g2 :: g1 :: l :: (te ++ (z :: a :: le))) = ([n, k, o, g2, g1] ++ [l]) ++ (te ++ ([z, a] ++ le)) := by simp
 rw [e1, e2]
 refine List.Perm.trans (List.perm_append_comm_assoc _ _ _) ?_
 exact List.Perm.append List.perm_append_comm (List.perm_append_comm_assoc _ _ _)
def Mid (w : World) (g1 g2 go b : Nat) (doc : List Value) (ms : List (List UInt8 × JV)) (wx : World) : Prop :=
 ∃ (nn : Nat) (A : Option Addr) (c : Nat) (B : Option Addr) (d : Nat) (ys : List Value) (TE : List Ent), nn = ms.length ∧ nn ≤ b ∧ nn ≤ c ∧ nn ≤ d ∧ VTL (ms.map (fun x => x.2)) ys TE ∧
  Fr [] w wx (.own w.heap.size 9 1 (.slice A nn c) nn ((ms.map (fun x => x.1)).map strv) :: .own w.heap.size 51 5 (.slice B nn d) nn ys :: .blk go 51 (vlL 6 0 ⟨#[]⟩ (.slice A nn c) (.slice B nn d)) :: .blk g2 51 vl0 :: .blk g1 40 doc :: TE)
theorem Mid.put {w : World} {g1 g2 go b nn : Nat} {doc : List Value} {ms : List (List UInt8 × JV)} {wx : World} {A B : Option Addr} {c d : Nat} {ys cs : List Value} {TE es : List Ent} {s : List UInt8} {v : JV} (hnn : nn = ms.length) (hb : nn + 1 ≤ b) (hc : nn + 1 ≤ c) (hd : nn + 1 ≤ d) (hT : VTL (ms.map (fun x => x.2)) ys TE) (hv : VT v cs es)
  (hF : Fr [] w wx (.own w.heap.size 9 1 (.slice A (nn + 1) c) (nn + 1) ((ms.map (fun x => x.1) ++ [s]).map strv) :: .own w.heap.size 51 5 (.slice B (nn + 1) d) (nn + 1) (ys ++ cs) :: .blk go 51 (vlL 6 0 ⟨#[]⟩ (.slice A (nn + 1) c) (.slice B (nn + 1) d)) :: .blk g2 51 vl0 :: .blk g1 40 doc :: (TE ++ es))) :
  Mid w g1 g2 go b doc (ms ++ [(s, v)]) wx := by
 refine ⟨nn + 1, A, c, B, d, ys ++ cs, TE ++ es, by rw [List.length_append, hnn]; rfl, hb, hc, hd, ?_, ?_⟩
 ·rw [List.map_append]; exact hT.snoc hv
 ·rw [List.map_append]; exact hF
theorem Fr.lfE {X : List Nat} {w0 w : World} {es : List Ent} (h : Fr X w0 w es) : Fr X w0 w (es ++ tLf) := ((h.pushNone 5).pushNone 1).perm (List.perm_append_comm (l₁ := tLf))
set_option maxRecDepth 20000 in
set_option maxHeartbeats 25600000 in
theorem rtell_any (D : MDoc) (cs : List Value) (w : World) (hDD : RdDoc w D cs) (hsm : DcSm D) :
  Calls Tryz.prog 21 #[.agg cs.toArray] w (TDesc w (mTell D)) := by
 obtain ⟨cf, eg, sj, nt, hC0, ⟨Ae, ne, ce, xe, hnce, hne', rfl, hre0, hEd0⟩, hS0, ⟨An, nq, cn, hnn0, hnq', rfl, hrn0⟩, rfl⟩ := hDD
 obtain ⟨hsm1, hsm2, hsC', ⟨hsE0, hsE'⟩, hsS', hsN⟩ := hsm
 have hcl := box hC0.len
 have hsl := box hS0.len
 have hre := box hre0
 have hcf := box (fun w' (hb : Below w.heap.size w w') => rtold_any D.config cf w' (hC0.on hb) hsC'.2.1)
 have hsu := box (fun w' (hb : Below w.heap.size w w') => rtold_any D.subject sj w' (hS0.on hb) hsS'.2.1)
 obtain ⟨eds, hDe'⟩ : ∃ eds, D.edges = eds := ⟨_, rfl⟩
 rw [hDe'] at hne' hEd0 hsE' hsE0
 have hne6 : ne ≤ 1000000 := by omega
 have hDe := box hDe'
 have hEd := box hEd0
 have hne := box hne'
 have hsE := box hsE'
 have hnq := box hnq'
 have hnqb := box (show nq ≤ 1000000 by rw [hnq']; exact hsN.1)
 have hnr := box hrn0
 obtain ⟨m, hDm'⟩ : ∃ m, D.media = m := ⟨_, rfl⟩
 obtain ⟨ty, hDt'⟩ : ∃ ty, D.type = ty := ⟨_, rfl⟩
 obtain ⟨hs, hDh'⟩ : ∃ hs, D.has = hs := ⟨_, rfl⟩
 rw [hDm', hDt', hDh']
 have hDm := box hDm'
 have hDt := box hDt'
 have hDh := box hDh'
 clear hC0 hS0 hre0 hEd0 hne' hsC' hsS' hsE' hrn0 hnq' hsN hDe' hDm' hDt' hDh' hsm1 hsm2 hsE0
 have hF0 := Fr.nil w
 go_enter Tryz.func21, Tryz.ntmps21
 go_wp2_with (first | ((with_reducible refine lsx (wp_fbox hF0 (cs := (docL m ty cf (.slice Ae ne ce) sj hs (.slice An nq cn))) rfl (by with_unfolding_all rfl) (by with_unfolding_all rfl) ?_)); intro w1 g1 hF1 hz1) | ((with_reducible refine lsx (wp_falloc hF1 (cs := vl0) (z := .agg (List.toArray (vl0))) rfl (by kernel_rfl) (by with_unfolding_all rfl) ?_)); intro w2 g2 hF2 hz2) | (with_reducible refine lsx (wp_fbuild uq51 (z := .agg (List.toArray vl0)) (by kernel_rfl) (pl := vlP) (by kernel_rfl) (cs := vl0) rfl (vs := []) (by with_unfolding_all rfl) (by with_unfolding_all rfl) ?_)) | (with_reducible refine lsx (wp_fbuild uq51 (z := .agg (List.toArray vl0)) (by kernel_rfl) (pl := vlP) (by kernel_rfl) (cs := (vlL 3 2 ⟨#[]⟩ (.slice none 0 0) (.slice none 0 0))) rfl (vs := [(0, .int .i64 3), (1, .int .i64 2)]) (by with_unfolding_all rfl) (by with_unfolding_all rfl) ?_)))
 have hF4 := (hF2.none_ w.heap.size 51 5).none_ w.heap.size 9 1
 clear hF0 hF1 hF2
 refine (rput_any (ns := []) kVersion (vlL 3 2 ⟨#[]⟩ (.slice none 0 0) (.slice none 0 0)) hF4 (by omega) (by omega) rfl vlL_one).mono ?_
 rintro e w5 ⟨A5, c5, B5, d5, hc5, hd5, rfl, hF5⟩
 clear hF4
 go_upto_region 2 with (first | ((with_reducible refine lsx (wp_falloc hF5 (cs := vl0) (z := .agg (List.toArray (vl0))) rfl (by kernel_rfl) (by with_unfolding_all rfl) ?_)); intro w6 g6 hF6 hz6) | ((with_reducible refine lsx (wp_fstA0 hF6 (by with_unfolding_all exact ⟨_, _, rfl, rfl, rfl⟩) (by rw [vlL_len]; kernel_rfl) vlL_one vlL_fit vlL_spl ?_)); intro w7 hF7 hz7))
 have hF8 := (hF7.perm (perm12 _ _ _ _)).lfE
 clear hF5 hF6 hF7
 have hT : Box (VTL ([(kVersion, jN 2)].map (fun x => x.2)) ([] ++ (vlL 3 2 ⟨#[]⟩ (.slice none 0 0) (.slice none 0 0))) ([] ++ tLf)) := box (VTL.snoc (v := jN 2) VTL.nil VT.leaf)
 (try simp only [zP, zQ, zS, zZ, zN])
 go_cut [] (fun wx => Mid w g1 g2 g6 2 (docL m ty cf (.slice Ae ne ce) sj hs (.slice An nq cn)) [(kVersion, jN 2), (kMedia, jT m)] wx)
 case first =>
  have hFd := hF8.drew
  clear hF8
  refine wp_region_held (S := fun w' => w'.heap[g1]? = some (.cells (List.toArray (docL m ty cf (.slice Ae ne ce) sj hs (.slice An nq cn))) 40 (0, 0))) (by kernel_rfl) ?_
  change wpAnyH _ _ _ _ _ _ _ _ (World.drew _)
  refine tkp 1 (hFd.blk (i := 4) rfl) ?_
  (try simp only [zP, zQ, zS, zZ, zN])
  refine tky 2 (y := yi_fld (by with_unfolding_all rfl) (fun _ h => h) uq9 rfl (by with_unfolding_all exact ⟨_, rfl, rfl⟩) docL_m0) (s := (hFd.blk (i := 4) rfl)) (h := ?_)
  (try simp only [zP, zQ, zS, zZ, zN])
  refine wpAnyH_ready (rs := [0, 3]) (by kernel_rfl) (by simp) ?_
  refine AllReadyH.cons (by simp only [List.getElem?_toArray, List.getElem?_cons_zero]; rfl) (fun K hK => ?_) ?_
  ·refine stp (by with_unfolding_all rfl) (wp_fldA hFd (i := 2) rfl uq51 rfl (by with_unfolding_all exact ⟨_, rfl, rfl⟩) (ds := (vlL 6 0 ⟨#[]⟩ (.slice A5 (0 + 1) c5) (.slice B5 (0 + 1) d5))) (by rw [vlL_len]; kernel_rfl) (take_all _) ?_)
   refine hK.out _ _ ((hFd.blk (i := 4) rfl)) (fun _ => ?_)
   clear hK K
   (try simp only [zP, zQ, zS, zZ, zN])
   refine rdy1 3 (fun K hK => ?_)
   refine stp (by with_unfolding_all rfl) (wp_call Tryz.func50 rfl (by with_unfolding_all rfl) (by with_unfolding_all rfl) (by with_unfolding_all rfl) (rtext_any m _) ?_)
   rintro e w31 ⟨rfl, hb31⟩
   refine ⟨_, rfl, ?_⟩
   have hF31 := hFd.call hb31
   refine hK.out _ _ ((hF31.blk (i := 4) rfl)) (fun _ => ?_)
   clear hK K
   (try simp only [zP, zQ, zS, zZ, zN])
   refine rdy1 4 (fun K hK => ?_)
   refine stp (by with_unfolding_all rfl) (wp_call Tryz.func49 rfl (by with_unfolding_all rfl) (by with_unfolding_all rfl) (by with_unfolding_all rfl) (rput_any kMedia (vlL 4 0 ⟨(m).toArray⟩ (.slice none 0 0) (.slice none 0 0)) hF31 (by omega) (by omega) rfl vlL_one) ?_)
   rintro e w32 ⟨A32, c32, B32, d32, hc32, hd32, rfl, hF32⟩
   refine ⟨_, rfl, ?_⟩
   refine hK.out _ _ ((hF32.blk (i := 4) rfl)) (fun _ => ?_)
   clear hK K
   (try simp only [zP, zQ, zS, zZ, zN])
   refine rdy1 5 (fun K hK => ?_)
   refine stp (by with_unfolding_all rfl) (wp_fstA hF32 (i := 2) rfl (ds := (vlL 6 0 ⟨#[]⟩ (.slice A32 (0 + 1 + 1) c32) (.slice B32 (0 + 1 + 1) d32))) (by with_unfolding_all exact ⟨_, _, rfl, rfl, rfl⟩) (by rw [vlL_len]; kernel_rfl) vlL_one vlL_fit ?_)
   intro w33 hF33 hz33
   (try simp only [zZ, zN] at hF33)
   rw [(vlL_spl (k' := 6) : spl _ 0 (vlL 6 0 ⟨#[]⟩ (.slice A32 (0 + 1 + 1) c32) (.slice B32 (0 + 1 + 1) d32)) = (vlL 6 0 ⟨#[]⟩ (.slice A32 (0 + 1 + 1) c32) (.slice B32 (0 + 1 + 1) d32)))] at hF33
   refine hK.out _ _ ((hF33.blk (i := 4) rfl)) (fun _ => ?_)
   clear hK K
   (try simp only [zP, zQ, zS, zZ, zN])
   refine wpAnyH_done (by kernel_rfl) ?_ _
   go_wp2_with fail
   go_meet
   exact Mid.put (nn := 0 + 1) (ms := [(kVersion, jN 2)]) (s := kMedia) (v := jT m) rfl (by omega) hc32 hd32 hT.out VT.leaf (hF33.lfE)
  refine AllReadyH.cons (by simp only [List.getElem?_toArray, List.getElem?_cons_zero, List.getElem?_cons_succ]; rfl) (fun K hK => ?_) ?_
  ·refine stp (by with_unfolding_all rfl) (wp_call Tryz.func50 rfl (by with_unfolding_all rfl) (by with_unfolding_all rfl) (by with_unfolding_all rfl) (rtext_any m _) ?_)
   rintro e w31 ⟨rfl, hb31⟩
   refine ⟨_, rfl, ?_⟩
   have hF31 := hFd.call hb31
   refine hK.out _ _ ((hF31.blk (i := 4) rfl)) (fun _ => ?_)
   clear hK K
   (try simp only [zP, zQ, zS, zZ, zN])
   refine rdy1 0 (fun K hK => ?_)
   refine stp (by with_unfolding_all rfl) (wp_fldA hF31 (i := 2) rfl uq51 rfl (by with_unfolding_all exact ⟨_, rfl, rfl⟩) (ds := (vlL 6 0 ⟨#[]⟩ (.slice A5 (0 + 1) c5) (.slice B5 (0 + 1) d5))) (by rw [vlL_len]; kernel_rfl) (take_all _) ?_)
   refine hK.out _ _ ((hF31.blk (i := 4) rfl)) (fun _ => ?_)
   clear hK K
   (try simp only [zP, zQ, zS, zZ, zN])
   refine rdy1 4 (fun K hK => ?_)
   refine stp (by with_unfolding_all rfl) (wp_call Tryz.func49 rfl (by with_unfolding_all rfl) (by with_unfolding_all rfl) (by with_unfolding_all rfl) (rput_any kMedia (vlL 4 0 ⟨(m).toArray⟩ (.slice none 0 0) (.slice none 0 0)) hF31 (by omega) (by omega) rfl vlL_one) ?_)
   rintro e w32 ⟨A32, c32, B32, d32, hc32, hd32, rfl, hF32⟩
   refine ⟨_, rfl, ?_⟩
   refine hK.out _ _ ((hF32.blk (i := 4) rfl)) (fun _ => ?_)
   clear hK K
   (try simp only [zP, zQ, zS, zZ, zN])
   refine rdy1 5 (fun K hK => ?_)
   refine stp (by with_unfolding_all rfl) (wp_fstA hF32 (i := 2) rfl (ds := (vlL 6 0 ⟨#[]⟩ (.slice A32 (0 + 1 + 1) c32) (.slice B32 (0 + 1 + 1) d32))) (by with_unfolding_all exact ⟨_, _, rfl, rfl, rfl⟩) (by rw [vlL_len]; kernel_rfl) vlL_one vlL_fit ?_)
   intro w33 hF33 hz33
   (try simp only [zZ, zN] at hF33)
   rw [(vlL_spl (k' := 6) : spl _ 0 (vlL 6 0 ⟨#[]⟩ (.slice A32 (0 + 1 + 1) c32) (.slice B32 (0 + 1 + 1) d32)) = (vlL 6 0 ⟨#[]⟩ (.slice A32 (0 + 1 + 1) c32) (.slice B32 (0 + 1 + 1) d32)))] at hF33
   refine hK.out _ _ ((hF33.blk (i := 4) rfl)) (fun _ => ?_)
   clear hK K
   (try simp only [zP, zQ, zS, zZ, zN])
   refine wpAnyH_done (by kernel_rfl) ?_ _
   go_wp2_with fail
   go_meet
   exact Mid.put (nn := 0 + 1) (ms := [(kVersion, jN 2)]) (s := kMedia) (v := jT m) rfl (by omega) hc32 hd32 hT.out VT.leaf (hF33.lfE)
  exact AllReadyH.nil
 case rest =>
  clear hF8 hT
  obtain ⟨nn, A, c, B, d, ys, TE, hnn', hnb, hcc, hdd, hT', hF⟩ := hcut
  have hnn := box hnn'
  have hT := box hT'
  clear hnn' hT'
  go_step
  go_step
  (try simp only [zP, zQ, zS, zZ, zN])
  go_cut [] (fun wx => Mid w g1 g2 g6 3 (docL m ty cf (.slice Ae ne ce) sj hs (.slice An nq cn)) ([(kVersion, jN 2), (kMedia, jT m)] ++ tType ty) wx)
  case first =>
   by_cases ht : ty = []
   ·have t1 : (ty == []) = true := by rw [beq_iff_eq]; exact ht
    have t2 : (ty != []) = false := by rw [bne, t1]; rfl
    have hty : Box (tType ty = []) := box (if_pos ht)
    replace ht := box ht
    go_wp2_with (first | (with_reducible refine lsx (wp_fld4 hF uq9 rfl (by with_unfolding_all exact ⟨_, rfl, rfl⟩) docL_t0 ?_)))
    go_meet
    rw [hty.out, List.append_nil]
    exact ⟨nn, A, c, B, d, ys, TE, hnn.out, by omega, hcc, hdd, hT.out, hF⟩
   ·have t1 : (ty == []) = false := by rw [beq_eq_false_iff_ne]; exact ht
    have t2 : (ty != []) = true := by rw [bne, t1]; rfl
    have hty : Box (tType ty = [(kType, jT ty)]) := box (if_neg ht)
    replace ht := box ht
    go_upto_region 4 with (first | (with_reducible refine lsx (wp_fld4 hF uq9 rfl (by with_unfolding_all exact ⟨_, rfl, rfl⟩) docL_t0 ?_)))
    have hFd := hF.drew
    clear hF
    refine wp_region_held (S := fun w' => w'.heap[g1]? = some (.cells (List.toArray (docL m ty cf (.slice Ae ne ce) sj hs (.slice An nq cn))) 40 (0, 0))) (by kernel_rfl) ?_
    change wpAnyH _ _ _ _ _ _ _ _ (World.drew _)
    refine tkp 1 (hFd.blk (i := 4) rfl) ?_
    (try simp only [zP, zQ, zS, zZ, zN])
    refine tky 2 (y := yi_fld (by with_unfolding_all rfl) (fun _ h => h) uq9 rfl (by with_unfolding_all exact ⟨_, rfl, rfl⟩) docL_t0) (s := (hFd.blk (i := 4) rfl)) (h := ?_)
    (try simp only [zP, zQ, zS, zZ, zN])
    refine wpAnyH_ready (rs := [0, 3]) (by kernel_rfl) (by simp) ?_
    refine AllReadyH.cons (by simp only [List.getElem?_toArray, List.getElem?_cons_zero]; rfl) (fun K hK => ?_) ?_
    ·refine stp (by with_unfolding_all rfl) (wp_fldA hFd (i := 2) rfl uq51 rfl (by with_unfolding_all exact ⟨_, rfl, rfl⟩) (ds := (vlL 6 0 ⟨#[]⟩ (.slice A nn c) (.slice B nn d))) (by rw [vlL_len]; kernel_rfl) (take_all _) ?_)
     refine hK.out _ _ ((hFd.blk (i := 4) rfl)) (fun _ => ?_)
     clear hK K
     (try simp only [zP, zQ, zS, zZ, zN])
     refine rdy1 3 (fun K hK => ?_)
     refine stp (by with_unfolding_all rfl) (wp_call Tryz.func50 rfl (by with_unfolding_all rfl) (by with_unfolding_all rfl) (by with_unfolding_all rfl) (rtext_any ty _) ?_)
     rintro e w31 ⟨rfl, hb31⟩
     refine ⟨_, rfl, ?_⟩
     have hF31 := hFd.call hb31
     refine hK.out _ _ ((hF31.blk (i := 4) rfl)) (fun _ => ?_)
     clear hK K
     (try simp only [zP, zQ, zS, zZ, zN])
     refine rdy1 4 (fun K hK => ?_)
     refine stp (by with_unfolding_all rfl) (wp_call Tryz.func49 rfl (by with_unfolding_all rfl) (by with_unfolding_all rfl) (by with_unfolding_all rfl) (rput_any kType (vlL 4 0 ⟨(ty).toArray⟩ (.slice none 0 0) (.slice none 0 0)) hF31 (by omega) (by omega) rfl vlL_one) ?_)
     rintro e w32 ⟨A32, c32, B32, d32, hc32, hd32, rfl, hF32⟩
     refine ⟨_, rfl, ?_⟩
     refine hK.out _ _ ((hF32.blk (i := 4) rfl)) (fun _ => ?_)
     clear hK K
     (try simp only [zP, zQ, zS, zZ, zN])
     refine rdy1 5 (fun K hK => ?_)
     refine stp (by with_unfolding_all rfl) (wp_fstA hF32 (i := 2) rfl (ds := (vlL 6 0 ⟨#[]⟩ (.slice A32 (nn + 1) c32) (.slice B32 (nn + 1) d32))) (by with_unfolding_all exact ⟨_, _, rfl, rfl, rfl⟩) (by rw [vlL_len]; kernel_rfl) vlL_one vlL_fit ?_)
     intro w33 hF33 hz33
     (try simp only [zZ, zN] at hF33)
     rw [(vlL_spl (k' := 6) : spl _ 0 (vlL 6 0 ⟨#[]⟩ (.slice A32 (nn + 1) c32) (.slice B32 (nn + 1) d32)) = (vlL 6 0 ⟨#[]⟩ (.slice A32 (nn + 1) c32) (.slice B32 (nn + 1) d32)))] at hF33
     refine hK.out _ _ ((hF33.blk (i := 4) rfl)) (fun _ => ?_)
     clear hK K
     (try simp only [zP, zQ, zS, zZ, zN])
     refine wpAnyH_done (by kernel_rfl) ?_ _
     go_wp2_with fail
     go_meet
     rw [hty.out]
     exact Mid.put hnn.out (by omega) hc32 hd32 hT.out VT.leaf (hF33.lfE)
    refine AllReadyH.cons (by simp only [List.getElem?_toArray, List.getElem?_cons_zero, List.getElem?_cons_succ]; rfl) (fun K hK => ?_) ?_
    ·refine stp (by with_unfolding_all rfl) (wp_call Tryz.func50 rfl (by with_unfolding_all rfl) (by with_unfolding_all rfl) (by with_unfolding_all rfl) (rtext_any ty _) ?_)
     rintro e w31 ⟨rfl, hb31⟩
     refine ⟨_, rfl, ?_⟩
     have hF31 := hFd.call hb31
     refine hK.out _ _ ((hF31.blk (i := 4) rfl)) (fun _ => ?_)
     clear hK K
     (try simp only [zP, zQ, zS, zZ, zN])
     refine rdy1 0 (fun K hK => ?_)
     refine stp (by with_unfolding_all rfl) (wp_fldA hF31 (i := 2) rfl uq51 rfl (by with_unfolding_all exact ⟨_, rfl, rfl⟩) (ds := (vlL 6 0 ⟨#[]⟩ (.slice A nn c) (.slice B nn d))) (by rw [vlL_len]; kernel_rfl) (take_all _) ?_)
     refine hK.out _ _ ((hF31.blk (i := 4) rfl)) (fun _ => ?_)
     clear hK K
     (try simp only [zP, zQ, zS, zZ, zN])
     refine rdy1 4 (fun K hK => ?_)
     refine stp (by with_unfolding_all rfl) (wp_call Tryz.func49 rfl (by with_unfolding_all rfl) (by with_unfolding_all rfl) (by with_unfolding_all rfl) (rput_any kType (vlL 4 0 ⟨(ty).toArray⟩ (.slice none 0 0) (.slice none 0 0)) hF31 (by omega) (by omega) rfl vlL_one) ?_)
     rintro e w32 ⟨A32, c32, B32, d32, hc32, hd32, rfl, hF32⟩
     refine ⟨_, rfl, ?_⟩
     refine hK.out _ _ ((hF32.blk (i := 4) rfl)) (fun _ => ?_)
     clear hK K
     (try simp only [zP, zQ, zS, zZ, zN])
     refine rdy1 5 (fun K hK => ?_)
     refine stp (by with_unfolding_all rfl) (wp_fstA hF32 (i := 2) rfl (ds := (vlL 6 0 ⟨#[]⟩ (.slice A32 (nn + 1) c32) (.slice B32 (nn + 1) d32))) (by with_unfolding_all exact ⟨_, _, rfl, rfl, rfl⟩) (by rw [vlL_len]; kernel_rfl) vlL_one vlL_fit ?_)
     intro w33 hF33 hz33
     (try simp only [zZ, zN] at hF33)
     rw [(vlL_spl (k' := 6) : spl _ 0 (vlL 6 0 ⟨#[]⟩ (.slice A32 (nn + 1) c32) (.slice B32 (nn + 1) d32)) = (vlL 6 0 ⟨#[]⟩ (.slice A32 (nn + 1) c32) (.slice B32 (nn + 1) d32)))] at hF33
     refine hK.out _ _ ((hF33.blk (i := 4) rfl)) (fun _ => ?_)
     clear hK K
     (try simp only [zP, zQ, zS, zZ, zN])
     refine wpAnyH_done (by kernel_rfl) ?_ _
     go_wp2_with fail
     go_meet
     rw [hty.out]
     exact Mid.put hnn.out (by omega) hc32 hd32 hT.out VT.leaf (hF33.lfE)
    exact AllReadyH.nil
  case rest =>
   clear hF hT hnn
   obtain ⟨nn, A, c, B, d, ys, TE, hnn', hnb, hcc, hdd, hT', hF⟩ := hcut
   have hnn := box hnn'
   have hT := box hT'
   clear hnn' hT'
   go_step
   go_step
   (try simp only [zP, zQ, zS, zZ, zN])
   go_cut [4] (fun u4 wx => ∃ g8, u4 = .pointer (some ⟨g8, 0, none⟩) ∧ Fr [] w wx (.own w.heap.size 51 5 (.slice none 0 0) 0 [] :: .blk g8 51 (vlL 5 0 ⟨#[]⟩ (.slice none 0 0) (.slice none 0 0)) :: .own w.heap.size 9 1 (.slice A nn c) nn ((([(kVersion, jN 2), (kMedia, jT m)] ++ tType ty).map (fun x => x.1)).map strv) :: .own w.heap.size 51 5 (.slice B nn d) nn ys :: .blk g6 51 (vlL 6 0 ⟨#[]⟩ (.slice A nn c) (.slice B nn d)) :: .blk g2 51 vl0 :: .blk g1 40 (docL m ty cf (.slice Ae ne ce) sj hs (.slice An nq cn)) :: TE))
   case first =>
    go_wp2_with (first | (with_reducible refine lsx (wp_fbuild uq51 (z := .agg (List.toArray vl0)) (by kernel_rfl) (pl := vlP) (by kernel_rfl) (cs := (vlL 5 0 ⟨#[]⟩ (.slice none 0 0) (.slice none 0 0))) rfl (vs := [(0, .int .i64 5)]) (by with_unfolding_all rfl) (by with_unfolding_all rfl) ?_)) | ((with_reducible refine lsx (wp_falloc hF (cs := vl0) (z := .agg (List.toArray (vl0))) rfl (by kernel_rfl) (by with_unfolding_all rfl) ?_)); intro w8 g8 hF8 hz8) | ((with_reducible refine lsx (wp_fstA0 hF8 (by with_unfolding_all exact ⟨_, _, rfl, rfl, rfl⟩) (by rw [vlL_len]; kernel_rfl) vlL_one vlL_fit vlL_spl ?_)); intro w9 hF9 hz9))
    go_meet
    exact ⟨g8, rfl, hF9.none_ w.heap.size 51 5⟩
   case rest =>
    obtain ⟨g8, rfl, hF10⟩ := hcut
    clear hF
    go_step
    go_step
    (try simp only [zP, zQ, zS, zZ, zN])
    go_cut [] (fun wx => ∃ (AL : Option Addr) (cL : Nat) (zs : List Value) (LE : List Ent), ne ≤ cL ∧ VTL (eds.map tDesc) zs LE ∧ Fr [] w wx (.own w.heap.size 51 5 (.slice AL ne cL) ne zs :: .blk g8 51 (vlL 5 0 ⟨#[]⟩ (.slice none 0 0) (.slice AL ne cL)) :: .own w.heap.size 9 1 (.slice A nn c) nn ((([(kVersion, jN 2), (kMedia, jT m)] ++ tType ty).map (fun x => x.1)).map strv) :: .own w.heap.size 51 5 (.slice B nn d) nn ys :: .blk g6 51 (vlL 6 0 ⟨#[]⟩ (.slice A nn c) (.slice B nn d)) :: .blk g2 51 vl0 :: .blk g1 40 (docL m ty cf (.slice Ae ne ce) sj hs (.slice An nq cn)) :: (TE ++ LE)))
    case first =>
     go_wp2_with fail
     go_loopg [5] ne (fun g iv wr => ∃ (i : Nat) (AL : Option Addr) (cL : Nat) (zs : List Value) (LE : List Ent), i ≤ ne ∧ Box (g = ne - i) ∧ iv = .int .i64 (i : Int) ∧ i ≤ cL ∧ Box (VTL ((eds.take i).map tDesc) zs LE) ∧ Fr [] w wr (.own w.heap.size 51 5 (.slice AL i cL) i zs :: .blk g8 51 (vlL 5 0 ⟨#[]⟩ (.slice none 0 0) (.slice AL i cL)) :: .own w.heap.size 9 1 (.slice A nn c) nn ((([(kVersion, jN 2), (kMedia, jT m)] ++ tType ty).map (fun x => x.1)).map strv) :: .own w.heap.size 51 5 (.slice B nn d) nn ys :: .blk g6 51 (vlL 6 0 ⟨#[]⟩ (.slice A nn c) (.slice B nn d)) :: .blk g2 51 vl0 :: .blk g1 40 (docL m ty cf (.slice Ae ne ce) sj hs (.slice An nq cn)) :: (TE ++ LE)))
     case atStart => exact ⟨0, none, 0, [], [], by omega, box rfl, rfl, Nat.le_refl _, box VTL.nil, by simpa using hF10⟩
     case round =>
      clear hF10
      obtain ⟨i, AL, cL, zs, LE, hi, hgi, rfl, hic, hTL, hF⟩ := hrel
      have hkk : Box (_ = ne - i) := hgi
      clear hgi
      by_cases hlt : i < ne
      ·obtain ⟨x, hx'⟩ : ∃ x, eds[i]? = some x := ⟨eds[i]'(by rw [← hne.out]; exact hlt), by simp⟩
       have hxm := List.mem_of_getElem? hx'
       have hto := box (fun w' (hb : Below w.heap.size w w') => rtold_any x _ w' ((hEd.out i x hx').on hb) (hsE.out x hxm).2.1)
       have hx := box hx'
       have hxl := box (hEd.out i x hx').len
       obtain ⟨ci, hce⟩ : ∃ ci, ci = (xe.drop (i * 35)).take 35 := ⟨_, rfl⟩
       rw [← hce] at hxl hto
       replace hce := box hce.symm
       clear hx' hxm
       have hreb := hre.out
       go_upto_region 9 with (first | (with_reducible refine lsx (wp_fld hF (i := 6) rfl uq38 rfl (by with_unfolding_all exact ⟨_, rfl, rfl⟩) (docL_eg hcl.out) ?_)))
       have hFd := hF.drew
       clear hF
       refine wp_region_held (S := fun w' => w'.heap[g1]? = some (.cells (List.toArray (docL m ty cf (.slice Ae ne ce) sj hs (.slice An nq cn))) 40 (0, 0)) ∧ Rd w' (· < w.heap.size) Ae 35 ne xe) (by kernel_rfl) ?_
       change wpAnyH _ _ _ _ _ _ _ _ (World.drew _)
       refine tkp 0 ⟨hFd.blk (i := 6) rfl, hreb.below hFd.below⟩ ?_
       (try simp only [zP, zQ, zS, zZ, zN])
       refine tkp 2 ⟨hFd.blk (i := 6) rfl, hreb.below hFd.below⟩ ?_
       (try simp only [zP, zQ, zS, zZ, zN])
       refine tky 3 (y := yi_fld (by with_unfolding_all rfl) (fun _ h => h.1) uq38 rfl (by with_unfolding_all exact ⟨_, rfl, rfl⟩) (docL_eg hcl.out)) (s := ⟨hFd.blk (i := 6) rfl, hreb.below hFd.below⟩) (h := ?_)
       (try simp only [zP, zQ, zS, zZ, zN])
       refine tkp 4 ⟨hFd.blk (i := 6) rfl, hreb.below hFd.below⟩ ?_
       (try simp only [zP, zQ, zS, zZ, zN])
       refine tky 5 (y := yi_ix (by with_unfolding_all rfl) T_rdesc17 (fun h => hreb.some_ h) (k := i) (by with_unfolding_all exact ⟨_, _, _, _, rfl, rfl, rfl⟩) rfl (by omega)) (s := ⟨hFd.blk (i := 6) rfl, hreb.below hFd.below⟩) (h := ?_)
       (try simp only [zP, zQ, zS, zZ, zN])
       refine tky 6 (y := yi_ldA (by with_unfolding_all rfl) (j := i * 35) (fun _ h => h.2) uq37 rfl (by with_unfolding_all exact ⟨_, rfl, rfl⟩) (ds := ci) (by rw [hxl.out]; kernel_rfl) (by rw [hxl.out]; exact hce.out)) (s := ⟨hFd.blk (i := 6) rfl, hreb.below hFd.below⟩) (h := ?_)
       (try simp only [zP, zQ, zS, zZ, zN])
       refine wpAnyH_ready (rs := [1, 7]) (by kernel_rfl) (by simp) ?_
       refine AllReadyH.cons (by simp only [List.getElem?_toArray, List.getElem?_cons_zero, List.getElem?_cons_succ]; rfl) (fun K hK => ?_) ?_
       ·refine stp (by with_unfolding_all rfl) (wp_fld hFd (i := 1) rfl uq49 rfl (by with_unfolding_all exact ⟨_, rfl, rfl⟩) rfl ?_)
        refine hK.out _ _ (⟨hFd.blk (i := 6) rfl, hreb.below hFd.below⟩) (fun _ => ?_)
        clear hK K
        (try simp only [zP, zQ, zS, zZ, zN])
        refine rdy1 7 (fun K hK => ?_)
        refine stp (by with_unfolding_all rfl) (wp_call Tryz.func51 rfl (by with_unfolding_all rfl) (by with_unfolding_all rfl) (by with_unfolding_all rfl) (hto.out _ hFd.below) ?_)
        rintro e w31 ⟨cs31, es31, rfl, hvt31, hv31⟩
        refine ⟨_, rfl, ?_⟩
        have hF31 := hFd.joinR hv31
        simp only [List.cons_append] at hF31
        refine hK.out _ _ (⟨hF31.blk (i := 6) rfl, hreb.below hF31.below⟩) (fun _ => ?_)
        clear hK K
        (try simp only [zP, zQ, zS, zZ, zN])
        refine rdy1 8 (fun K hK => ?_)
        refine stp (by with_unfolding_all rfl) (wp_fbs1 T_rvals hF31 (by with_unfolding_all rfl) (ds := cs31) (by with_unfolding_all rfl) hvt31.len (by decide) ?_)
        intro w32 g32 hF32 hz32
        refine hK.out _ _ (⟨hF32.blk (i := 7) rfl, hreb.below hF32.below⟩) (fun _ => ?_)
        clear hK K
        (try simp only [zP, zQ, zS, zZ, zN])
        refine rdy1 9 (fun K hK => ?_)
        refine stp (by with_unfolding_all rfl) (wp_fappG T_rvals hF32 (i := 1) rfl (Nat.le_refl _) (hF32.rdOwn (i := 0) rfl) hvt31.one (by with_unfolding_all exact ⟨_, _, rfl, rfl, rfl⟩) (by unfold maxLen; omega) (by omega) ?_)
        intro v33 w33 hF33 hz33
        (try simp only [zZ, zN] at hF33)
        obtain ⟨A33, c33, rfl, hc33⟩ := hF33.ownParts (i := 1) rfl
        refine hK.out _ _ (⟨hF33.blk (i := 7) rfl, hreb.below hF33.below⟩) (fun _ => ?_)
        clear hK K
        (try simp only [zP, zQ, zS, zZ, zN])
        refine tkp 10 ⟨hF33.blk (i := 7) rfl, hreb.below hF33.below⟩ ?_
        (try simp only [zP, zQ, zS, zZ, zN])
        refine rdy1 11 (fun K hK => ?_)
        refine stp (by with_unfolding_all rfl) (wp_fst hF33 (i := 2) rfl (v := .slice A33 (i + 1) c33) (by with_unfolding_all exact ⟨_, _, rfl, rfl, rfl⟩) (by kernel_rfl) rfl rfl (by rw [vlL_len]; decide) ?_)
        intro w34 hF34 hz34
        (try simp only [zZ, zN] at hF34)
        rw [(vlL_4 (k := 5) (n := 0) (t := ⟨#[]⟩) (a := (.slice none 0 0)) (b := .slice AL i cL))] at hF34
        refine hK.out _ _ (⟨hF34.blk (i := 7) rfl, hreb.below hF34.below⟩) (fun _ => ?_)
        clear hK K
        (try simp only [zP, zQ, zS, zZ, zN])
        refine wpAnyH_done (by kernel_rfl) ?_ _
        go_wp2_with fail
        go_roundg (ne - (i + 1))
        case rel => exact ⟨i + 1, A33, c33, zs ++ cs31, LE ++ es31, by omega, box rfl, by go_num, hc33, box (by rw [take_snoc1 hx.out, List.map_append]; exact hTL.out.snoc hvt31), by have h := hF34.tail; simpa using h⟩
        case measure => have := hkk.out; omega
       refine AllReadyH.cons (by simp only [List.getElem?_toArray, List.getElem?_cons_zero, List.getElem?_cons_succ]; rfl) (fun K hK => ?_) ?_
       ·refine stp (by with_unfolding_all rfl) (wp_call Tryz.func51 rfl (by with_unfolding_all rfl) (by with_unfolding_all rfl) (by with_unfolding_all rfl) (hto.out _ hFd.below) ?_)
        rintro e w31 ⟨cs31, es31, rfl, hvt31, hv31⟩
        refine ⟨_, rfl, ?_⟩
        have hF31 := hFd.joinR hv31
        simp only [List.cons_append] at hF31
        refine hK.out _ _ (⟨hF31.blk (i := 6) rfl, hreb.below hF31.below⟩) (fun _ => ?_)
        clear hK K
        (try simp only [zP, zQ, zS, zZ, zN])
        refine wpAnyH_ready (rs := [1, 8]) (by kernel_rfl) (by simp) ?_
        refine AllReadyH.cons (by simp only [List.getElem?_toArray, List.getElem?_cons_zero, List.getElem?_cons_succ]; rfl) (fun K hK => ?_) ?_
        ·refine stp (by with_unfolding_all rfl) (wp_fld hF31 (i := 1) rfl uq49 rfl (by with_unfolding_all exact ⟨_, rfl, rfl⟩) rfl ?_)
         refine hK.out _ _ (⟨hF31.blk (i := 6) rfl, hreb.below hF31.below⟩) (fun _ => ?_)
         clear hK K
         (try simp only [zP, zQ, zS, zZ, zN])
         refine rdy1 8 (fun K hK => ?_)
         refine stp (by with_unfolding_all rfl) (wp_fbs1 T_rvals hF31 (by with_unfolding_all rfl) (ds := cs31) (by with_unfolding_all rfl) hvt31.len (by decide) ?_)
         intro w32 g32 hF32 hz32
         refine hK.out _ _ (⟨hF32.blk (i := 7) rfl, hreb.below hF32.below⟩) (fun _ => ?_)
         clear hK K
         (try simp only [zP, zQ, zS, zZ, zN])
         refine rdy1 9 (fun K hK => ?_)
         refine stp (by with_unfolding_all rfl) (wp_fappG T_rvals hF32 (i := 1) rfl (Nat.le_refl _) (hF32.rdOwn (i := 0) rfl) hvt31.one (by with_unfolding_all exact ⟨_, _, rfl, rfl, rfl⟩) (by unfold maxLen; omega) (by omega) ?_)
         intro v33 w33 hF33 hz33
         (try simp only [zZ, zN] at hF33)
         obtain ⟨A33, c33, rfl, hc33⟩ := hF33.ownParts (i := 1) rfl
         refine hK.out _ _ (⟨hF33.blk (i := 7) rfl, hreb.below hF33.below⟩) (fun _ => ?_)
         clear hK K
         (try simp only [zP, zQ, zS, zZ, zN])
         refine tkp 10 ⟨hF33.blk (i := 7) rfl, hreb.below hF33.below⟩ ?_
         (try simp only [zP, zQ, zS, zZ, zN])
         refine rdy1 11 (fun K hK => ?_)
         refine stp (by with_unfolding_all rfl) (wp_fst hF33 (i := 2) rfl (v := .slice A33 (i + 1) c33) (by with_unfolding_all exact ⟨_, _, rfl, rfl, rfl⟩) (by kernel_rfl) rfl rfl (by rw [vlL_len]; decide) ?_)
         intro w34 hF34 hz34
         (try simp only [zZ, zN] at hF34)
         rw [(vlL_4 (k := 5) (n := 0) (t := ⟨#[]⟩) (a := (.slice none 0 0)) (b := .slice AL i cL))] at hF34
         refine hK.out _ _ (⟨hF34.blk (i := 7) rfl, hreb.below hF34.below⟩) (fun _ => ?_)
         clear hK K
         (try simp only [zP, zQ, zS, zZ, zN])
         refine wpAnyH_done (by kernel_rfl) ?_ _
         go_wp2_with fail
         go_roundg (ne - (i + 1))
         case rel => exact ⟨i + 1, A33, c33, zs ++ cs31, LE ++ es31, by omega, box rfl, by go_num, hc33, box (by rw [take_snoc1 hx.out, List.map_append]; exact hTL.out.snoc hvt31), by have h := hF34.tail; simpa using h⟩
         case measure => have := hkk.out; omega
        refine AllReadyH.cons (by simp only [List.getElem?_toArray, List.getElem?_cons_zero, List.getElem?_cons_succ]; rfl) (fun K hK => ?_) ?_
        ·refine stp (by with_unfolding_all rfl) (wp_fbs1 T_rvals hF31 (by with_unfolding_all rfl) (ds := cs31) (by with_unfolding_all rfl) hvt31.len (by decide) ?_)
         intro w32 g32 hF32 hz32
         refine hK.out _ _ (⟨hF32.blk (i := 7) rfl, hreb.below hF32.below⟩) (fun _ => ?_)
         clear hK K
         (try simp only [zP, zQ, zS, zZ, zN])
         refine rdy1 1 (fun K hK => ?_)
         refine stp (by with_unfolding_all rfl) (wp_fld hF32 (i := 2) rfl uq49 rfl (by with_unfolding_all exact ⟨_, rfl, rfl⟩) rfl ?_)
         refine hK.out _ _ (⟨hF32.blk (i := 7) rfl, hreb.below hF32.below⟩) (fun _ => ?_)
         clear hK K
         (try simp only [zP, zQ, zS, zZ, zN])
         refine rdy1 9 (fun K hK => ?_)
         refine stp (by with_unfolding_all rfl) (wp_fappG T_rvals hF32 (i := 1) rfl (Nat.le_refl _) (hF32.rdOwn (i := 0) rfl) hvt31.one (by with_unfolding_all exact ⟨_, _, rfl, rfl, rfl⟩) (by unfold maxLen; omega) (by omega) ?_)
         intro v33 w33 hF33 hz33
         (try simp only [zZ, zN] at hF33)
         obtain ⟨A33, c33, rfl, hc33⟩ := hF33.ownParts (i := 1) rfl
         refine hK.out _ _ (⟨hF33.blk (i := 7) rfl, hreb.below hF33.below⟩) (fun _ => ?_)
         clear hK K
         (try simp only [zP, zQ, zS, zZ, zN])
         refine tkp 10 ⟨hF33.blk (i := 7) rfl, hreb.below hF33.below⟩ ?_
         (try simp only [zP, zQ, zS, zZ, zN])
         refine rdy1 11 (fun K hK => ?_)
         refine stp (by with_unfolding_all rfl) (wp_fst hF33 (i := 2) rfl (v := .slice A33 (i + 1) c33) (by with_unfolding_all exact ⟨_, _, rfl, rfl, rfl⟩) (by kernel_rfl) rfl rfl (by rw [vlL_len]; decide) ?_)
         intro w34 hF34 hz34
         (try simp only [zZ, zN] at hF34)
         rw [(vlL_4 (k := 5) (n := 0) (t := ⟨#[]⟩) (a := (.slice none 0 0)) (b := .slice AL i cL))] at hF34
         refine hK.out _ _ (⟨hF34.blk (i := 7) rfl, hreb.below hF34.below⟩) (fun _ => ?_)
         clear hK K
         (try simp only [zP, zQ, zS, zZ, zN])
         refine wpAnyH_done (by kernel_rfl) ?_ _
         go_wp2_with fail
         go_roundg (ne - (i + 1))
         case rel => exact ⟨i + 1, A33, c33, zs ++ cs31, LE ++ es31, by omega, box rfl, by go_num, hc33, box (by rw [take_snoc1 hx.out, List.map_append]; exact hTL.out.snoc hvt31), by have h := hF34.tail; simpa using h⟩
         case measure => have := hkk.out; omega
        exact AllReadyH.nil
       exact AllReadyH.nil
      ·obtain rfl : ne = i := by omega
       have htk : eds.take ne = eds := by rw [hne.out]; exact List.take_length
       rw [htk] at hTL
       clear htk
       go_wp2_with (first | (with_reducible refine lsx (wp_fld hF (i := 6) rfl uq38 rfl (by with_unfolding_all exact ⟨_, rfl, rfl⟩) (docL_eg hcl.out) ?_)))
       go_meet
       exact ⟨AL, cL, zs, LE, hic, hTL.out, hF⟩
    case rest =>
     obtain ⟨AL, cL, zs, LE, hic, hTL', hF⟩ := hcut
     have hTL := box hTL'
     clear hTL' hF10
     go_step
     go_step
     (try simp only [zP, zQ, zS, zZ, zN])
     go_cut [] (fun wx => Mid w g1 g2 g6 5 (docL m ty cf (.slice Ae ne ce) sj hs (.slice An nq cn)) (([(kVersion, jN 2), (kMedia, jT m)] ++ tType ty) ++ tMain D) wx)
     case first =>
      have hG := ((hF.toRd (i := 0) rfl).pushNone 1).perm (es' := .own w.heap.size 9 1 (.slice A nn c) nn ((([(kVersion, jN 2), (kMedia, jT m)] ++ tType ty).map (fun x => x.1)).map strv) :: .own w.heap.size 51 5 (.slice B nn d) nn ys :: .blk g6 51 (vlL 6 0 ⟨#[]⟩ (.slice A nn c) (.slice B nn d)) :: .blk g2 51 vl0 :: .blk g1 40 (docL m ty cf (.slice Ae ne ce) sj hs (.slice An nq cn)) :: .blk g8 51 (vlL 5 0 ⟨#[]⟩ (.slice none 0 0) (.slice AL ne cL)) :: (TE ++ (.rd none 1 0 [] :: .rd AL 5 ne zs :: LE))) (by
       simp only [List.set_cons_zero]
       exact lperm _ _ _ _ _ _ _ _ _ _)
      have hVL : VT (jL (eds.map tDesc)) (vlL 5 0 ⟨#[]⟩ (.slice none 0 0) (.slice AL ne cL)) (.rd none 1 0 [] :: .rd AL 5 ne zs :: LE) := VT.mk_ (ns := []) (t := []) (Nat.le_refl _) hic hTL.out
      clear hF
      by_cases hi : m = sImage
      ·skip
       have e1 : (m == [97, 112, 112, 108, 105, 99, 97, 116, 105, 111, 110, 47, 118, 110, 100, 46, 111, 99, 105, 46, 105, 109, 97, 103, 101, 46, 109, 97, 110, 105, 102, 101, 115, 116, 46, 118, 49, 43, 106, 115, 111, 110]) = true := by rw [beq_iff_eq]; exact hi
       have hmn : Box (tMain D = [(kConfig, tDesc D.config), (kLayers, jL (eds.map tDesc))]) := box (by unfold tMain; rw [hDm.out, if_pos hi, hDe.out])
       replace hi := box hi
       go_upto_region 11 with (first | (with_reducible refine lsx (wp_fld4 hG uq9 rfl (by with_unfolding_all exact ⟨_, rfl, rfl⟩) docL_m0 ?_)))
       have hFd := hG.drew
       clear hG
       refine wp_region_held (S := fun w' => w'.heap[g1]? = some (.cells (List.toArray (docL m ty cf (.slice Ae ne ce) sj hs (.slice An nq cn))) 40 (0, 0))) (by kernel_rfl) ?_
       change wpAnyH _ _ _ _ _ _ _ _ (World.drew _)
       refine tkp 1 (hFd.blk (i := 4) rfl) ?_
       (try simp only [zP, zQ, zS, zZ, zN])
       refine tky 2 (y := yi_fldA (by with_unfolding_all rfl) (fun _ h => h) uq37 rfl (by with_unfolding_all exact ⟨_, rfl, rfl⟩) (ds := cf) (by rw [hcl.out]; kernel_rfl) (by rw [hcl.out]; exact docL_cf hcl.out)) (s := (hFd.blk (i := 4) rfl)) (h := ?_)
       (try simp only [zP, zQ, zS, zZ, zN])
       refine wpAnyH_ready (rs := [0, 3]) (by kernel_rfl) (by simp) ?_
       refine AllReadyH.cons (by simp only [List.getElem?_toArray, List.getElem?_cons_zero]; rfl) (fun K hK => ?_) ?_
       ·refine stp (by with_unfolding_all rfl) (wp_fldA hFd (i := 2) rfl uq51 rfl (by with_unfolding_all exact ⟨_, rfl, rfl⟩) (ds := (vlL 6 0 ⟨#[]⟩ (.slice A nn c) (.slice B nn d))) (by rw [vlL_len]; kernel_rfl) (take_all _) ?_)
        refine hK.out _ _ ((hFd.blk (i := 4) rfl)) (fun _ => ?_)
        clear hK K
        (try simp only [zP, zQ, zS, zZ, zN])
        refine rdy1 3 (fun K hK => ?_)
        refine stp (by with_unfolding_all rfl) (wp_call Tryz.func51 rfl (by with_unfolding_all rfl) (by with_unfolding_all rfl) (by with_unfolding_all rfl) (hcf.out _ hFd.below) ?_)
        rintro e w31 ⟨cs31, es31, rfl, hvt31, hv31⟩
        refine ⟨_, rfl, ?_⟩
        have hF31 := hFd.joinR hv31
        simp only [List.cons_append] at hF31
        refine hK.out _ _ ((hF31.blk (i := 4) rfl)) (fun _ => ?_)
        clear hK K
        (try simp only [zP, zQ, zS, zZ, zN])
        refine rdy1 4 (fun K hK => ?_)
        refine stp (by with_unfolding_all rfl) (wp_call Tryz.func49 rfl (by with_unfolding_all rfl) (by with_unfolding_all rfl) (by with_unfolding_all rfl) (rput_any kConfig cs31 hF31 (by omega) (by omega) hvt31.len hvt31.one) ?_)
        rintro e w32 ⟨A32, c32, B32, d32, hc32, hd32, rfl, hF32⟩
        refine ⟨_, rfl, ?_⟩
        refine hK.out _ _ ((hF32.blk (i := 4) rfl)) (fun _ => ?_)
        clear hK K
        (try simp only [zP, zQ, zS, zZ, zN])
        refine rdy1 5 (fun K hK => ?_)
        refine stp (by with_unfolding_all rfl) (wp_fstA hF32 (i := 2) rfl (ds := (vlL 6 0 ⟨#[]⟩ (.slice A32 (nn + 1) c32) (.slice B32 (nn + 1) d32))) (by with_unfolding_all exact ⟨_, _, rfl, rfl, rfl⟩) (by rw [vlL_len]; kernel_rfl) vlL_one vlL_fit ?_)
        intro w33 hF33 hz33
        (try simp only [zZ, zN] at hF33)
        rw [(vlL_spl (k' := 6) : spl _ 0 (vlL 6 0 ⟨#[]⟩ (.slice A32 (nn + 1) c32) (.slice B32 (nn + 1) d32)) = (vlL 6 0 ⟨#[]⟩ (.slice A32 (nn + 1) c32) (.slice B32 (nn + 1) d32)))] at hF33
        refine hK.out _ _ ((hF33.blk (i := 4) rfl)) (fun _ => ?_)
        clear hK K
        (try simp only [zP, zQ, zS, zZ, zN])
        refine wpAnyH_done (by kernel_rfl) ?_ _
        have hVT31 := box hvt31
        clear hvt31
        go_wp2_with (first | (with_reducible refine lsx (wp_fldA2 hF33 uq51 rfl (by with_unfolding_all exact ⟨_, rfl, rfl⟩) (ds := (vlL 6 0 ⟨#[]⟩ (.slice A32 (nn + 1) c32) (.slice B32 (nn + 1) d32))) (by rw [vlL_len]; kernel_rfl) (take_all _) ?_)) | (with_reducible refine lsx (wp_fldA5 hF33 uq51 rfl (by with_unfolding_all exact ⟨_, rfl, rfl⟩) (ds := (vlL 5 0 ⟨#[]⟩ (.slice none 0 0) (.slice AL ne cL))) (by rw [vlL_len]; kernel_rfl) (take_all _) ?_)))
        refine (rput_any kLayers (vlL 5 0 ⟨#[]⟩ (.slice none 0 0) (.slice AL ne cL)) hF33 (by omega) (by omega) rfl vlL_one).mono ?_
        rintro e w60 ⟨A60, c60, B60, d60, hc60, hd60, rfl, hF60⟩
        go_wp2_with (first | ((with_reducible refine lsx (wp_fstA2 hF60 (by with_unfolding_all exact ⟨_, _, rfl, rfl, rfl⟩) (by rw [vlL_len]; kernel_rfl) vlL_one vlL_fit vlL_spl ?_)); intro w61 hF61 hz61))
        go_meet
        rw [hmn.out]
        have hH := (hF61.sub (List.Sublist.cons_cons _ (List.Sublist.cons_cons _ (List.Sublist.cons_cons _ (List.Sublist.cons_cons _ (List.Sublist.cons_cons _ (List.Sublist.cons _ (List.Sublist.refl _)))))))).perm (List.Perm.cons _ (List.Perm.cons _ (List.Perm.cons _ (List.Perm.cons _ (List.Perm.cons _ (permTail TE (.rd none 1 0 [] :: .rd AL 5 ne zs :: LE) es31))))))
        have em : (([(kVersion, jN 2), (kMedia, jT m)] ++ tType ty) ++ [(kConfig, tDesc D.config)]).map (fun x : List UInt8 × JV => x.1) = ([(kVersion, jN 2), (kMedia, jT m)] ++ tType ty).map (fun x => x.1) ++ [kConfig] := by rw [List.map_append]; rfl
        have hM := Mid.put (b := 5) (ms := ([(kVersion, jN 2), (kMedia, jT m)] ++ tType ty) ++ [(kConfig, tDesc D.config)]) (s := kLayers) (v := jL (eds.map tDesc)) (nn := nn + 1) (by rw [List.length_append, hnn.out]; rfl) (by omega) hc60 hd60 (by rw [List.map_append]; exact hT.out.snoc hVT31.out) hVL (by rw [em]; exact hH)
        rw [List.append_assoc] at hM
        exact hM
       refine AllReadyH.cons (by simp only [List.getElem?_toArray, List.getElem?_cons_zero, List.getElem?_cons_succ]; rfl) (fun K hK => ?_) ?_
       ·refine stp (by with_unfolding_all rfl) (wp_call Tryz.func51 rfl (by with_unfolding_all rfl) (by with_unfolding_all rfl) (by with_unfolding_all rfl) (hcf.out _ hFd.below) ?_)
        rintro e w31 ⟨cs31, es31, rfl, hvt31, hv31⟩
        refine ⟨_, rfl, ?_⟩
        have hF31 := hFd.joinR hv31
        simp only [List.cons_append] at hF31
        refine hK.out _ _ ((hF31.blk (i := 4) rfl)) (fun _ => ?_)
        clear hK K
        (try simp only [zP, zQ, zS, zZ, zN])
        refine rdy1 0 (fun K hK => ?_)
        refine stp (by with_unfolding_all rfl) (wp_fldA hF31 (i := 2) rfl uq51 rfl (by with_unfolding_all exact ⟨_, rfl, rfl⟩) (ds := (vlL 6 0 ⟨#[]⟩ (.slice A nn c) (.slice B nn d))) (by rw [vlL_len]; kernel_rfl) (take_all _) ?_)
        refine hK.out _ _ ((hF31.blk (i := 4) rfl)) (fun _ => ?_)
        clear hK K
        (try simp only [zP, zQ, zS, zZ, zN])
        refine rdy1 4 (fun K hK => ?_)
        refine stp (by with_unfolding_all rfl) (wp_call Tryz.func49 rfl (by with_unfolding_all rfl) (by with_unfolding_all rfl) (by with_unfolding_all rfl) (rput_any kConfig cs31 hF31 (by omega) (by omega) hvt31.len hvt31.one) ?_)
        rintro e w32 ⟨A32, c32, B32, d32, hc32, hd32, rfl, hF32⟩
        refine ⟨_, rfl, ?_⟩
        refine hK.out _ _ ((hF32.blk (i := 4) rfl)) (fun _ => ?_)
        clear hK K
        (try simp only [zP, zQ, zS, zZ, zN])
        refine rdy1 5 (fun K hK => ?_)
        refine stp (by with_unfolding_all rfl) (wp_fstA hF32 (i := 2) rfl (ds := (vlL 6 0 ⟨#[]⟩ (.slice A32 (nn + 1) c32) (.slice B32 (nn + 1) d32))) (by with_unfolding_all exact ⟨_, _, rfl, rfl, rfl⟩) (by rw [vlL_len]; kernel_rfl) vlL_one vlL_fit ?_)
        intro w33 hF33 hz33
        (try simp only [zZ, zN] at hF33)
        rw [(vlL_spl (k' := 6) : spl _ 0 (vlL 6 0 ⟨#[]⟩ (.slice A32 (nn + 1) c32) (.slice B32 (nn + 1) d32)) = (vlL 6 0 ⟨#[]⟩ (.slice A32 (nn + 1) c32) (.slice B32 (nn + 1) d32)))] at hF33
        refine hK.out _ _ ((hF33.blk (i := 4) rfl)) (fun _ => ?_)
        clear hK K
        (try simp only [zP, zQ, zS, zZ, zN])
        refine wpAnyH_done (by kernel_rfl) ?_ _
        have hVT31 := box hvt31
        clear hvt31
        go_wp2_with (first | (with_reducible refine lsx (wp_fldA2 hF33 uq51 rfl (by with_unfolding_all exact ⟨_, rfl, rfl⟩) (ds := (vlL 6 0 ⟨#[]⟩ (.slice A32 (nn + 1) c32) (.slice B32 (nn + 1) d32))) (by rw [vlL_len]; kernel_rfl) (take_all _) ?_)) | (with_reducible refine lsx (wp_fldA5 hF33 uq51 rfl (by with_unfolding_all exact ⟨_, rfl, rfl⟩) (ds := (vlL 5 0 ⟨#[]⟩ (.slice none 0 0) (.slice AL ne cL))) (by rw [vlL_len]; kernel_rfl) (take_all _) ?_)))
        refine (rput_any kLayers (vlL 5 0 ⟨#[]⟩ (.slice none 0 0) (.slice AL ne cL)) hF33 (by omega) (by omega) rfl vlL_one).mono ?_
        rintro e w60 ⟨A60, c60, B60, d60, hc60, hd60, rfl, hF60⟩
        go_wp2_with (first | ((with_reducible refine lsx (wp_fstA2 hF60 (by with_unfolding_all exact ⟨_, _, rfl, rfl, rfl⟩) (by rw [vlL_len]; kernel_rfl) vlL_one vlL_fit vlL_spl ?_)); intro w61 hF61 hz61))
        go_meet
        rw [hmn.out]
        have hH := (hF61.sub (List.Sublist.cons_cons _ (List.Sublist.cons_cons _ (List.Sublist.cons_cons _ (List.Sublist.cons_cons _ (List.Sublist.cons_cons _ (List.Sublist.cons _ (List.Sublist.refl _)))))))).perm (List.Perm.cons _ (List.Perm.cons _ (List.Perm.cons _ (List.Perm.cons _ (List.Perm.cons _ (permTail TE (.rd none 1 0 [] :: .rd AL 5 ne zs :: LE) es31))))))
        have em : (([(kVersion, jN 2), (kMedia, jT m)] ++ tType ty) ++ [(kConfig, tDesc D.config)]).map (fun x : List UInt8 × JV => x.1) = ([(kVersion, jN 2), (kMedia, jT m)] ++ tType ty).map (fun x => x.1) ++ [kConfig] := by rw [List.map_append]; rfl
        have hM := Mid.put (b := 5) (ms := ([(kVersion, jN 2), (kMedia, jT m)] ++ tType ty) ++ [(kConfig, tDesc D.config)]) (s := kLayers) (v := jL (eds.map tDesc)) (nn := nn + 1) (by rw [List.length_append, hnn.out]; rfl) (by omega) hc60 hd60 (by rw [List.map_append]; exact hT.out.snoc hVT31.out) hVL (by rw [em]; exact hH)
        rw [List.append_assoc] at hM
        exact hM
       exact AllReadyH.nil
      ·skip
       have e1 : (m == [97, 112, 112, 108, 105, 99, 97, 116, 105, 111, 110, 47, 118, 110, 100, 46, 111, 99, 105, 46, 105, 109, 97, 103, 101, 46, 109, 97, 110, 105, 102, 101, 115, 116, 46, 118, 49, 43, 106, 115, 111, 110]) = false := by rw [beq_eq_false_iff_ne]; exact hi
       have hmn : Box (tMain D = [(kManifests, jL (eds.map tDesc))]) := box (by unfold tMain; rw [hDm.out, if_neg hi, hDe.out])
       replace hi := box hi
       go_wp2_with (first | (with_reducible refine lsx (wp_fld4 hG uq9 rfl (by with_unfolding_all exact ⟨_, rfl, rfl⟩) docL_m0 ?_)) | (with_reducible refine lsx (wp_fldA2 hG uq51 rfl (by with_unfolding_all exact ⟨_, rfl, rfl⟩) (ds := (vlL 6 0 ⟨#[]⟩ (.slice A nn c) (.slice B nn d))) (by rw [vlL_len]; kernel_rfl) (take_all _) ?_)) | (with_reducible refine lsx (wp_fldA5 hG uq51 rfl (by with_unfolding_all exact ⟨_, rfl, rfl⟩) (ds := (vlL 5 0 ⟨#[]⟩ (.slice none 0 0) (.slice AL ne cL))) (by rw [vlL_len]; kernel_rfl) (take_all _) ?_)))
       refine (rput_any kManifests (vlL 5 0 ⟨#[]⟩ (.slice none 0 0) (.slice AL ne cL)) hG (by omega) (by omega) rfl vlL_one).mono ?_
       rintro e w60 ⟨A60, c60, B60, d60, hc60, hd60, rfl, hF60⟩
       go_wp2_with (first | ((with_reducible refine lsx (wp_fstA2 hF60 (by with_unfolding_all exact ⟨_, _, rfl, rfl, rfl⟩) (by rw [vlL_len]; kernel_rfl) vlL_one vlL_fit vlL_spl ?_)); intro w61 hF61 hz61))
       go_meet
       rw [hmn.out]
       exact Mid.put hnn.out (by omega) hc60 hd60 hT.out hVL (hF61.sub (List.Sublist.cons_cons _ (List.Sublist.cons_cons _ (List.Sublist.cons_cons _ (List.Sublist.cons_cons _ (List.Sublist.cons_cons _ (List.Sublist.cons _ (List.Sublist.refl _))))))))
     case rest =>
      clear hF hT hnn hTL
      obtain ⟨nn, A, c, B, d, ys, TE, hnn', hnb, hcc, hdd, hT', hF⟩ := hcut
      have hnn := box hnn'
      have hT := box hT'
      clear hnn' hT'
      go_step
      go_step
      (try simp only [zP, zQ, zS, zZ, zN])
      go_cut [] (fun wx => Mid w g1 g2 g6 6 (docL m ty cf (.slice Ae ne ce) sj hs (.slice An nq cn)) ((([(kVersion, jN 2), (kMedia, jT m)] ++ tType ty) ++ tMain D) ++ tSubj D) wx)
      case first =>
       cases hs with
       | false =>
        have hsb : Box (tSubj D = []) := box (if_neg (by rw [hDh.out]; decide))
        go_wp2_with (first | (with_reducible refine lsx (wp_fld4 hF uq4 rfl (by with_unfolding_all exact ⟨_, rfl, rfl⟩) (docL_has hcl.out hsl.out) ?_)))
        go_meet
        rw [hsb.out, List.append_nil]
        exact ⟨nn, A, c, B, d, ys, TE, hnn.out, by omega, hcc, hdd, hT.out, hF⟩
       | true =>
        have hsb : Box (tSubj D = [(kSubject, tDesc D.subject)]) := box (if_pos hDh.out)
        go_upto_region 15 with (first | (with_reducible refine lsx (wp_fld4 hF uq4 rfl (by with_unfolding_all exact ⟨_, rfl, rfl⟩) (docL_has hcl.out hsl.out) ?_)))
        have hFd := hF.drew
        clear hF
        refine wp_region_held (S := fun w' => w'.heap[g1]? = some (.cells (List.toArray (docL m ty cf (.slice Ae ne ce) sj true (.slice An nq cn))) 40 (0, 0))) (by kernel_rfl) ?_
        change wpAnyH _ _ _ _ _ _ _ _ (World.drew _)
        refine tkp 1 (hFd.blk (i := 4) rfl) ?_
        (try simp only [zP, zQ, zS, zZ, zN])
        refine tky 2 (y := yi_fldA (by with_unfolding_all rfl) (fun _ h => h) uq37 rfl (by with_unfolding_all exact ⟨_, rfl, rfl⟩) (ds := sj) (by rw [hsl.out]; kernel_rfl) (by rw [hsl.out]; exact docL_sj hcl.out hsl.out)) (s := (hFd.blk (i := 4) rfl)) (h := ?_)
        (try simp only [zP, zQ, zS, zZ, zN])
        refine wpAnyH_ready (rs := [0, 3]) (by kernel_rfl) (by simp) ?_
        refine AllReadyH.cons (by simp only [List.getElem?_toArray, List.getElem?_cons_zero]; rfl) (fun K hK => ?_) ?_
        ·refine stp (by with_unfolding_all rfl) (wp_fldA hFd (i := 2) rfl uq51 rfl (by with_unfolding_all exact ⟨_, rfl, rfl⟩) (ds := (vlL 6 0 ⟨#[]⟩ (.slice A nn c) (.slice B nn d))) (by rw [vlL_len]; kernel_rfl) (take_all _) ?_)
         refine hK.out _ _ ((hFd.blk (i := 4) rfl)) (fun _ => ?_)
         clear hK K
         (try simp only [zP, zQ, zS, zZ, zN])
         refine rdy1 3 (fun K hK => ?_)
         refine stp (by with_unfolding_all rfl) (wp_call Tryz.func51 rfl (by with_unfolding_all rfl) (by with_unfolding_all rfl) (by with_unfolding_all rfl) (hsu.out _ hFd.below) ?_)
         rintro e w31 ⟨cs31, es31, rfl, hvt31, hv31⟩
         refine ⟨_, rfl, ?_⟩
         have hF31 := hFd.joinR hv31
         simp only [List.cons_append] at hF31
         refine hK.out _ _ ((hF31.blk (i := 4) rfl)) (fun _ => ?_)
         clear hK K
         (try simp only [zP, zQ, zS, zZ, zN])
         refine rdy1 4 (fun K hK => ?_)
         refine stp (by with_unfolding_all rfl) (wp_call Tryz.func49 rfl (by with_unfolding_all rfl) (by with_unfolding_all rfl) (by with_unfolding_all rfl) (rput_any kSubject cs31 hF31 (by omega) (by omega) hvt31.len hvt31.one) ?_)
         rintro e w32 ⟨A32, c32, B32, d32, hc32, hd32, rfl, hF32⟩
         refine ⟨_, rfl, ?_⟩
         refine hK.out _ _ ((hF32.blk (i := 4) rfl)) (fun _ => ?_)
         clear hK K
         (try simp only [zP, zQ, zS, zZ, zN])
         refine rdy1 5 (fun K hK => ?_)
         refine stp (by with_unfolding_all rfl) (wp_fstA hF32 (i := 2) rfl (ds := (vlL 6 0 ⟨#[]⟩ (.slice A32 (nn + 1) c32) (.slice B32 (nn + 1) d32))) (by with_unfolding_all exact ⟨_, _, rfl, rfl, rfl⟩) (by rw [vlL_len]; kernel_rfl) vlL_one vlL_fit ?_)
         intro w33 hF33 hz33
         (try simp only [zZ, zN] at hF33)
         rw [(vlL_spl (k' := 6) : spl _ 0 (vlL 6 0 ⟨#[]⟩ (.slice A32 (nn + 1) c32) (.slice B32 (nn + 1) d32)) = (vlL 6 0 ⟨#[]⟩ (.slice A32 (nn + 1) c32) (.slice B32 (nn + 1) d32)))] at hF33
         refine hK.out _ _ ((hF33.blk (i := 4) rfl)) (fun _ => ?_)
         clear hK K
         (try simp only [zP, zQ, zS, zZ, zN])
         refine wpAnyH_done (by kernel_rfl) ?_ _
         go_wp2_with fail
         go_meet
         rw [hsb.out]
         exact Mid.put hnn.out (by omega) hc32 hd32 hT.out hvt31 hF33
        refine AllReadyH.cons (by simp only [List.getElem?_toArray, List.getElem?_cons_zero, List.getElem?_cons_succ]; rfl) (fun K hK => ?_) ?_
        ·refine stp (by with_unfolding_all rfl) (wp_call Tryz.func51 rfl (by with_unfolding_all rfl) (by with_unfolding_all rfl) (by with_unfolding_all rfl) (hsu.out _ hFd.below) ?_)
         rintro e w31 ⟨cs31, es31, rfl, hvt31, hv31⟩
         refine ⟨_, rfl, ?_⟩
         have hF31 := hFd.joinR hv31
         simp only [List.cons_append] at hF31
         refine hK.out _ _ ((hF31.blk (i := 4) rfl)) (fun _ => ?_)
         clear hK K
         (try simp only [zP, zQ, zS, zZ, zN])
         refine rdy1 0 (fun K hK => ?_)
         refine stp (by with_unfolding_all rfl) (wp_fldA hF31 (i := 2) rfl uq51 rfl (by with_unfolding_all exact ⟨_, rfl, rfl⟩) (ds := (vlL 6 0 ⟨#[]⟩ (.slice A nn c) (.slice B nn d))) (by rw [vlL_len]; kernel_rfl) (take_all _) ?_)
         refine hK.out _ _ ((hF31.blk (i := 4) rfl)) (fun _ => ?_)
         clear hK K
         (try simp only [zP, zQ, zS, zZ, zN])
         refine rdy1 4 (fun K hK => ?_)
         refine stp (by with_unfolding_all rfl) (wp_call Tryz.func49 rfl (by with_unfolding_all rfl) (by with_unfolding_all rfl) (by with_unfolding_all rfl) (rput_any kSubject cs31 hF31 (by omega) (by omega) hvt31.len hvt31.one) ?_)
         rintro e w32 ⟨A32, c32, B32, d32, hc32, hd32, rfl, hF32⟩
         refine ⟨_, rfl, ?_⟩
         refine hK.out _ _ ((hF32.blk (i := 4) rfl)) (fun _ => ?_)
         clear hK K
         (try simp only [zP, zQ, zS, zZ, zN])
         refine rdy1 5 (fun K hK => ?_)
         refine stp (by with_unfolding_all rfl) (wp_fstA hF32 (i := 2) rfl (ds := (vlL 6 0 ⟨#[]⟩ (.slice A32 (nn + 1) c32) (.slice B32 (nn + 1) d32))) (by with_unfolding_all exact ⟨_, _, rfl, rfl, rfl⟩) (by rw [vlL_len]; kernel_rfl) vlL_one vlL_fit ?_)
         intro w33 hF33 hz33
         (try simp only [zZ, zN] at hF33)
         rw [(vlL_spl (k' := 6) : spl _ 0 (vlL 6 0 ⟨#[]⟩ (.slice A32 (nn + 1) c32) (.slice B32 (nn + 1) d32)) = (vlL 6 0 ⟨#[]⟩ (.slice A32 (nn + 1) c32) (.slice B32 (nn + 1) d32)))] at hF33
         refine hK.out _ _ ((hF33.blk (i := 4) rfl)) (fun _ => ?_)
         clear hK K
         (try simp only [zP, zQ, zS, zZ, zN])
         refine wpAnyH_done (by kernel_rfl) ?_ _
         go_wp2_with fail
         go_meet
         rw [hsb.out]
         exact Mid.put hnn.out (by omega) hc32 hd32 hT.out hvt31 hF33
        exact AllReadyH.nil
      case rest =>
       clear hF hT hnn
       obtain ⟨nn, A, c, B, d, ys, TE, hnn', hnb, hcc, hdd, hT', hF⟩ := hcut
       have hnn := box hnn'
       have hT := box hT'
       clear hnn' hT'
       go_wp2_with (first | (with_reducible refine lsx (wp_fldA2 hF uq51 rfl (by with_unfolding_all exact ⟨_, rfl, rfl⟩) (ds := (vlL 6 0 ⟨#[]⟩ (.slice A nn c) (.slice B nn d))) (by rw [vlL_len]; kernel_rfl) (take_all _) ?_)) | (with_reducible refine lsx (wp_fld4 hF uq35 rfl (by with_unfolding_all exact ⟨_, rfl, rfl⟩) (docL_nt hcl.out hsl.out) ?_)))
       refine (rwith_any D.notes An nq cn hF (by omega) (by omega) hcc hdd hnq.out hnqb.out hnr.out).mono ?_
       rintro e w70 ⟨A70, c70, B70, d70, zs2, E2, hc70, hd70, rfl, hz, hF70⟩
       go_wp2_with (first | ((with_reducible refine lsx (wp_fstA3 hF70 (by with_unfolding_all exact ⟨_, _, rfl, rfl, rfl⟩) (by rw [vlL_len]; kernel_rfl) vlL_one vlL_fit vlL_spl ?_)); intro w71 hF71 hz71))
       exact bodyPost_ret (results_cellF rfl _ hF71 (i := 3) rfl rfl uq51 rfl (by rw [vlL_len]; kernel_rfl)) rfl (by
        unfold TDesc
        have hG := ((hF71.toRd (i := 0) rfl).toRd (i := 1) rfl)
        simp only [zZ, zN] at hG
        have hG2 := hG.sub (List.Sublist.cons_cons _ (List.Sublist.cons_cons _ (List.Sublist.cons _ (List.Sublist.cons _ (List.Sublist.cons _ (List.Sublist.refl (TE ++ E2)))))))
        refine ⟨_, _, rfl, ?_, hG2⟩
        have e1 : mTell D = .mk 6 0 [] ((((([(kVersion, jN 2), (kMedia, jT m)] ++ tType ty) ++ tMain D) ++ tSubj D) ++ tWith D.notes).map (fun x => x.1)) ((((([(kVersion, jN 2), (kMedia, jT m)] ++ tType ty) ++ tMain D) ++ tSubj D) ++ tWith D.notes).map (fun x => x.2)) := by
         unfold mTell tMems
         rw [hDm.out, hDt.out]
         simp only [List.append_assoc]
         rfl
        have e2 : (((([(kVersion, jN 2), (kMedia, jT m)] ++ tType ty) ++ tMain D) ++ tSubj D) ++ tWith D.notes).map (fun x => x.1) = ((([(kVersion, jN 2), (kMedia, jT m)] ++ tType ty) ++ tMain D) ++ tSubj D).map (fun x => x.1) ++ (tWith D.notes).map (fun x => x.1) := List.map_append
        have e3 : (((([(kVersion, jN 2), (kMedia, jT m)] ++ tType ty) ++ tMain D) ++ tSubj D) ++ tWith D.notes).map (fun x => x.2) = ((([(kVersion, jN 2), (kMedia, jT m)] ++ tType ty) ++ tMain D) ++ tSubj D).map (fun x => x.2) ++ (tWith D.notes).map (fun x => x.2) := List.map_append
        rw [e1, e2, e3]
        exact VT.mk_ (t := []) hc70 hd70 (VTL.app hT.out hz))
end Go.Proofs.YtlhicfpmlncomaaGreatDoor

namespace Go.Proofs.YtlhicfpmlncomaaGreatDoor
open Go.ChangeShapes Go.WideShapes Go.ChangeAt Go.RowKit
def ntW (x : MNote) : Nat := x.key.length + x.val.length + 2
def dsW (d : MDesc) : Nat := d.media.length + (d.notes.map ntW).sum + 2
def dcW (d : MDoc) : Nat := d.media.length + d.type.length + dsW d.config + (d.edges.map dsW).sum + dsW d.subject + (d.notes.map ntW).sum + 2
theorem sum_mem {α : Type} {g : α → Nat} : ∀ {l : List α} {x : α}, x ∈ l → g x ≤ (l.map g).sum
 | [], _, h => by cases h
 | y :: l, x, h => by
  rw [List.map_cons, List.sum_cons]
  rcases List.mem_cons.1 h with rfl | h
  ·omega
  ·have := sum_mem (g := g) h; omega
theorem sum_two {α : Type} {g : α → Nat} (hg : ∀ x, 2 ≤ g x) : ∀ l : List α, 2 * l.length ≤ (l.map g).sum
 | [] => by simp
 | y :: l => by
  have := sum_two hg l
  have := hg y
  rw [List.map_cons, List.sum_cons, List.length_cons]; omega
theorem nt_sm {l : List MNote} (h : (l.map ntW).sum ≤ 1048576) : NtSm l := by
 have h2 := sum_two (g := ntW) (fun x => by unfold ntW; omega) l
 refine ⟨by omega, fun x hx => ?_⟩
 have := sum_mem (g := ntW) hx
 have h3 : ntW x = x.key.length + x.val.length + 2 := rfl
 omega
theorem ds_sm {d : MDesc} (h : dsW d ≤ 1048576) : DsSm d := by
 unfold dsW at h
 exact ⟨by omega, nt_sm (by omega)⟩
theorem dc_sm {d : MDoc} (h : dcW d ≤ 1048576) : DcSm d := by
 unfold dcW at h
 have h2 := sum_two (g := dsW) (fun x => by unfold dsW; omega) d.edges
 refine ⟨by omega, by omega, ds_sm (by omega), ⟨by omega, fun x hx => ?_⟩, ds_sm (by omega), nt_sm (by omega)⟩
 have := sum_mem (g := dsW) hx
 exact ds_sm (by omega)
theorem dc_mb {d : MDoc} (h : dcW d ≤ 1048576) : MB d := by
 have h2 := dc_sm h
 obtain ⟨_, _, h3, ⟨h4, h5⟩, h6, h7⟩ := h2
 exact ⟨by have := h3.2.1; omega, by omega, fun x hx => by have := (h5 x hx).2.1; omega, by have := h6.2.1; omega, by have := h7.1; omega⟩
theorem flat_part {α : Type} {f : α → List Value} {sz : Nat} : ∀ {l : List α}, (∀ u ∈ l, (f u).length = sz) → ∀ {i : Nat} {u : α}, l[i]? = some u → ((l.flatMap f).drop (i * sz)).take sz = f u
 | [], _, i, u, h => by cases h
 | x :: l, hl, i, u, h => by
  have hx := hl x (by simp)
  rw [List.flatMap_cons]
  cases i with
  | zero =>
   injection h with h
   subst h
   rw [Nat.zero_mul, List.drop_zero, List.take_left' hx]
  | succ i =>
   rw [show (i + 1) * sz = (f x).length + i * sz by rw [hx, Nat.add_mul, Nat.one_mul, Nat.add_comm], ← List.drop_drop, List.drop_left]
   exact flat_part (fun u hu => hl u (by simp [hu])) (by simpa using h)
structure NTT (P : Program) (t : TypeId) (fs : Array Field) (f0 f1 : Field) : Prop where
 und : P.underlying t = some (.struct fs)
 size : P.cellsOf t = 2
 at_ : fs = #[f0, f1]
 off : [f0, f1].map (fun f => (f.offset, P.cellsOf f.type)) = [(0, 1), (1, 1)]
 typ : [f0, f1].map (fun f => P.underlying f.type) = [some .string, some .string]
structure DST (P : Program) (t tn ub : TypeId) (fs : Array Field) (f0 f1 f2 f3 : Field) : Prop where
 und : P.underlying t = some (.struct fs)
 size : P.cellsOf t = 35
 at_ : fs = #[f0, f1, f2, f3]
 off : [f0, f1, f2, f3].map (fun f => (f.offset, P.cellsOf f.type)) = [(0, 1), (1, 32), (33, 1), (34, 1)]
 typ : [f0, f1, f2, f3].map (fun f => P.underlying f.type) = [some .string, some (.array 32 ub), some (.int .i64), some (.slice tn)]
 byt : P.underlying ub = some (.int .u8)
 one : P.cellsOf ub = 1
structure DCT (P : Program) (t td tn : TypeId) (fs : Array Field) (f0 f1 f2 f3 f4 f5 f6 : Field) : Prop where
 und : P.underlying t = some (.struct fs)
 size : P.cellsOf t = 75
 at_ : fs = #[f0, f1, f2, f3, f4, f5, f6]
 off : [f0, f1, f2, f3, f4, f5, f6].map (fun f => (f.offset, P.cellsOf f.type)) = [(0, 1), (1, 1), (2, 35), (37, 1), (38, 35), (73, 1), (74, 1)]
 typ : [f0, f1, f3, f5, f6].map (fun f => P.underlying f.type) = [some .string, some .string, some (.slice td), some .bool, some (.slice tn)]
 cfg : f2.type = td ∧ f4.type = td
section
variable {H : Type} {enc : TypeId × Value → H} {P : Program} {W : World} {hd : Bool}
theorem two_xs {xs : List (DataW H × List MemPlace)} (h : xs.length = 2) : ∃ x0 x1, xs = [x0, x1] := by
 match xs, h with
 | [x0, x1], _ => exact ⟨_, _, rfl⟩
theorem four_xs {xs : List (DataW H × List MemPlace)} (h : xs.length = 4) : ∃ x0 x1 x2 x3, xs = [x0, x1, x2, x3] := by
 match xs, h with
 | [x0, x1, x2, x3], _ => exact ⟨_, _, _, _, rfl⟩
theorem seven_xs {xs : List (DataW H × List MemPlace)} (h : xs.length = 7) : ∃ x0 x1 x2 x3 x4 x5 x6, xs = [x0, x1, x2, x3, x4, x5, x6] := by
 match xs, h with
 | [x0, x1, x2, x3, x4, x5, x6], _ => exact ⟨_, _, _, _, _, _, _, rfl⟩
theorem nt_in {t : TypeId} {fs : Array Field} {f0 f1 : Field} (T : NTT P t fs f0 f1) {fuel : Nat} {cs : List Value} {x : DataW H × List MemPlace} (h : DataW.trod enc P W 0 (fun _ => true) hd fuel t cs = some x) :
  ∃ u : MNote, cs = ntL u ∧ ntW u ≤ Rows.uptoBulk x.1 := by
 obtain ⟨xs, n, rfl, hx, hlen, hxl, hg⟩ := DataW.trod_struct T.und h
 rw [T.at_] at hxl
 obtain ⟨x0, x1, rfl⟩ := two_xs hxl
 have ho := T.off
 have ht := T.typ
 simp only [List.map_cons, List.map_nil, List.cons.injEq, Prod.mk.injEq, and_true] at ho ht
 obtain ⟨⟨o0, z0⟩, ⟨o1, z1⟩⟩ := ho
 obtain ⟨u0, u1⟩ := ht
 have g0 := hg 0 f0 (by rw [T.at_]; rfl)
 have g1 := hg 1 f1 (by rw [T.at_]; rfl)
 rw [o0, z0] at g0
 rw [o1, z1] at g1
 obtain ⟨s, e0, b0⟩ := strs_in u0 g0
 obtain ⟨s', e1, b1⟩ := strs_in u1 g1
 rw [T.size] at hlen
 refine ⟨⟨s.data.toList, s'.data.toList⟩, ?_, ?_⟩
 ·rw [show cs = cs.drop 0 from rfl, cut_at cs 0 1, e0, cut_at cs (0 + 1) 1, e1, List.drop_of_length_le (by omega)]
  rfl
 ·rw [hx]
  simp only [List.map_cons, List.map_nil, Rows.uptoBulk, Rows.uptoBulkAll, ntW]
  have h0 : s.data.toList.length = s.size := str_len s
  have h1 : s'.data.toList.length = s'.size := str_len s'
  omega
theorem ds_in {t tn ub : TypeId} {fs fn : Array Field} {f0 f1 f2 f3 n0 n1 : Field} (T : DST P t tn ub fs f0 f1 f2 f3) (N : NTT P tn fn n0 n1) {fuel : Nat} {cs : List Value} {x : DataW H × List MemPlace} (h : DataW.trod enc P W 0 (fun _ => true) hd fuel t cs = some x) :
  ∃ d : MDesc, RdD W d cs ∧ cs.length = 35 ∧ dsW d ≤ Rows.uptoBulk x.1 := by
 obtain ⟨xs, n, rfl, hx, hlen, hxl, hg⟩ := DataW.trod_struct T.und h
 rw [T.at_] at hxl
 obtain ⟨x0, x1, x2, x3, rfl⟩ := four_xs hxl
 have ho := T.off
 have ht := T.typ
 simp only [List.map_cons, List.map_nil, List.cons.injEq, Prod.mk.injEq, and_true] at ho ht
 obtain ⟨⟨o0, z0⟩, ⟨o1, z1⟩, ⟨o2, z2⟩, ⟨o3, z3⟩⟩ := ho
 obtain ⟨u0, u1, u2, u3⟩ := ht
 have g0 := hg 0 f0 (by rw [T.at_]; rfl)
 have g1 := hg 1 f1 (by rw [T.at_]; rfl)
 have g2 := hg 2 f2 (by rw [T.at_]; rfl)
 have g3 := hg 3 f3 (by rw [T.at_]; rfl)
 rw [o0, z0] at g0
 obtain ⟨dg, e1, l1⟩ := arr_in u1 T.byt T.one z1 g1
 rw [o1, z1] at e1
 rw [o2, z2] at g2
 rw [o3, z3] at g3
 obtain ⟨s, e0, b0⟩ := strs_in u0 g0
 obtain ⟨z, e2, w2⟩ := ints_in u2 g2
 obtain ⟨A, nn, cn, l, e3, h1, h2, h3, h4, h5⟩ := slR_in (α := MNote) (f := ntL) (g := ntW) (p := fun _ => True) u3 N.size (by decide) (fun m cs x _ h => by
  obtain ⟨u, hu, hb⟩ := nt_in N h
  exact ⟨u, hu, rfl, trivial, hb⟩) g3
 rw [T.size] at hlen
 refine ⟨⟨s.data.toList, dg, z, l⟩, ⟨.slice A nn cn, l1, ⟨A, nn, cn, h1, h2.symm, rfl, h3⟩, ?_⟩, hlen, ?_⟩
 ·rw [show cs = cs.drop 0 from rfl, cut_at cs 0 1, e0, cut_at cs (0 + 1) 32, e1, cut_at cs (0 + 1 + 32) 1, e2, cut_at cs (0 + 1 + 32 + 1) 1, e3, List.drop_of_length_le (by omega)]
  simp [dsL, strv]
 ·rw [hx]
  simp only [List.map_cons, List.map_nil, Rows.uptoBulk, Rows.uptoBulkAll, dsW]
  have h0 : s.data.toList.length = s.size := str_len s
  omega
theorem dc_in {t td tn ub : TypeId} {fs fd fn : Array Field} {f0 f1 f2 f3 f4 f5 f6 d0 d1 d2 d3 n0 n1 : Field} (T : DCT P t td tn fs f0 f1 f2 f3 f4 f5 f6) (D : DST P td tn ub fd d0 d1 d2 d3) (N : NTT P tn fn n0 n1) {fuel : Nat} {cs : List Value} {x : DataW H × List MemPlace} (h : DataW.trod enc P W 0 (fun _ => true) hd fuel t cs = some x) :
  ∃ d : MDoc, RdDoc W d cs ∧ dcW d ≤ Rows.uptoBulk x.1 := by
 obtain ⟨xs, n, rfl, hx, hlen, hxl, hg⟩ := DataW.trod_struct T.und h
 rw [T.at_] at hxl
 obtain ⟨x0, x1, x2, x3, x4, x5, x6, rfl⟩ := seven_xs hxl
 have ho := T.off
 have ht := T.typ
 simp only [List.map_cons, List.map_nil, List.cons.injEq, Prod.mk.injEq, and_true] at ho ht
 obtain ⟨⟨o0, z0⟩, ⟨o1, z1⟩, ⟨o2, z2⟩, ⟨o3, z3⟩, ⟨o4, z4⟩, ⟨o5, z5⟩, ⟨o6, z6⟩⟩ := ho
 obtain ⟨u0, u1, u3, u5, u6⟩ := ht
 obtain ⟨t2, t4⟩ := T.cfg
 have g0 := hg 0 f0 (by rw [T.at_]; rfl)
 have g1 := hg 1 f1 (by rw [T.at_]; rfl)
 have g2 := hg 2 f2 (by rw [T.at_]; rfl)
 have g3 := hg 3 f3 (by rw [T.at_]; rfl)
 have g4 := hg 4 f4 (by rw [T.at_]; rfl)
 have g5 := hg 5 f5 (by rw [T.at_]; rfl)
 have g6 := hg 6 f6 (by rw [T.at_]; rfl)
 rw [o0, z0] at g0
 rw [o1, z1] at g1
 rw [o2, z2, t2] at g2
 rw [o3, z3] at g3
 rw [o4, z4, t4] at g4
 rw [o5, z5] at g5
 rw [o6, z6] at g6
 obtain ⟨s0, e0, b0⟩ := strs_in u0 g0
 obtain ⟨s1, e1, b1⟩ := strs_in u1 g1
 obtain ⟨c2, r2, l2, w2⟩ := ds_in D N g2
 obtain ⟨c4, r4, l4, w4⟩ := ds_in D N g4
 obtain ⟨b, e5⟩ := bools_in u5 g5
 obtain ⟨Ae, ne, ce, le, e3, h1, h2, h3, h4, h5⟩ := slR_in (α := MDesc × List Value) (f := (·.2)) (g := fun u => dsW u.1) (p := fun u => RdD W u.1 u.2) u3 D.size (by decide) (fun m cs x _ h => by
  obtain ⟨d, hr, hl, hw⟩ := ds_in D N h
  exact ⟨(d, cs), rfl, hl, hr, hw⟩) g3
 obtain ⟨An, nn, cn, ln, e6, k1, k2, k3, k4, k5⟩ := slR_in (α := MNote) (f := ntL) (g := ntW) (p := fun _ => True) u6 N.size (by decide) (fun m cs x _ h => by
  obtain ⟨u, hu, hb⟩ := nt_in N h
  exact ⟨u, hu, rfl, trivial, hb⟩) g6
 rw [T.size] at hlen
 refine ⟨⟨s0.data.toList, s1.data.toList, c2, le.map (·.1), c4, b, ln⟩, ⟨(cs.drop 2).take 35, .slice Ae ne ce, (cs.drop 38).take 35, .slice An nn cn, r2, ⟨Ae, ne, ce, _, h1, by rw [List.length_map, h2], rfl, h3, fun i d hi => ?_⟩, r4, ⟨An, nn, cn, k1, k2.symm, rfl, k3⟩, ?_⟩, ?_⟩
 ·rw [List.getElem?_map] at hi
  cases hu : le[i]? with
  | none => rw [hu] at hi; cases hi
  | some u =>
   rw [hu] at hi
   injection hi with hi
   subst hi
   rw [flat_part (fun u hu => (h4 u hu).1) hu]
   exact (h4 u (List.mem_of_getElem? hu)).2
 ·have e : cs = ((cs.drop 0).take 1) ++ (((cs.drop 1).take 1) ++ (((cs.drop 2).take 35) ++ (((cs.drop 37).take 1) ++ (((cs.drop 38).take 35) ++ (((cs.drop 73).take 1) ++ ((cs.drop 74).take 1)))))) := by
   have q : (cs.drop 74).take 1 = cs.drop 74 := by rw [List.take_of_length_le (by rw [List.length_drop]; omega)]
   rw [q, ← cut_at cs 73 1, ← cut_at cs 38 35, ← cut_at cs 37 1, ← cut_at cs 2 35, ← cut_at cs 1 1, ← cut_at cs 0 1]
   rfl
  rw [e0, e1, e3, e5, e6] at e
  simpa [docL, strv] using e
 ·rw [hx]
  simp only [List.map_cons, List.map_nil, Rows.uptoBulk, Rows.uptoBulkAll, dcW]
  have h0 : s0.data.toList.length = s0.size := str_len s0
  have h1' : s1.data.toList.length = s1.size := str_len s1
  have h6 : (le.map (fun u => dsW u.1)).sum = ((le.map (·.1)).map dsW).sum := by rw [List.map_map]; rfl
  omega
theorem mdoc_in {t td tn ub : TypeId} {fs fd fn : Array Field} {f0 f1 f2 f3 f4 f5 f6 d0 d1 d2 d3 n0 n1 : Field} (T : DCT P t td tn fs f0 f1 f2 f3 f4 f5 f6) (D : DST P td tn ub fd d0 d1 d2 d3) (N : NTT P tn fn n0 n1) {r : Reach} {b0 : Nat} {v : Value} {d : DataW H} {ps : List MemPlace} (hv : Value.okWide P W r b0 t v) (h : DataW.Trod enc P W 0 (fun _ => true) hd t v d ps) :
  ∃ (q : MDoc) (cs : List Value), v = .agg cs.toArray ∧ RdDoc W q cs ∧ dcW q ≤ Rows.uptoBulk d := by
 obtain ⟨cs, rfl, hsz⟩ := okWide_struct T.und hv
 obtain ⟨fuel, hf⟩ := h
 obtain ⟨q, h1, h2⟩ := dc_in T D N (cs := cs.toList) (x := (d, ps)) hf
 exact ⟨q, cs.toList, by simp, h1, h2⟩
end
end Go.Proofs.YtlhicfpmlncomaaGreatDoor
