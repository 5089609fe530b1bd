/-
 Layer 8: the document's Tell, walked.
 A slice literal of one reckoned byte. No program is named here.
 Layer 6: the document's Decimal, walked.
-/
import Derived.Test.YtlhicfpmlncomaaGreatDoorF15
import Derived.Test.YtlhicfpmlncomaaGreatDoorF02
import Derived.Test.YtlhicfpmlncomaaGreatDoorF14
import Derived.Test.YtlhicfpmlncomaaGreatDoorF07
import Derived.Test.YtlhicfpmlncomaaGreatDoorF00
set_option linter.unusedSimpArgs false
set_option linter.unusedVariables false
namespace Go.Proofs.YtlhicfpmlncomaaGreatDoor
open Go.RowKit
theorem permTail {α : Type} (a b c : List α) : ((a ++ b) ++ c).Perm ((a ++ c) ++ b) := by
 rw [List.append_assoc, List.append_assoc]
 exact List.Perm.append_left _ List.perm_append_comm
theorem lperm {α : Type} (z a l n k o g2 g1 : α) (te le : List α) : (z :: a :: l :: n :: k :: o :: g2 :: g1 :: (te ++ le)).Perm (n :: k :: o :: g2 :: g1 :: l :: (te ++ (z :: a :: le))) := by
 have e1 : (z :: a :: l :: n :: k :: o :: g2 :: g1 :: (te ++ le)) = [z, a] ++ (([l] ++ [n, k, o, g2, g1]) ++ (te ++ le)) := rfl
 have e2 : (n :: k :: o :: g2 :: g1 :: l :: (te ++ (z :: a :: le))) = ([n, k, o, g2, g1] ++ [l]) ++ (te ++ ([z, a] ++ le)) := by simp
 rw [e1, e2]
 refine List.Perm.trans (List.perm_append_comm_assoc _ _ _) ?_
 exact List.Perm.append List.perm_append_comm (List.perm_append_comm_assoc _ _ _)
def Mid (w : World) (g1 g2 go b : Nat) (doc : List Value) (ms : List (List UInt8 × JV)) (wx : World) : Prop :=
 ∃ (nn : Nat) (A : Option Addr) (c : Nat) (B : Option Addr) (d : Nat) (ys : List Value) (TE : List Ent), nn = ms.length ∧ nn ≤ b ∧ nn ≤ c ∧ nn ≤ d ∧ VTL (ms.map (fun x => x.2)) ys TE ∧
  Fr [] w wx (.own w.heap.size 9 1 (.slice A nn c) nn ((ms.map (fun x => x.1)).map strv) :: .own w.heap.size 51 5 (.slice B nn d) nn ys :: .blk go 51 (vlL 6 0 ⟨#[]⟩ (.slice A nn c) (.slice B nn d)) :: .blk g2 51 vl0 :: .blk g1 40 doc :: TE)
theorem Mid.put {w : World} {g1 g2 go b nn : Nat} {doc : List Value} {ms : List (List UInt8 × JV)} {wx : World} {A B : Option Addr} {c d : Nat} {ys cs : List Value} {TE es : List Ent} {s : List UInt8} {v : JV} (hnn : nn = ms.length) (hb : nn + 1 ≤ b) (hc : nn + 1 ≤ c) (hd : nn + 1 ≤ d) (hT : VTL (ms.map (fun x => x.2)) ys TE) (hv : VT v cs es)
  (hF : Fr [] w wx (.own w.heap.size 9 1 (.slice A (nn + 1) c) (nn + 1) ((ms.map (fun x => x.1) ++ [s]).map strv) :: .own w.heap.size 51 5 (.slice B (nn + 1) d) (nn + 1) (ys ++ cs) :: .blk go 51 (vlL 6 0 ⟨#[]⟩ (.slice A (nn + 1) c) (.slice B (nn + 1) d)) :: .blk g2 51 vl0 :: .blk g1 40 doc :: (TE ++ es))) :
  Mid w g1 g2 go b doc (ms ++ [(s, v)]) wx := by
 refine ⟨nn + 1, A, c, B, d, ys ++ cs, TE ++ es, by rw [List.length_append, hnn]; rfl, hb, hc, hd, ?_, ?_⟩
 ·rw [List.map_append]; exact hT.snoc hv
 ·rw [List.map_append]; exact hF
theorem Fr.lfE {X : List Nat} {w0 w : World} {es : List Ent} (h : Fr X w0 w es) : Fr X w0 w (es ++ tLf) := ((h.pushNone 5).pushNone 1).perm (List.perm_append_comm (l₁ := tLf))
def TTell (w : World) (D : MDoc) (e : Ending) (w' : World) : Prop := ∃ (A : Option Addr) (n c : Nat) (B : Option Addr) (m d : Nat) (ys : List Value) (TE : List Ent), e = .returned (.agg (vlL 6 0 ⟨#[]⟩ (.slice A n c) (.slice B m d)).toArray) ∧ (n = (tMems D).length ∧ m = (tMems D).length) ∧ n ≤ c ∧ m ≤ d ∧ VTL ((tMems D).map (fun x => x.2)) ys TE ∧
 Fr [] w w' (.own w.heap.size 9 1 (.slice A n c) n (((tMems D).map (fun x => x.1)).map strv) :: .own w.heap.size 51 5 (.slice B m d) m ys :: TE)
set_option maxRecDepth 20000 in
set_option maxHeartbeats 25600000 in
theorem rtellO_any (D : MDoc) (cs : List Value) (w : World) (hDD : RdDoc w D cs) (hsm : DcSm D) :
  Calls Tryz.prog 21 #[.agg cs.toArray] w (TTell w D) := by
 obtain ⟨cf, eg, sj, nt, hC0, ⟨Ae, ne, ce, xe, hnce, hne', rfl, hre0, hEd0⟩, hS0, ⟨An, nq, cn, hnn0, hnq', rfl, hrn0⟩, rfl⟩ := hDD
 obtain ⟨hsm1, hsm2, hsC', ⟨hsE0, hsE'⟩, hsS', hsN⟩ := hsm
 have hcl := box hC0.len
 have hsl := box hS0.len
 have hre := box hre0
 have hcf := box (fun w' (hb : Below w.heap.size w w') => rtold_any D.config cf w' (hC0.on hb) hsC'.2.1)
 have hsu := box (fun w' (hb : Below w.heap.size w w') => rtold_any D.subject sj w' (hS0.on hb) hsS'.2.1)
 obtain ⟨eds, hDe'⟩ : ∃ eds, D.edges = eds := ⟨_, rfl⟩
 rw [hDe'] at hne' hEd0 hsE' hsE0
 have hne6 : ne ≤ 1000000 := by omega
 have hDe := box hDe'
 have hEd := box hEd0
 have hne := box hne'
 have hsE := box hsE'
 have hnq := box hnq'
 have hnqb := box (show nq ≤ 1000000 by rw [hnq']; exact hsN.1)
 have hnr := box hrn0
 obtain ⟨m, hDm'⟩ : ∃ m, D.media = m := ⟨_, rfl⟩
 obtain ⟨ty, hDt'⟩ : ∃ ty, D.type = ty := ⟨_, rfl⟩
 obtain ⟨hs, hDh'⟩ : ∃ hs, D.has = hs := ⟨_, rfl⟩
 rw [hDm', hDt', hDh']
 have hDm := box hDm'
 have hDt := box hDt'
 have hDh := box hDh'
 clear hC0 hS0 hre0 hEd0 hne' hsC' hsS' hsE' hrn0 hnq' hsN hDe' hDm' hDt' hDh' hsm1 hsm2 hsE0
 have hF0 := Fr.nil w
 go_enter Tryz.func21, Tryz.ntmps21
 go_wp2_with (first | ((with_reducible refine lsx (wp_fbox hF0 (cs := (docL m ty cf (.slice Ae ne ce) sj hs (.slice An nq cn))) rfl (by with_unfolding_all rfl) (by with_unfolding_all rfl) ?_)); intro w1 g1 hF1 hz1) | ((with_reducible refine lsx (wp_falloc hF1 (cs := vl0) (z := .agg (List.toArray (vl0))) rfl (by kernel_rfl) (by with_unfolding_all rfl) ?_)); intro w2 g2 hF2 hz2) | (with_reducible refine lsx (wp_fbuild uq51 (z := .agg (List.toArray vl0)) (by kernel_rfl) (pl := vlP) (by kernel_rfl) (cs := vl0) rfl (vs := []) (by with_unfolding_all rfl) (by with_unfolding_all rfl) ?_)) | (with_reducible refine lsx (wp_fbuild uq51 (z := .agg (List.toArray vl0)) (by kernel_rfl) (pl := vlP) (by kernel_rfl) (cs := (vlL 3 2 ⟨#[]⟩ (.slice none 0 0) (.slice none 0 0))) rfl (vs := [(0, .int .i64 3), (1, .int .i64 2)]) (by with_unfolding_all rfl) (by with_unfolding_all rfl) ?_)))
 have hF4 := (hF2.none_ w.heap.size 51 5).none_ w.heap.size 9 1
 clear hF0 hF1 hF2
 refine (rput_any (ns := []) kVersion (vlL 3 2 ⟨#[]⟩ (.slice none 0 0) (.slice none 0 0)) hF4 (by omega) (by omega) rfl vlL_one).mono ?_
 rintro e w5 ⟨A5, c5, B5, d5, hc5, hd5, rfl, hF5⟩
 clear hF4
 go_upto_region 2 with (first | ((with_reducible refine lsx (wp_falloc hF5 (cs := vl0) (z := .agg (List.toArray (vl0))) rfl (by kernel_rfl) (by with_unfolding_all rfl) ?_)); intro w6 g6 hF6 hz6) | ((with_reducible refine lsx (wp_fstA0 hF6 (by with_unfolding_all exact ⟨_, _, rfl, rfl, rfl⟩) (by rw [vlL_len]; kernel_rfl) vlL_one vlL_fit vlL_spl ?_)); intro w7 hF7 hz7))
 have hF8 := (hF7.perm (perm12 _ _ _ _)).lfE
 clear hF5 hF6 hF7
 have hT : Box (VTL ([(kVersion, jN 2)].map (fun x => x.2)) ([] ++ (vlL 3 2 ⟨#[]⟩ (.slice none 0 0) (.slice none 0 0))) ([] ++ tLf)) := box (VTL.snoc (v := jN 2) VTL.nil VT.leaf)
 (try simp only [zP, zQ, zS, zZ, zN])
 go_cut [] (fun wx => Mid w g1 g2 g6 2 (docL m ty cf (.slice Ae ne ce) sj hs (.slice An nq cn)) [(kVersion, jN 2), (kMedia, jT m)] wx)
 case first =>
  have hFd := hF8.drew
  clear hF8
  refine wp_region_held (S := fun w' => w'.heap[g1]? = some (.cells (List.toArray (docL m ty cf (.slice Ae ne ce) sj hs (.slice An nq cn))) 40 (0, 0))) (by kernel_rfl) ?_
  change wpAnyH _ _ _ _ _ _ _ _ (World.drew _)
  refine tkp 1 (hFd.blk (i := 4) rfl) ?_
  (try simp only [zP, zQ, zS, zZ, zN])
  refine tky 2 (y := yi_fld (by with_unfolding_all rfl) (fun _ h => h) uq9 rfl (by with_unfolding_all exact ⟨_, rfl, rfl⟩) docL_m0) (s := (hFd.blk (i := 4) rfl)) (h := ?_)
  (try simp only [zP, zQ, zS, zZ, zN])
  refine wpAnyH_ready (rs := [0, 3]) (by kernel_rfl) (by simp) ?_
  refine AllReadyH.cons (by simp only [List.getElem?_toArray, List.getElem?_cons_zero]; rfl) (fun K hK => ?_) ?_
  ·refine stp (by with_unfolding_all rfl) (wp_fldA hFd (i := 2) rfl uq51 rfl (by with_unfolding_all exact ⟨_, rfl, rfl⟩) (ds := (vlL 6 0 ⟨#[]⟩ (.slice A5 (0 + 1) c5) (.slice B5 (0 + 1) d5))) (by rw [vlL_len]; kernel_rfl) (take_all _) ?_)
   refine hK.out _ _ ((hFd.blk (i := 4) rfl)) (fun _ => ?_)
   clear hK K
   (try simp only [zP, zQ, zS, zZ, zN])
   refine rdy1 3 (fun K hK => ?_)
   refine stp (by with_unfolding_all rfl) (wp_call Tryz.func50 rfl (by with_unfolding_all rfl) (by with_unfolding_all rfl) (by with_unfolding_all rfl) (rtext_any m _) ?_)
   rintro e w31 ⟨rfl, hb31⟩
   refine ⟨_, rfl, ?_⟩
   have hF31 := hFd.call hb31
   refine hK.out _ _ ((hF31.blk (i := 4) rfl)) (fun _ => ?_)
   clear hK K
   (try simp only [zP, zQ, zS, zZ, zN])
   refine rdy1 4 (fun K hK => ?_)
   refine stp (by with_unfolding_all rfl) (wp_call Tryz.func49 rfl (by with_unfolding_all rfl) (by with_unfolding_all rfl) (by with_unfolding_all rfl) (rput_any kMedia (vlL 4 0 ⟨(m).toArray⟩ (.slice none 0 0) (.slice none 0 0)) hF31 (by omega) (by omega) rfl vlL_one) ?_)
   rintro e w32 ⟨A32, c32, B32, d32, hc32, hd32, rfl, hF32⟩
   refine ⟨_, rfl, ?_⟩
   refine hK.out _ _ ((hF32.blk (i := 4) rfl)) (fun _ => ?_)
   clear hK K
   (try simp only [zP, zQ, zS, zZ, zN])
   refine rdy1 5 (fun K hK => ?_)
   refine stp (by with_unfolding_all rfl) (wp_fstA hF32 (i := 2) rfl (ds := (vlL 6 0 ⟨#[]⟩ (.slice A32 (0 + 1 + 1) c32) (.slice B32 (0 + 1 + 1) d32))) (by with_unfolding_all exact ⟨_, _, rfl, rfl, rfl⟩) (by rw [vlL_len]; kernel_rfl) vlL_one vlL_fit ?_)
   intro w33 hF33 hz33
   (try simp only [zZ, zN] at hF33)
   rw [(vlL_spl (k' := 6) : spl _ 0 (vlL 6 0 ⟨#[]⟩ (.slice A32 (0 + 1 + 1) c32) (.slice B32 (0 + 1 + 1) d32)) = (vlL 6 0 ⟨#[]⟩ (.slice A32 (0 + 1 + 1) c32) (.slice B32 (0 + 1 + 1) d32)))] at hF33
   refine hK.out _ _ ((hF33.blk (i := 4) rfl)) (fun _ => ?_)
   clear hK K
   (try simp only [zP, zQ, zS, zZ, zN])
   refine wpAnyH_done (by kernel_rfl) ?_ _
   go_wp2_with fail
   go_meet
   exact Mid.put (nn := 0 + 1) (ms := [(kVersion, jN 2)]) (s := kMedia) (v := jT m) rfl (by omega) hc32 hd32 hT.out VT.leaf (hF33.lfE)
  refine AllReadyH.cons (by simp only [List.getElem?_toArray, List.getElem?_cons_zero, List.getElem?_cons_succ]; rfl) (fun K hK => ?_) ?_
  ·refine stp (by with_unfolding_all rfl) (wp_call Tryz.func50 rfl (by with_unfolding_all rfl) (by with_unfolding_all rfl) (by with_unfolding_all rfl) (rtext_any m _) ?_)
   rintro e w31 ⟨rfl, hb31⟩
   refine ⟨_, rfl, ?_⟩
   have hF31 := hFd.call hb31
   refine hK.out _ _ ((hF31.blk (i := 4) rfl)) (fun _ => ?_)
   clear hK K
   (try simp only [zP, zQ, zS, zZ, zN])
   refine rdy1 0 (fun K hK => ?_)
   refine stp (by with_unfolding_all rfl) (wp_fldA hF31 (i := 2) rfl uq51 rfl (by with_unfolding_all exact ⟨_, rfl, rfl⟩) (ds := (vlL 6 0 ⟨#[]⟩ (.slice A5 (0 + 1) c5) (.slice B5 (0 + 1) d5))) (by rw [vlL_len]; kernel_rfl) (take_all _) ?_)
   refine hK.out _ _ ((hF31.blk (i := 4) rfl)) (fun _ => ?_)
   clear hK K
   (try simp only [zP, zQ, zS, zZ, zN])
   refine rdy1 4 (fun K hK => ?_)
   refine stp (by with_unfolding_all rfl) (wp_call Tryz.func49 rfl (by with_unfolding_all rfl) (by with_unfolding_all rfl) (by with_unfolding_all rfl) (rput_any kMedia (vlL 4 0 ⟨(m).toArray⟩ (.slice none 0 0) (.slice none 0 0)) hF31 (by omega) (by omega) rfl vlL_one) ?_)
   rintro e w32 ⟨A32, c32, B32, d32, hc32, hd32, rfl, hF32⟩
   refine ⟨_, rfl, ?_⟩
   refine hK.out _ _ ((hF32.blk (i := 4) rfl)) (fun _ => ?_)
   clear hK K
   (try simp only [zP, zQ, zS, zZ, zN])
   refine rdy1 5 (fun K hK => ?_)
   refine stp (by with_unfolding_all rfl) (wp_fstA hF32 (i := 2) rfl (ds := (vlL 6 0 ⟨#[]⟩ (.slice A32 (0 + 1 + 1) c32) (.slice B32 (0 + 1 + 1) d32))) (by with_unfolding_all exact ⟨_, _, rfl, rfl, rfl⟩) (by rw [vlL_len]; kernel_rfl) vlL_one vlL_fit ?_)
   intro w33 hF33 hz33
   (try simp only [zZ, zN] at hF33)
   rw [(vlL_spl (k' := 6) : spl _ 0 (vlL 6 0 ⟨#[]⟩ (.slice A32 (0 + 1 + 1) c32) (.slice B32 (0 + 1 + 1) d32)) = (vlL 6 0 ⟨#[]⟩ (.slice A32 (0 + 1 + 1) c32) (.slice B32 (0 + 1 + 1) d32)))] at hF33
   refine hK.out _ _ ((hF33.blk (i := 4) rfl)) (fun _ => ?_)
   clear hK K
   (try simp only [zP, zQ, zS, zZ, zN])
   refine wpAnyH_done (by kernel_rfl) ?_ _
   go_wp2_with fail
   go_meet
   exact Mid.put (nn := 0 + 1) (ms := [(kVersion, jN 2)]) (s := kMedia) (v := jT m) rfl (by omega) hc32 hd32 hT.out VT.leaf (hF33.lfE)
  exact AllReadyH.nil
 case rest =>
  clear hF8 hT
  obtain ⟨nn, A, c, B, d, ys, TE, hnn', hnb, hcc, hdd, hT', hF⟩ := hcut
  have hnn := box hnn'
  have hT := box hT'
  clear hnn' hT'
  go_step
  go_step
  (try simp only [zP, zQ, zS, zZ, zN])
  go_cut [] (fun wx => Mid w g1 g2 g6 3 (docL m ty cf (.slice Ae ne ce) sj hs (.slice An nq cn)) ([(kVersion, jN 2), (kMedia, jT m)] ++ tType ty) wx)
  case first =>
   by_cases ht : ty = []
   ·have t1 : (ty == []) = true := by rw [beq_iff_eq]; exact ht
    have t2 : (ty != []) = false := by rw [bne, t1]; rfl
    have hty : Box (tType ty = []) := box (if_pos ht)
    replace ht := box ht
    go_wp2_with (first | (with_reducible refine lsx (wp_fld4 hF uq9 rfl (by with_unfolding_all exact ⟨_, rfl, rfl⟩) docL_t0 ?_)))
    go_meet
    rw [hty.out, List.append_nil]
    exact ⟨nn, A, c, B, d, ys, TE, hnn.out, by omega, hcc, hdd, hT.out, hF⟩
   ·have t1 : (ty == []) = false := by rw [beq_eq_false_iff_ne]; exact ht
    have t2 : (ty != []) = true := by rw [bne, t1]; rfl
    have hty : Box (tType ty = [(kType, jT ty)]) := box (if_neg ht)
    replace ht := box ht
    go_upto_region 4 with (first | (with_reducible refine lsx (wp_fld4 hF uq9 rfl (by with_unfolding_all exact ⟨_, rfl, rfl⟩) docL_t0 ?_)))
    have hFd := hF.drew
    clear hF
    refine wp_region_held (S := fun w' => w'.heap[g1]? = some (.cells (List.toArray (docL m ty cf (.slice Ae ne ce) sj hs (.slice An nq cn))) 40 (0, 0))) (by kernel_rfl) ?_
    change wpAnyH _ _ _ _ _ _ _ _ (World.drew _)
    refine tkp 1 (hFd.blk (i := 4) rfl) ?_
    (try simp only [zP, zQ, zS, zZ, zN])
    refine tky 2 (y := yi_fld (by with_unfolding_all rfl) (fun _ h => h) uq9 rfl (by with_unfolding_all exact ⟨_, rfl, rfl⟩) docL_t0) (s := (hFd.blk (i := 4) rfl)) (h := ?_)
    (try simp only [zP, zQ, zS, zZ, zN])
    refine wpAnyH_ready (rs := [0, 3]) (by kernel_rfl) (by simp) ?_
    refine AllReadyH.cons (by simp only [List.getElem?_toArray, List.getElem?_cons_zero]; rfl) (fun K hK => ?_) ?_
    ·refine stp (by with_unfolding_all rfl) (wp_fldA hFd (i := 2) rfl uq51 rfl (by with_unfolding_all exact ⟨_, rfl, rfl⟩) (ds := (vlL 6 0 ⟨#[]⟩ (.slice A nn c) (.slice B nn d))) (by rw [vlL_len]; kernel_rfl) (take_all _) ?_)
     refine hK.out _ _ ((hFd.blk (i := 4) rfl)) (fun _ => ?_)
     clear hK K
     (try simp only [zP, zQ, zS, zZ, zN])
     refine rdy1 3 (fun K hK => ?_)
     refine stp (by with_unfolding_all rfl) (wp_call Tryz.func50 rfl (by with_unfolding_all rfl) (by with_unfolding_all rfl) (by with_unfolding_all rfl) (rtext_any ty _) ?_)
     rintro e w31 ⟨rfl, hb31⟩
     refine ⟨_, rfl, ?_⟩
     have hF31 := hFd.call hb31
     refine hK.out _ _ ((hF31.blk (i := 4) rfl)) (fun _ => ?_)
     clear hK K
     (try simp only [zP, zQ, zS, zZ, zN])
     refine rdy1 4 (fun K hK => ?_)
     refine stp (by with_unfolding_all rfl) (wp_call Tryz.func49 rfl (by with_unfolding_all rfl) (by with_unfolding_all rfl) (by with_unfolding_all rfl) (rput_any kType (vlL 4 0 ⟨(ty).toArray⟩ (.slice none 0 0) (.slice none 0 0)) hF31 (by omega) (by omega) rfl vlL_one) ?_)
     rintro e w32 ⟨A32, c32, B32, d32, hc32, hd32, rfl, hF32⟩
     refine ⟨_, rfl, ?_⟩
     refine hK.out _ _ ((hF32.blk (i := 4) rfl)) (fun _ => ?_)
     clear hK K
     (try simp only [zP, zQ, zS, zZ, zN])
     refine rdy1 5 (fun K hK => ?_)
     refine stp (by with_unfolding_all rfl) (wp_fstA hF32 (i := 2) rfl (ds := (vlL 6 0 ⟨#[]⟩ (.slice A32 (nn + 1) c32) (.slice B32 (nn + 1) d32))) (by with_unfolding_all exact ⟨_, _, rfl, rfl, rfl⟩) (by rw [vlL_len]; kernel_rfl) vlL_one vlL_fit ?_)
     intro w33 hF33 hz33
     (try simp only [zZ, zN] at hF33)
     rw [(vlL_spl (k' := 6) : spl _ 0 (vlL 6 0 ⟨#[]⟩ (.slice A32 (nn + 1) c32) (.slice B32 (nn + 1) d32)) = (vlL 6 0 ⟨#[]⟩ (.slice A32 (nn + 1) c32) (.slice B32 (nn + 1) d32)))] at hF33
     refine hK.out _ _ ((hF33.blk (i := 4) rfl)) (fun _ => ?_)
     clear hK K
     (try simp only [zP, zQ, zS, zZ, zN])
     refine wpAnyH_done (by kernel_rfl) ?_ _
     go_wp2_with fail
     go_meet
     rw [hty.out]
     exact Mid.put hnn.out (by omega) hc32 hd32 hT.out VT.leaf (hF33.lfE)
    refine AllReadyH.cons (by simp only [List.getElem?_toArray, List.getElem?_cons_zero, List.getElem?_cons_succ]; rfl) (fun K hK => ?_) ?_
    ·refine stp (by with_unfolding_all rfl) (wp_call Tryz.func50 rfl (by with_unfolding_all rfl) (by with_unfolding_all rfl) (by with_unfolding_all rfl) (rtext_any ty _) ?_)
     rintro e w31 ⟨rfl, hb31⟩
     refine ⟨_, rfl, ?_⟩
     have hF31 := hFd.call hb31
     refine hK.out _ _ ((hF31.blk (i := 4) rfl)) (fun _ => ?_)
     clear hK K
     (try simp only [zP, zQ, zS, zZ, zN])
     refine rdy1 0 (fun K hK => ?_)
     refine stp (by with_unfolding_all rfl) (wp_fldA hF31 (i := 2) rfl uq51 rfl (by with_unfolding_all exact ⟨_, rfl, rfl⟩) (ds := (vlL 6 0 ⟨#[]⟩ (.slice A nn c) (.slice B nn d))) (by rw [vlL_len]; kernel_rfl) (take_all _) ?_)
     refine hK.out _ _ ((hF31.blk (i := 4) rfl)) (fun _ => ?_)
     clear hK K
     (try simp only [zP, zQ, zS, zZ, zN])
     refine rdy1 4 (fun K hK => ?_)
     refine stp (by with_unfolding_all rfl) (wp_call Tryz.func49 rfl (by with_unfolding_all rfl) (by with_unfolding_all rfl) (by with_unfolding_all rfl) (rput_any kType (vlL 4 0 ⟨(ty).toArray⟩ (.slice none 0 0) (.slice none 0 0)) hF31 (by omega) (by omega) rfl vlL_one) ?_)
     rintro e w32 ⟨A32, c32, B32, d32, hc32, hd32, rfl, hF32⟩
     refine ⟨_, rfl, ?_⟩
     refine hK.out _ _ ((hF32.blk (i := 4) rfl)) (fun _ => ?_)
     clear hK K
     (try simp only [zP, zQ, zS, zZ, zN])
     refine rdy1 5 (fun K hK => ?_)
     refine stp (by with_unfolding_all rfl) (wp_fstA hF32 (i := 2) rfl (ds := (vlL 6 0 ⟨#[]⟩ (.slice A32 (nn + 1) c32) (.slice B32 (nn + 1) d32))) (by with_unfolding_all exact ⟨_, _, rfl, rfl, rfl⟩) (by rw [vlL_len]; kernel_rfl) vlL_one vlL_fit ?_)
     intro w33 hF33 hz33
     (try simp only [zZ, zN] at hF33)
     rw [(vlL_spl (k' := 6) : spl _ 0 (vlL 6 0 ⟨#[]⟩ (.slice A32 (nn + 1) c32) (.slice B32 (nn + 1) d32)) = (vlL 6 0 ⟨#[]⟩ (.slice A32 (nn + 1) c32) (.slice B32 (nn + 1) d32)))] at hF33
     refine hK.out _ _ ((hF33.blk (i := 4) rfl)) (fun _ => ?_)
     clear hK K
     (try simp only [zP, zQ, zS, zZ, zN])
     refine wpAnyH_done (by kernel_rfl) ?_ _
     go_wp2_with fail
     go_meet
     rw [hty.out]
     exact Mid.put hnn.out (by omega) hc32 hd32 hT.out VT.leaf (hF33.lfE)
    exact AllReadyH.nil
  case rest =>
   clear hF hT hnn
   obtain ⟨nn, A, c, B, d, ys, TE, hnn', hnb, hcc, hdd, hT', hF⟩ := hcut
   have hnn := box hnn'
   have hT := box hT'
   clear hnn' hT'
   go_step
   go_step
   (try simp only [zP, zQ, zS, zZ, zN])
   go_cut [4] (fun u4 wx => ∃ g8, u4 = .pointer (some ⟨g8, 0, none⟩) ∧ Fr [] w wx (.own w.heap.size 51 5 (.slice none 0 0) 0 [] :: .blk g8 51 (vlL 5 0 ⟨#[]⟩ (.slice none 0 0) (.slice none 0 0)) :: .own w.heap.size 9 1 (.slice A nn c) nn ((([(kVersion, jN 2), (kMedia, jT m)] ++ tType ty).map (fun x => x.1)).map strv) :: .own w.heap.size 51 5 (.slice B nn d) nn ys :: .blk g6 51 (vlL 6 0 ⟨#[]⟩ (.slice A nn c) (.slice B nn d)) :: .blk g2 51 vl0 :: .blk g1 40 (docL m ty cf (.slice Ae ne ce) sj hs (.slice An nq cn)) :: TE))
   case first =>
    go_wp2_with (first | (with_reducible refine lsx (wp_fbuild uq51 (z := .agg (List.toArray vl0)) (by kernel_rfl) (pl := vlP) (by kernel_rfl) (cs := (vlL 5 0 ⟨#[]⟩ (.slice none 0 0) (.slice none 0 0))) rfl (vs := [(0, .int .i64 5)]) (by with_unfolding_all rfl) (by with_unfolding_all rfl) ?_)) | ((with_reducible refine lsx (wp_falloc hF (cs := vl0) (z := .agg (List.toArray (vl0))) rfl (by kernel_rfl) (by with_unfolding_all rfl) ?_)); intro w8 g8 hF8 hz8) | ((with_reducible refine lsx (wp_fstA0 hF8 (by with_unfolding_all exact ⟨_, _, rfl, rfl, rfl⟩) (by rw [vlL_len]; kernel_rfl) vlL_one vlL_fit vlL_spl ?_)); intro w9 hF9 hz9))
    go_meet
    exact ⟨g8, rfl, hF9.none_ w.heap.size 51 5⟩
   case rest =>
    obtain ⟨g8, rfl, hF10⟩ := hcut
    clear hF
    go_step
    go_step
    (try simp only [zP, zQ, zS, zZ, zN])
    go_cut [] (fun wx => ∃ (AL : Option Addr) (cL : Nat) (zs : List Value) (LE : List Ent), ne ≤ cL ∧ VTL (eds.map tDesc) zs LE ∧ Fr [] w wx (.own w.heap.size 51 5 (.slice AL ne cL) ne zs :: .blk g8 51 (vlL 5 0 ⟨#[]⟩ (.slice none 0 0) (.slice AL ne cL)) :: .own w.heap.size 9 1 (.slice A nn c) nn ((([(kVersion, jN 2), (kMedia, jT m)] ++ tType ty).map (fun x => x.1)).map strv) :: .own w.heap.size 51 5 (.slice B nn d) nn ys :: .blk g6 51 (vlL 6 0 ⟨#[]⟩ (.slice A nn c) (.slice B nn d)) :: .blk g2 51 vl0 :: .blk g1 40 (docL m ty cf (.slice Ae ne ce) sj hs (.slice An nq cn)) :: (TE ++ LE)))
    case first =>
     go_wp2_with fail
     go_loopg [5] ne (fun g iv wr => ∃ (i : Nat) (AL : Option Addr) (cL : Nat) (zs : List Value) (LE : List Ent), i ≤ ne ∧ Box (g = ne - i) ∧ iv = .int .i64 (i : Int) ∧ i ≤ cL ∧ Box (VTL ((eds.take i).map tDesc) zs LE) ∧ Fr [] w wr (.own w.heap.size 51 5 (.slice AL i cL) i zs :: .blk g8 51 (vlL 5 0 ⟨#[]⟩ (.slice none 0 0) (.slice AL i cL)) :: .own w.heap.size 9 1 (.slice A nn c) nn ((([(kVersion, jN 2), (kMedia, jT m)] ++ tType ty).map (fun x => x.1)).map strv) :: .own w.heap.size 51 5 (.slice B nn d) nn ys :: .blk g6 51 (vlL 6 0 ⟨#[]⟩ (.slice A nn c) (.slice B nn d)) :: .blk g2 51 vl0 :: .blk g1 40 (docL m ty cf (.slice Ae ne ce) sj hs (.slice An nq cn)) :: (TE ++ LE)))
     case atStart => exact ⟨0, none, 0, [], [], by omega, box rfl, rfl, Nat.le_refl _, box VTL.nil, by simpa using hF10⟩
     case round =>
      clear hF10
      obtain ⟨i, AL, cL, zs, LE, hi, hgi, rfl, hic, hTL, hF⟩ := hrel
      have hkk : Box (_ = ne - i) := hgi
      clear hgi
      by_cases hlt : i < ne
      ·obtain ⟨x, hx'⟩ : ∃ x, eds[i]? = some x := ⟨eds[i]'(by rw [← hne.out]; exact hlt), by simp⟩
       have hxm := List.mem_of_getElem? hx'
       have hto := box (fun w' (hb : Below w.heap.size w w') => rtold_any x _ w' ((hEd.out i x hx').on hb) (hsE.out x hxm).2.1)
       have hx := box hx'
       have hxl := box (hEd.out i x hx').len
       obtain ⟨ci, hce⟩ : ∃ ci, ci = (xe.drop (i * 35)).take 35 := ⟨_, rfl⟩
       rw [← hce] at hxl hto
       replace hce := box hce.symm
       clear hx' hxm
       have hreb := hre.out
       go_upto_region 9 with (first | (with_reducible refine lsx (wp_fld hF (i := 6) rfl uq38 rfl (by with_unfolding_all exact ⟨_, rfl, rfl⟩) (docL_eg hcl.out) ?_)))
       have hFd := hF.drew
       clear hF
       refine wp_region_held (S := fun w' => w'.heap[g1]? = some (.cells (List.toArray (docL m ty cf (.slice Ae ne ce) sj hs (.slice An nq cn))) 40 (0, 0)) ∧ Rd w' (· < w.heap.size) Ae 35 ne xe) (by kernel_rfl) ?_
       change wpAnyH _ _ _ _ _ _ _ _ (World.drew _)
       refine tkp 0 ⟨hFd.blk (i := 6) rfl, hreb.below hFd.below⟩ ?_
       (try simp only [zP, zQ, zS, zZ, zN])
       refine tkp 2 ⟨hFd.blk (i := 6) rfl, hreb.below hFd.below⟩ ?_
       (try simp only [zP, zQ, zS, zZ, zN])
       refine tky 3 (y := yi_fld (by with_unfolding_all rfl) (fun _ h => h.1) uq38 rfl (by with_unfolding_all exact ⟨_, rfl, rfl⟩) (docL_eg hcl.out)) (s := ⟨hFd.blk (i := 6) rfl, hreb.below hFd.below⟩) (h := ?_)
       (try simp only [zP, zQ, zS, zZ, zN])
       refine tkp 4 ⟨hFd.blk (i := 6) rfl, hreb.below hFd.below⟩ ?_
       (try simp only [zP, zQ, zS, zZ, zN])
       refine tky 5 (y := yi_ix (by with_unfolding_all rfl) T_rdesc17 (fun h => hreb.some_ h) (k := i) (by with_unfolding_all exact ⟨_, _, _, _, rfl, rfl, rfl⟩) rfl (by omega)) (s := ⟨hFd.blk (i := 6) rfl, hreb.below hFd.below⟩) (h := ?_)
       (try simp only [zP, zQ, zS, zZ, zN])
       refine tky 6 (y := yi_ldA (by with_unfolding_all rfl) (j := i * 35) (fun _ h => h.2) uq37 rfl (by with_unfolding_all exact ⟨_, rfl, rfl⟩) (ds := ci) (by rw [hxl.out]; kernel_rfl) (by rw [hxl.out]; exact hce.out)) (s := ⟨hFd.blk (i := 6) rfl, hreb.below hFd.below⟩) (h := ?_)
       (try simp only [zP, zQ, zS, zZ, zN])
       refine wpAnyH_ready (rs := [1, 7]) (by kernel_rfl) (by simp) ?_
       refine AllReadyH.cons (by simp only [List.getElem?_toArray, List.getElem?_cons_zero, List.getElem?_cons_succ]; rfl) (fun K hK => ?_) ?_
       ·refine stp (by with_unfolding_all rfl) (wp_fld hFd (i := 1) rfl uq49 rfl (by with_unfolding_all exact ⟨_, rfl, rfl⟩) rfl ?_)
        refine hK.out _ _ (⟨hFd.blk (i := 6) rfl, hreb.below hFd.below⟩) (fun _ => ?_)
        clear hK K
        (try simp only [zP, zQ, zS, zZ, zN])
        refine rdy1 7 (fun K hK => ?_)
        refine stp (by with_unfolding_all rfl) (wp_call Tryz.func51 rfl (by with_unfolding_all rfl) (by with_unfolding_all rfl) (by with_unfolding_all rfl) (hto.out _ hFd.below) ?_)
        rintro e w31 ⟨cs31, es31, rfl, hvt31, hv31⟩
        refine ⟨_, rfl, ?_⟩
        have hF31 := hFd.joinR hv31
        simp only [List.cons_append] at hF31
        refine hK.out _ _ (⟨hF31.blk (i := 6) rfl, hreb.below hF31.below⟩) (fun _ => ?_)
        clear hK K
        (try simp only [zP, zQ, zS, zZ, zN])
        refine rdy1 8 (fun K hK => ?_)
        refine stp (by with_unfolding_all rfl) (wp_fbs1 T_rvals hF31 (by with_unfolding_all rfl) (ds := cs31) (by with_unfolding_all rfl) hvt31.len (by decide) ?_)
        intro w32 g32 hF32 hz32
        refine hK.out _ _ (⟨hF32.blk (i := 7) rfl, hreb.below hF32.below⟩) (fun _ => ?_)
        clear hK K
        (try simp only [zP, zQ, zS, zZ, zN])
        refine rdy1 9 (fun K hK => ?_)
        refine stp (by with_unfolding_all rfl) (wp_fappG T_rvals hF32 (i := 1) rfl (Nat.le_refl _) (hF32.rdOwn (i := 0) rfl) hvt31.one (by with_unfolding_all exact ⟨_, _, rfl, rfl, rfl⟩) (by unfold maxLen; omega) (by omega) ?_)
        intro v33 w33 hF33 hz33
        (try simp only [zZ, zN] at hF33)
        obtain ⟨A33, c33, rfl, hc33⟩ := hF33.ownParts (i := 1) rfl
        refine hK.out _ _ (⟨hF33.blk (i := 7) rfl, hreb.below hF33.below⟩) (fun _ => ?_)
        clear hK K
        (try simp only [zP, zQ, zS, zZ, zN])
        refine tkp 10 ⟨hF33.blk (i := 7) rfl, hreb.below hF33.below⟩ ?_
        (try simp only [zP, zQ, zS, zZ, zN])
        refine rdy1 11 (fun K hK => ?_)
        refine stp (by with_unfolding_all rfl) (wp_fst hF33 (i := 2) rfl (v := .slice A33 (i + 1) c33) (by with_unfolding_all exact ⟨_, _, rfl, rfl, rfl⟩) (by kernel_rfl) rfl rfl (by rw [vlL_len]; decide) ?_)
        intro w34 hF34 hz34
        (try simp only [zZ, zN] at hF34)
        rw [(vlL_4 (k := 5) (n := 0) (t := ⟨#[]⟩) (a := (.slice none 0 0)) (b := .slice AL i cL))] at hF34
        refine hK.out _ _ (⟨hF34.blk (i := 7) rfl, hreb.below hF34.below⟩) (fun _ => ?_)
        clear hK K
        (try simp only [zP, zQ, zS, zZ, zN])
        refine wpAnyH_done (by kernel_rfl) ?_ _
        go_wp2_with fail
        go_roundg (ne - (i + 1))
        case rel => exact ⟨i + 1, A33, c33, zs ++ cs31, LE ++ es31, by omega, box rfl, by go_num, hc33, box (by rw [take_snoc1 hx.out, List.map_append]; exact hTL.out.snoc hvt31), by have h := hF34.tail; simpa using h⟩
        case measure => have := hkk.out; omega
       refine AllReadyH.cons (by simp only [List.getElem?_toArray, List.getElem?_cons_zero, List.getElem?_cons_succ]; rfl) (fun K hK => ?_) ?_
       ·refine stp (by with_unfolding_all rfl) (wp_call Tryz.func51 rfl (by with_unfolding_all rfl) (by with_unfolding_all rfl) (by with_unfolding_all rfl) (hto.out _ hFd.below) ?_)
        rintro e w31 ⟨cs31, es31, rfl, hvt31, hv31⟩
        refine ⟨_, rfl, ?_⟩
        have hF31 := hFd.joinR hv31
        simp only [List.cons_append] at hF31
        refine hK.out _ _ (⟨hF31.blk (i := 6) rfl, hreb.below hF31.below⟩) (fun _ => ?_)
        clear hK K
        (try simp only [zP, zQ, zS, zZ, zN])
        refine wpAnyH_ready (rs := [1, 8]) (by kernel_rfl) (by simp) ?_
        refine AllReadyH.cons (by simp only [List.getElem?_toArray, List.getElem?_cons_zero, List.getElem?_cons_succ]; rfl) (fun K hK => ?_) ?_
        ·refine stp (by with_unfolding_all rfl) (wp_fld hF31 (i := 1) rfl uq49 rfl (by with_unfolding_all exact ⟨_, rfl, rfl⟩) rfl ?_)
         refine hK.out _ _ (⟨hF31.blk (i := 6) rfl, hreb.below hF31.below⟩) (fun _ => ?_)
         clear hK K
         (try simp only [zP, zQ, zS, zZ, zN])
         refine rdy1 8 (fun K hK => ?_)
         refine stp (by with_unfolding_all rfl) (wp_fbs1 T_rvals hF31 (by with_unfolding_all rfl) (ds := cs31) (by with_unfolding_all rfl) hvt31.len (by decide) ?_)
         intro w32 g32 hF32 hz32
         refine hK.out _ _ (⟨hF32.blk (i := 7) rfl, hreb.below hF32.below⟩) (fun _ => ?_)
         clear hK K
         (try simp only [zP, zQ, zS, zZ, zN])
         refine rdy1 9 (fun K hK => ?_)
         refine stp (by with_unfolding_all rfl) (wp_fappG T_rvals hF32 (i := 1) rfl (Nat.le_refl _) (hF32.rdOwn (i := 0) rfl) hvt31.one (by with_unfolding_all exact ⟨_, _, rfl, rfl, rfl⟩) (by unfold maxLen; omega) (by omega) ?_)
         intro v33 w33 hF33 hz33
         (try simp only [zZ, zN] at hF33)
         obtain ⟨A33, c33, rfl, hc33⟩ := hF33.ownParts (i := 1) rfl
         refine hK.out _ _ (⟨hF33.blk (i := 7) rfl, hreb.below hF33.below⟩) (fun _ => ?_)
         clear hK K
         (try simp only [zP, zQ, zS, zZ, zN])
         refine tkp 10 ⟨hF33.blk (i := 7) rfl, hreb.below hF33.below⟩ ?_
         (try simp only [zP, zQ, zS, zZ, zN])
         refine rdy1 11 (fun K hK => ?_)
         refine stp (by with_unfolding_all rfl) (wp_fst hF33 (i := 2) rfl (v := .slice A33 (i + 1) c33) (by with_unfolding_all exact ⟨_, _, rfl, rfl, rfl⟩) (by kernel_rfl) rfl rfl (by rw [vlL_len]; decide) ?_)
         intro w34 hF34 hz34
         (try simp only [zZ, zN] at hF34)
         rw [(vlL_4 (k := 5) (n := 0) (t := ⟨#[]⟩) (a := (.slice none 0 0)) (b := .slice AL i cL))] at hF34
         refine hK.out _ _ (⟨hF34.blk (i := 7) rfl, hreb.below hF34.below⟩) (fun _ => ?_)
         clear hK K
         (try simp only [zP, zQ, zS, zZ, zN])
         refine wpAnyH_done (by kernel_rfl) ?_ _
         go_wp2_with fail
         go_roundg (ne - (i + 1))
         case rel => exact ⟨i + 1, A33, c33, zs ++ cs31, LE ++ es31, by omega, box rfl, by go_num, hc33, box (by rw [take_snoc1 hx.out, List.map_append]; exact hTL.out.snoc hvt31), by have h := hF34.tail; simpa using h⟩
         case measure => have := hkk.out; omega
        refine AllReadyH.cons (by simp only [List.getElem?_toArray, List.getElem?_cons_zero, List.getElem?_cons_succ]; rfl) (fun K hK => ?_) ?_
        ·refine stp (by with_unfolding_all rfl) (wp_fbs1 T_rvals hF31 (by with_unfolding_all rfl) (ds := cs31) (by with_unfolding_all rfl) hvt31.len (by decide) ?_)
         intro w32 g32 hF32 hz32
         refine hK.out _ _ (⟨hF32.blk (i := 7) rfl, hreb.below hF32.below⟩) (fun _ => ?_)
         clear hK K
         (try simp only [zP, zQ, zS, zZ, zN])
         refine rdy1 1 (fun K hK => ?_)
         refine stp (by with_unfolding_all rfl) (wp_fld hF32 (i := 2) rfl uq49 rfl (by with_unfolding_all exact ⟨_, rfl, rfl⟩) rfl ?_)
         refine hK.out _ _ (⟨hF32.blk (i := 7) rfl, hreb.below hF32.below⟩) (fun _ => ?_)
         clear hK K
         (try simp only [zP, zQ, zS, zZ, zN])
         refine rdy1 9 (fun K hK => ?_)
         refine stp (by with_unfolding_all rfl) (wp_fappG T_rvals hF32 (i := 1) rfl (Nat.le_refl _) (hF32.rdOwn (i := 0) rfl) hvt31.one (by with_unfolding_all exact ⟨_, _, rfl, rfl, rfl⟩) (by unfold maxLen; omega) (by omega) ?_)
         intro v33 w33 hF33 hz33
         (try simp only [zZ, zN] at hF33)
         obtain ⟨A33, c33, rfl, hc33⟩ := hF33.ownParts (i := 1) rfl
         refine hK.out _ _ (⟨hF33.blk (i := 7) rfl, hreb.below hF33.below⟩) (fun _ => ?_)
         clear hK K
         (try simp only [zP, zQ, zS, zZ, zN])
         refine tkp 10 ⟨hF33.blk (i := 7) rfl, hreb.below hF33.below⟩ ?_
         (try simp only [zP, zQ, zS, zZ, zN])
         refine rdy1 11 (fun K hK => ?_)
         refine stp (by with_unfolding_all rfl) (wp_fst hF33 (i := 2) rfl (v := .slice A33 (i + 1) c33) (by with_unfolding_all exact ⟨_, _, rfl, rfl, rfl⟩) (by kernel_rfl) rfl rfl (by rw [vlL_len]; decide) ?_)
         intro w34 hF34 hz34
         (try simp only [zZ, zN] at hF34)
         rw [(vlL_4 (k := 5) (n := 0) (t := ⟨#[]⟩) (a := (.slice none 0 0)) (b := .slice AL i cL))] at hF34
         refine hK.out _ _ (⟨hF34.blk (i := 7) rfl, hreb.below hF34.below⟩) (fun _ => ?_)
         clear hK K
         (try simp only [zP, zQ, zS, zZ, zN])
         refine wpAnyH_done (by kernel_rfl) ?_ _
         go_wp2_with fail
         go_roundg (ne - (i + 1))
         case rel => exact ⟨i + 1, A33, c33, zs ++ cs31, LE ++ es31, by omega, box rfl, by go_num, hc33, box (by rw [take_snoc1 hx.out, List.map_append]; exact hTL.out.snoc hvt31), by have h := hF34.tail; simpa using h⟩
         case measure => have := hkk.out; omega
        exact AllReadyH.nil
       exact AllReadyH.nil
      ·obtain rfl : ne = i := by omega
       have htk : eds.take ne = eds := by rw [hne.out]; exact List.take_length
       rw [htk] at hTL
       clear htk
       go_wp2_with (first | (with_reducible refine lsx (wp_fld hF (i := 6) rfl uq38 rfl (by with_unfolding_all exact ⟨_, rfl, rfl⟩) (docL_eg hcl.out) ?_)))
       go_meet
       exact ⟨AL, cL, zs, LE, hic, hTL.out, hF⟩
    case rest =>
     obtain ⟨AL, cL, zs, LE, hic, hTL', hF⟩ := hcut
     have hTL := box hTL'
     clear hTL' hF10
     go_step
     go_step
     (try simp only [zP, zQ, zS, zZ, zN])
     go_cut [] (fun wx => Mid w g1 g2 g6 5 (docL m ty cf (.slice Ae ne ce) sj hs (.slice An nq cn)) (([(kVersion, jN 2), (kMedia, jT m)] ++ tType ty) ++ tMain D) wx)
     case first =>
      have hG := ((hF.toRd (i := 0) rfl).pushNone 1).perm (es' := .own w.heap.size 9 1 (.slice A nn c) nn ((([(kVersion, jN 2), (kMedia, jT m)] ++ tType ty).map (fun x => x.1)).map strv) :: .own w.heap.size 51 5 (.slice B nn d) nn ys :: .blk g6 51 (vlL 6 0 ⟨#[]⟩ (.slice A nn c) (.slice B nn d)) :: .blk g2 51 vl0 :: .blk g1 40 (docL m ty cf (.slice Ae ne ce) sj hs (.slice An nq cn)) :: .blk g8 51 (vlL 5 0 ⟨#[]⟩ (.slice none 0 0) (.slice AL ne cL)) :: (TE ++ (.rd none 1 0 [] :: .rd AL 5 ne zs :: LE))) (by
       simp only [List.set_cons_zero]
       exact lperm _ _ _ _ _ _ _ _ _ _)
      have hVL : VT (jL (eds.map tDesc)) (vlL 5 0 ⟨#[]⟩ (.slice none 0 0) (.slice AL ne cL)) (.rd none 1 0 [] :: .rd AL 5 ne zs :: LE) := VT.mk_ (ns := []) (t := []) (Nat.le_refl _) hic hTL.out
      clear hF
      by_cases hi : m = sImage
      ·skip
       have e1 : (m == [97, 112, 112, 108, 105, 99, 97, 116, 105, 111, 110, 47, 118, 110, 100, 46, 111, 99, 105, 46, 105, 109, 97, 103, 101, 46, 109, 97, 110, 105, 102, 101, 115, 116, 46, 118, 49, 43, 106, 115, 111, 110]) = true := by rw [beq_iff_eq]; exact hi
       have hmn : Box (tMain D = [(kConfig, tDesc D.config), (kLayers, jL (eds.map tDesc))]) := box (by unfold tMain; rw [hDm.out, if_pos hi, hDe.out])
       replace hi := box hi
       go_upto_region 11 with (first | (with_reducible refine lsx (wp_fld4 hG uq9 rfl (by with_unfolding_all exact ⟨_, rfl, rfl⟩) docL_m0 ?_)))
       have hFd := hG.drew
       clear hG
       refine wp_region_held (S := fun w' => w'.heap[g1]? = some (.cells (List.toArray (docL m ty cf (.slice Ae ne ce) sj hs (.slice An nq cn))) 40 (0, 0))) (by kernel_rfl) ?_
       change wpAnyH _ _ _ _ _ _ _ _ (World.drew _)
       refine tkp 1 (hFd.blk (i := 4) rfl) ?_
       (try simp only [zP, zQ, zS, zZ, zN])
       refine tky 2 (y := yi_fldA (by with_unfolding_all rfl) (fun _ h => h) uq37 rfl (by with_unfolding_all exact ⟨_, rfl, rfl⟩) (ds := cf) (by rw [hcl.out]; kernel_rfl) (by rw [hcl.out]; exact docL_cf hcl.out)) (s := (hFd.blk (i := 4) rfl)) (h := ?_)
       (try simp only [zP, zQ, zS, zZ, zN])
       refine wpAnyH_ready (rs := [0, 3]) (by kernel_rfl) (by simp) ?_
       refine AllReadyH.cons (by simp only [List.getElem?_toArray, List.getElem?_cons_zero]; rfl) (fun K hK => ?_) ?_
       ·refine stp (by with_unfolding_all rfl) (wp_fldA hFd (i := 2) rfl uq51 rfl (by with_unfolding_all exact ⟨_, rfl, rfl⟩) (ds := (vlL 6 0 ⟨#[]⟩ (.slice A nn c) (.slice B nn d))) (by rw [vlL_len]; kernel_rfl) (take_all _) ?_)
        refine hK.out _ _ ((hFd.blk (i := 4) rfl)) (fun _ => ?_)
        clear hK K
        (try simp only [zP, zQ, zS, zZ, zN])
        refine rdy1 3 (fun K hK => ?_)
        refine stp (by with_unfolding_all rfl) (wp_call Tryz.func51 rfl (by with_unfolding_all rfl) (by with_unfolding_all rfl) (by with_unfolding_all rfl) (hcf.out _ hFd.below) ?_)
        rintro e w31 ⟨cs31, es31, rfl, hvt31, hv31⟩
        refine ⟨_, rfl, ?_⟩
        have hF31 := hFd.joinR hv31
        simp only [List.cons_append] at hF31
        refine hK.out _ _ ((hF31.blk (i := 4) rfl)) (fun _ => ?_)
        clear hK K
        (try simp only [zP, zQ, zS, zZ, zN])
        refine rdy1 4 (fun K hK => ?_)
        refine stp (by with_unfolding_all rfl) (wp_call Tryz.func49 rfl (by with_unfolding_all rfl) (by with_unfolding_all rfl) (by with_unfolding_all rfl) (rput_any kConfig cs31 hF31 (by omega) (by omega) hvt31.len hvt31.one) ?_)
        rintro e w32 ⟨A32, c32, B32, d32, hc32, hd32, rfl, hF32⟩
        refine ⟨_, rfl, ?_⟩
        refine hK.out _ _ ((hF32.blk (i := 4) rfl)) (fun _ => ?_)
        clear hK K
        (try simp only [zP, zQ, zS, zZ, zN])
        refine rdy1 5 (fun K hK => ?_)
        refine stp (by with_unfolding_all rfl) (wp_fstA hF32 (i := 2) rfl (ds := (vlL 6 0 ⟨#[]⟩ (.slice A32 (nn + 1) c32) (.slice B32 (nn + 1) d32))) (by with_unfolding_all exact ⟨_, _, rfl, rfl, rfl⟩) (by rw [vlL_len]; kernel_rfl) vlL_one vlL_fit ?_)
        intro w33 hF33 hz33
        (try simp only [zZ, zN] at hF33)
        rw [(vlL_spl (k' := 6) : spl _ 0 (vlL 6 0 ⟨#[]⟩ (.slice A32 (nn + 1) c32) (.slice B32 (nn + 1) d32)) = (vlL 6 0 ⟨#[]⟩ (.slice A32 (nn + 1) c32) (.slice B32 (nn + 1) d32)))] at hF33
        refine hK.out _ _ ((hF33.blk (i := 4) rfl)) (fun _ => ?_)
        clear hK K
        (try simp only [zP, zQ, zS, zZ, zN])
        refine wpAnyH_done (by kernel_rfl) ?_ _
        have hVT31 := box hvt31
        clear hvt31
        go_wp2_with (first | (with_reducible refine lsx (wp_fldA2 hF33 uq51 rfl (by with_unfolding_all exact ⟨_, rfl, rfl⟩) (ds := (vlL 6 0 ⟨#[]⟩ (.slice A32 (nn + 1) c32) (.slice B32 (nn + 1) d32))) (by rw [vlL_len]; kernel_rfl) (take_all _) ?_)) | (with_reducible refine lsx (wp_fldA5 hF33 uq51 rfl (by with_unfolding_all exact ⟨_, rfl, rfl⟩) (ds := (vlL 5 0 ⟨#[]⟩ (.slice none 0 0) (.slice AL ne cL))) (by rw [vlL_len]; kernel_rfl) (take_all _) ?_)))
        refine (rput_any kLayers (vlL 5 0 ⟨#[]⟩ (.slice none 0 0) (.slice AL ne cL)) hF33 (by omega) (by omega) rfl vlL_one).mono ?_
        rintro e w60 ⟨A60, c60, B60, d60, hc60, hd60, rfl, hF60⟩
        go_wp2_with (first | ((with_reducible refine lsx (wp_fstA2 hF60 (by with_unfolding_all exact ⟨_, _, rfl, rfl, rfl⟩) (by rw [vlL_len]; kernel_rfl) vlL_one vlL_fit vlL_spl ?_)); intro w61 hF61 hz61))
        go_meet
        rw [hmn.out]
        have hH := (hF61.sub (List.Sublist.cons_cons _ (List.Sublist.cons_cons _ (List.Sublist.cons_cons _ (List.Sublist.cons_cons _ (List.Sublist.cons_cons _ (List.Sublist.cons _ (List.Sublist.refl _)))))))).perm (List.Perm.cons _ (List.Perm.cons _ (List.Perm.cons _ (List.Perm.cons _ (List.Perm.cons _ (permTail TE (.rd none 1 0 [] :: .rd AL 5 ne zs :: LE) es31))))))
        have em : (([(kVersion, jN 2), (kMedia, jT m)] ++ tType ty) ++ [(kConfig, tDesc D.config)]).map (fun x : List UInt8 × JV => x.1) = ([(kVersion, jN 2), (kMedia, jT m)] ++ tType ty).map (fun x => x.1) ++ [kConfig] := by rw [List.map_append]; rfl
        have hM := Mid.put (b := 5) (ms := ([(kVersion, jN 2), (kMedia, jT m)] ++ tType ty) ++ [(kConfig, tDesc D.config)]) (s := kLayers) (v := jL (eds.map tDesc)) (nn := nn + 1) (by rw [List.length_append, hnn.out]; rfl) (by omega) hc60 hd60 (by rw [List.map_append]; exact hT.out.snoc hVT31.out) hVL (by rw [em]; exact hH)
        rw [List.append_assoc] at hM
        exact hM
       refine AllReadyH.cons (by simp only [List.getElem?_toArray, List.getElem?_cons_zero, List.getElem?_cons_succ]; rfl) (fun K hK => ?_) ?_
       ·refine stp (by with_unfolding_all rfl) (wp_call Tryz.func51 rfl (by with_unfolding_all rfl) (by with_unfolding_all rfl) (by with_unfolding_all rfl) (hcf.out _ hFd.below) ?_)
        rintro e w31 ⟨cs31, es31, rfl, hvt31, hv31⟩
        refine ⟨_, rfl, ?_⟩
        have hF31 := hFd.joinR hv31
        simp only [List.cons_append] at hF31
        refine hK.out _ _ ((hF31.blk (i := 4) rfl)) (fun _ => ?_)
        clear hK K
        (try simp only [zP, zQ, zS, zZ, zN])
        refine rdy1 0 (fun K hK => ?_)
        refine stp (by with_unfolding_all rfl) (wp_fldA hF31 (i := 2) rfl uq51 rfl (by with_unfolding_all exact ⟨_, rfl, rfl⟩) (ds := (vlL 6 0 ⟨#[]⟩ (.slice A nn c) (.slice B nn d))) (by rw [vlL_len]; kernel_rfl) (take_all _) ?_)
        refine hK.out _ _ ((hF31.blk (i := 4) rfl)) (fun _ => ?_)
        clear hK K
        (try simp only [zP, zQ, zS, zZ, zN])
        refine rdy1 4 (fun K hK => ?_)
        refine stp (by with_unfolding_all rfl) (wp_call Tryz.func49 rfl (by with_unfolding_all rfl) (by with_unfolding_all rfl) (by with_unfolding_all rfl) (rput_any kConfig cs31 hF31 (by omega) (by omega) hvt31.len hvt31.one) ?_)
        rintro e w32 ⟨A32, c32, B32, d32, hc32, hd32, rfl, hF32⟩
        refine ⟨_, rfl, ?_⟩
        refine hK.out _ _ ((hF32.blk (i := 4) rfl)) (fun _ => ?_)
        clear hK K
        (try simp only [zP, zQ, zS, zZ, zN])
        refine rdy1 5 (fun K hK => ?_)
        refine stp (by with_unfolding_all rfl) (wp_fstA hF32 (i := 2) rfl (ds := (vlL 6 0 ⟨#[]⟩ (.slice A32 (nn + 1) c32) (.slice B32 (nn + 1) d32))) (by with_unfolding_all exact ⟨_, _, rfl, rfl, rfl⟩) (by rw [vlL_len]; kernel_rfl) vlL_one vlL_fit ?_)
        intro w33 hF33 hz33
        (try simp only [zZ, zN] at hF33)
        rw [(vlL_spl (k' := 6) : spl _ 0 (vlL 6 0 ⟨#[]⟩ (.slice A32 (nn + 1) c32) (.slice B32 (nn + 1) d32)) = (vlL 6 0 ⟨#[]⟩ (.slice A32 (nn + 1) c32) (.slice B32 (nn + 1) d32)))] at hF33
        refine hK.out _ _ ((hF33.blk (i := 4) rfl)) (fun _ => ?_)
        clear hK K
        (try simp only [zP, zQ, zS, zZ, zN])
        refine wpAnyH_done (by kernel_rfl) ?_ _
        have hVT31 := box hvt31
        clear hvt31
        go_wp2_with (first | (with_reducible refine lsx (wp_fldA2 hF33 uq51 rfl (by with_unfolding_all exact ⟨_, rfl, rfl⟩) (ds := (vlL 6 0 ⟨#[]⟩ (.slice A32 (nn + 1) c32) (.slice B32 (nn + 1) d32))) (by rw [vlL_len]; kernel_rfl) (take_all _) ?_)) | (with_reducible refine lsx (wp_fldA5 hF33 uq51 rfl (by with_unfolding_all exact ⟨_, rfl, rfl⟩) (ds := (vlL 5 0 ⟨#[]⟩ (.slice none 0 0) (.slice AL ne cL))) (by rw [vlL_len]; kernel_rfl) (take_all _) ?_)))
        refine (rput_any kLayers (vlL 5 0 ⟨#[]⟩ (.slice none 0 0) (.slice AL ne cL)) hF33 (by omega) (by omega) rfl vlL_one).mono ?_
        rintro e w60 ⟨A60, c60, B60, d60, hc60, hd60, rfl, hF60⟩
        go_wp2_with (first | ((with_reducible refine lsx (wp_fstA2 hF60 (by with_unfolding_all exact ⟨_, _, rfl, rfl, rfl⟩) (by rw [vlL_len]; kernel_rfl) vlL_one vlL_fit vlL_spl ?_)); intro w61 hF61 hz61))
        go_meet
        rw [hmn.out]
        have hH := (hF61.sub (List.Sublist.cons_cons _ (List.Sublist.cons_cons _ (List.Sublist.cons_cons _ (List.Sublist.cons_cons _ (List.Sublist.cons_cons _ (List.Sublist.cons _ (List.Sublist.refl _)))))))).perm (List.Perm.cons _ (List.Perm.cons _ (List.Perm.cons _ (List.Perm.cons _ (List.Perm.cons _ (permTail TE (.rd none 1 0 [] :: .rd AL 5 ne zs :: LE) es31))))))
        have em : (([(kVersion, jN 2), (kMedia, jT m)] ++ tType ty) ++ [(kConfig, tDesc D.config)]).map (fun x : List UInt8 × JV => x.1) = ([(kVersion, jN 2), (kMedia, jT m)] ++ tType ty).map (fun x => x.1) ++ [kConfig] := by rw [List.map_append]; rfl
        have hM := Mid.put (b := 5) (ms := ([(kVersion, jN 2), (kMedia, jT m)] ++ tType ty) ++ [(kConfig, tDesc D.config)]) (s := kLayers) (v := jL (eds.map tDesc)) (nn := nn + 1) (by rw [List.length_append, hnn.out]; rfl) (by omega) hc60 hd60 (by rw [List.map_append]; exact hT.out.snoc hVT31.out) hVL (by rw [em]; exact hH)
        rw [List.append_assoc] at hM
        exact hM
       exact AllReadyH.nil
      ·skip
       have e1 : (m == [97, 112, 112, 108, 105, 99, 97, 116, 105, 111, 110, 47, 118, 110, 100, 46, 111, 99, 105, 46, 105, 109, 97, 103, 101, 46, 109, 97, 110, 105, 102, 101, 115, 116, 46, 118, 49, 43, 106, 115, 111, 110]) = false := by rw [beq_eq_false_iff_ne]; exact hi
       have hmn : Box (tMain D = [(kManifests, jL (eds.map tDesc))]) := box (by unfold tMain; rw [hDm.out, if_neg hi, hDe.out])
       replace hi := box hi
       go_wp2_with (first | (with_reducible refine lsx (wp_fld4 hG uq9 rfl (by with_unfolding_all exact ⟨_, rfl, rfl⟩) docL_m0 ?_)) | (with_reducible refine lsx (wp_fldA2 hG uq51 rfl (by with_unfolding_all exact ⟨_, rfl, rfl⟩) (ds := (vlL 6 0 ⟨#[]⟩ (.slice A nn c) (.slice B nn d))) (by rw [vlL_len]; kernel_rfl) (take_all _) ?_)) | (with_reducible refine lsx (wp_fldA5 hG uq51 rfl (by with_unfolding_all exact ⟨_, rfl, rfl⟩) (ds := (vlL 5 0 ⟨#[]⟩ (.slice none 0 0) (.slice AL ne cL))) (by rw [vlL_len]; kernel_rfl) (take_all _) ?_)))
       refine (rput_any kManifests (vlL 5 0 ⟨#[]⟩ (.slice none 0 0) (.slice AL ne cL)) hG (by omega) (by omega) rfl vlL_one).mono ?_
       rintro e w60 ⟨A60, c60, B60, d60, hc60, hd60, rfl, hF60⟩
       go_wp2_with (first | ((with_reducible refine lsx (wp_fstA2 hF60 (by with_unfolding_all exact ⟨_, _, rfl, rfl, rfl⟩) (by rw [vlL_len]; kernel_rfl) vlL_one vlL_fit vlL_spl ?_)); intro w61 hF61 hz61))
       go_meet
       rw [hmn.out]
       exact Mid.put hnn.out (by omega) hc60 hd60 hT.out hVL (hF61.sub (List.Sublist.cons_cons _ (List.Sublist.cons_cons _ (List.Sublist.cons_cons _ (List.Sublist.cons_cons _ (List.Sublist.cons_cons _ (List.Sublist.cons _ (List.Sublist.refl _))))))))
     case rest =>
      clear hF hT hnn hTL
      obtain ⟨nn, A, c, B, d, ys, TE, hnn', hnb, hcc, hdd, hT', hF⟩ := hcut
      have hnn := box hnn'
      have hT := box hT'
      clear hnn' hT'
      go_step
      go_step
      (try simp only [zP, zQ, zS, zZ, zN])
      go_cut [] (fun wx => Mid w g1 g2 g6 6 (docL m ty cf (.slice Ae ne ce) sj hs (.slice An nq cn)) ((([(kVersion, jN 2), (kMedia, jT m)] ++ tType ty) ++ tMain D) ++ tSubj D) wx)
      case first =>
       cases hs with
       | false =>
        have hsb : Box (tSubj D = []) := box (if_neg (by rw [hDh.out]; decide))
        go_wp2_with (first | (with_reducible refine lsx (wp_fld4 hF uq4 rfl (by with_unfolding_all exact ⟨_, rfl, rfl⟩) (docL_has hcl.out hsl.out) ?_)))
        go_meet
        rw [hsb.out, List.append_nil]
        exact ⟨nn, A, c, B, d, ys, TE, hnn.out, by omega, hcc, hdd, hT.out, hF⟩
       | true =>
        have hsb : Box (tSubj D = [(kSubject, tDesc D.subject)]) := box (if_pos hDh.out)
        go_upto_region 15 with (first | (with_reducible refine lsx (wp_fld4 hF uq4 rfl (by with_unfolding_all exact ⟨_, rfl, rfl⟩) (docL_has hcl.out hsl.out) ?_)))
        have hFd := hF.drew
        clear hF
        refine wp_region_held (S := fun w' => w'.heap[g1]? = some (.cells (List.toArray (docL m ty cf (.slice Ae ne ce) sj true (.slice An nq cn))) 40 (0, 0))) (by kernel_rfl) ?_
        change wpAnyH _ _ _ _ _ _ _ _ (World.drew _)
        refine tkp 1 (hFd.blk (i := 4) rfl) ?_
        (try simp only [zP, zQ, zS, zZ, zN])
        refine tky 2 (y := yi_fldA (by with_unfolding_all rfl) (fun _ h => h) uq37 rfl (by with_unfolding_all exact ⟨_, rfl, rfl⟩) (ds := sj) (by rw [hsl.out]; kernel_rfl) (by rw [hsl.out]; exact docL_sj hcl.out hsl.out)) (s := (hFd.blk (i := 4) rfl)) (h := ?_)
        (try simp only [zP, zQ, zS, zZ, zN])
        refine wpAnyH_ready (rs := [0, 3]) (by kernel_rfl) (by simp) ?_
        refine AllReadyH.cons (by simp only [List.getElem?_toArray, List.getElem?_cons_zero]; rfl) (fun K hK => ?_) ?_
        ·refine stp (by with_unfolding_all rfl) (wp_fldA hFd (i := 2) rfl uq51 rfl (by with_unfolding_all exact ⟨_, rfl, rfl⟩) (ds := (vlL 6 0 ⟨#[]⟩ (.slice A nn c) (.slice B nn d))) (by rw [vlL_len]; kernel_rfl) (take_all _) ?_)
         refine hK.out _ _ ((hFd.blk (i := 4) rfl)) (fun _ => ?_)
         clear hK K
         (try simp only [zP, zQ, zS, zZ, zN])
         refine rdy1 3 (fun K hK => ?_)
         refine stp (by with_unfolding_all rfl) (wp_call Tryz.func51 rfl (by with_unfolding_all rfl) (by with_unfolding_all rfl) (by with_unfolding_all rfl) (hsu.out _ hFd.below) ?_)
         rintro e w31 ⟨cs31, es31, rfl, hvt31, hv31⟩
         refine ⟨_, rfl, ?_⟩
         have hF31 := hFd.joinR hv31
         simp only [List.cons_append] at hF31
         refine hK.out _ _ ((hF31.blk (i := 4) rfl)) (fun _ => ?_)
         clear hK K
         (try simp only [zP, zQ, zS, zZ, zN])
         refine rdy1 4 (fun K hK => ?_)
         refine stp (by with_unfolding_all rfl) (wp_call Tryz.func49 rfl (by with_unfolding_all rfl) (by with_unfolding_all rfl) (by with_unfolding_all rfl) (rput_any kSubject cs31 hF31 (by omega) (by omega) hvt31.len hvt31.one) ?_)
         rintro e w32 ⟨A32, c32, B32, d32, hc32, hd32, rfl, hF32⟩
         refine ⟨_, rfl, ?_⟩
         refine hK.out _ _ ((hF32.blk (i := 4) rfl)) (fun _ => ?_)
         clear hK K
         (try simp only [zP, zQ, zS, zZ, zN])
         refine rdy1 5 (fun K hK => ?_)
         refine stp (by with_unfolding_all rfl) (wp_fstA hF32 (i := 2) rfl (ds := (vlL 6 0 ⟨#[]⟩ (.slice A32 (nn + 1) c32) (.slice B32 (nn + 1) d32))) (by with_unfolding_all exact ⟨_, _, rfl, rfl, rfl⟩) (by rw [vlL_len]; kernel_rfl) vlL_one vlL_fit ?_)
         intro w33 hF33 hz33
         (try simp only [zZ, zN] at hF33)
         rw [(vlL_spl (k' := 6) : spl _ 0 (vlL 6 0 ⟨#[]⟩ (.slice A32 (nn + 1) c32) (.slice B32 (nn + 1) d32)) = (vlL 6 0 ⟨#[]⟩ (.slice A32 (nn + 1) c32) (.slice B32 (nn + 1) d32)))] at hF33
         refine hK.out _ _ ((hF33.blk (i := 4) rfl)) (fun _ => ?_)
         clear hK K
         (try simp only [zP, zQ, zS, zZ, zN])
         refine wpAnyH_done (by kernel_rfl) ?_ _
         go_wp2_with fail
         go_meet
         rw [hsb.out]
         exact Mid.put hnn.out (by omega) hc32 hd32 hT.out hvt31 hF33
        refine AllReadyH.cons (by simp only [List.getElem?_toArray, List.getElem?_cons_zero, List.getElem?_cons_succ]; rfl) (fun K hK => ?_) ?_
        ·refine stp (by with_unfolding_all rfl) (wp_call Tryz.func51 rfl (by with_unfolding_all rfl) (by with_unfolding_all rfl) (by with_unfolding_all rfl) (hsu.out _ hFd.below) ?_)
         rintro e w31 ⟨cs31, es31, rfl, hvt31, hv31⟩
         refine ⟨_, rfl, ?_⟩
         have hF31 := hFd.joinR hv31
         simp only [List.cons_append] at hF31
         refine hK.out _ _ ((hF31.blk (i := 4) rfl)) (fun _ => ?_)
         clear hK K
         (try simp only [zP, zQ, zS, zZ, zN])
         refine rdy1 0 (fun K hK => ?_)
         refine stp (by with_unfolding_all rfl) (wp_fldA hF31 (i := 2) rfl uq51 rfl (by with_unfolding_all exact ⟨_, rfl, rfl⟩) (ds := (vlL 6 0 ⟨#[]⟩ (.slice A nn c) (.slice B nn d))) (by rw [vlL_len]; kernel_rfl) (take_all _) ?_)
         refine hK.out _ _ ((hF31.blk (i := 4) rfl)) (fun _ => ?_)
         clear hK K
         (try simp only [zP, zQ, zS, zZ, zN])
         refine rdy1 4 (fun K hK => ?_)
         refine stp (by with_unfolding_all rfl) (wp_call Tryz.func49 rfl (by with_unfolding_all rfl) (by with_unfolding_all rfl) (by with_unfolding_all rfl) (rput_any kSubject cs31 hF31 (by omega) (by omega) hvt31.len hvt31.one) ?_)
         rintro e w32 ⟨A32, c32, B32, d32, hc32, hd32, rfl, hF32⟩
         refine ⟨_, rfl, ?_⟩
         refine hK.out _ _ ((hF32.blk (i := 4) rfl)) (fun _ => ?_)
         clear hK K
         (try simp only [zP, zQ, zS, zZ, zN])
         refine rdy1 5 (fun K hK => ?_)
         refine stp (by with_unfolding_all rfl) (wp_fstA hF32 (i := 2) rfl (ds := (vlL 6 0 ⟨#[]⟩ (.slice A32 (nn + 1) c32) (.slice B32 (nn + 1) d32))) (by with_unfolding_all exact ⟨_, _, rfl, rfl, rfl⟩) (by rw [vlL_len]; kernel_rfl) vlL_one vlL_fit ?_)
         intro w33 hF33 hz33
         (try simp only [zZ, zN] at hF33)
         rw [(vlL_spl (k' := 6) : spl _ 0 (vlL 6 0 ⟨#[]⟩ (.slice A32 (nn + 1) c32) (.slice B32 (nn + 1) d32)) = (vlL 6 0 ⟨#[]⟩ (.slice A32 (nn + 1) c32) (.slice B32 (nn + 1) d32)))] at hF33
         refine hK.out _ _ ((hF33.blk (i := 4) rfl)) (fun _ => ?_)
         clear hK K
         (try simp only [zP, zQ, zS, zZ, zN])
         refine wpAnyH_done (by kernel_rfl) ?_ _
         go_wp2_with fail
         go_meet
         rw [hsb.out]
         exact Mid.put hnn.out (by omega) hc32 hd32 hT.out hvt31 hF33
        exact AllReadyH.nil
      case rest =>
       clear hF hT hnn
       obtain ⟨nn, A, c, B, d, ys, TE, hnn', hnb, hcc, hdd, hT', hF⟩ := hcut
       have hnn := box hnn'
       have hT := box hT'
       clear hnn' hT'
       go_wp2_with (first | (with_reducible refine lsx (wp_fldA2 hF uq51 rfl (by with_unfolding_all exact ⟨_, rfl, rfl⟩) (ds := (vlL 6 0 ⟨#[]⟩ (.slice A nn c) (.slice B nn d))) (by rw [vlL_len]; kernel_rfl) (take_all _) ?_)) | (with_reducible refine lsx (wp_fld4 hF uq35 rfl (by with_unfolding_all exact ⟨_, rfl, rfl⟩) (docL_nt hcl.out hsl.out) ?_)))
       refine (rwith_any D.notes An nq cn hF (by omega) (by omega) hcc hdd hnq.out hnqb.out hnr.out).mono ?_
       rintro e w70 ⟨A70, c70, B70, d70, zs2, E2, hc70, hd70, rfl, hz, hF70⟩
       go_wp2_with (first | ((with_reducible refine lsx (wp_fstA3 hF70 (by with_unfolding_all exact ⟨_, _, rfl, rfl, rfl⟩) (by rw [vlL_len]; kernel_rfl) vlL_one vlL_fit vlL_spl ?_)); intro w71 hF71 hz71))
       exact bodyPost_ret (results_cellF rfl _ hF71 (i := 3) rfl rfl uq51 rfl (by rw [vlL_len]; kernel_rfl)) rfl (by
        unfold TTell
        have e1 : tMems D = ((([(kVersion, jN 2), (kMedia, jT m)] ++ tType ty) ++ tMain D) ++ tSubj D) ++ tWith D.notes := by
         unfold tMems
         rw [hDm.out, hDt.out]
         simp only [List.append_assoc]
        have e2 : (((([(kVersion, jN 2), (kMedia, jT m)] ++ tType ty) ++ tMain D) ++ tSubj D) ++ tWith D.notes).map (fun x => x.1) = ((([(kVersion, jN 2), (kMedia, jT m)] ++ tType ty) ++ tMain D) ++ tSubj D).map (fun x => x.1) ++ (tWith D.notes).map (fun x => x.1) := List.map_append
        have e3 : (((([(kVersion, jN 2), (kMedia, jT m)] ++ tType ty) ++ tMain D) ++ tSubj D) ++ tWith D.notes).map (fun x => x.2) = ((([(kVersion, jN 2), (kMedia, jT m)] ++ tType ty) ++ tMain D) ++ tSubj D).map (fun x => x.2) ++ (tWith D.notes).map (fun x => x.2) := List.map_append
        have k1 := (hF71.holds 0 _ rfl).1
        have k2 := (hF71.holds 1 _ rfl).1
        have k3 := (VTL.app hT.out hz).len
        simp only [List.length_map, List.length_append, Nat.mul_one] at k1 k3
        rw [e1, e2, e3]
        refine ⟨_, _, _, _, _, _, _, _, rfl, ?_, hc70, hd70, VTL.app hT.out hz, ?_⟩
        ·simp only [List.length_append]
         exact ⟨by omega, by omega⟩
        ·exact hF71.sub (List.Sublist.cons_cons _ (List.Sublist.cons_cons _ (List.Sublist.cons _ (List.Sublist.cons _ (List.Sublist.cons _ (List.Sublist.refl (TE ++ E2)))))))
        )
end Go.Proofs.YtlhicfpmlncomaaGreatDoor

namespace Go.Proofs.YtlhicfpmlncomaaGreatDoor
open Go.RowKit
theorem wp_fb1 {P : Program} {o : Oper} {a : Act} {K : Act → World → Prop} {Q : Exit → Act → World → Prop} {X : List Nat} {w0 w : World} {es : List Ent} {sl e : TypeId} (T : SlT P sl e 1 1 (.int .u8 0)) (hF : Fr X w0 w es) {p : Operand} (ho : o.op = .buildSlice sl 1 #[(0, p)]) {z : Int} {c : UInt8} (hz : z = (c.toNat : Int)) (hv : a.eval p = .int .u8 z)
  (k : ∀ w' g, Fr X w0 w' (Ent.bytes w0.heap.size e (.slice (some ⟨g, 0, none⟩) 1 1) [c] :: es) → w'.heap.size = w.heap.size + 1 → K (a.put o.dst (.slice (some ⟨g, 0, none⟩) 1 1)) w') : o.wp P a w K Q := by
 subst hz
 exact wp_fbsl T hF ho (vs := [bv c]) (by simp [hv, parts, bv]) rfl (by decide) (by simp [bv, Value.cells]) k
end Go.Proofs.YtlhicfpmlncomaaGreatDoor

namespace Go.Proofs.YtlhicfpmlncomaaGreatDoor
open Go.RowKit
theorem str_appj (a b : List UInt8) : (⟨a.toArray⟩ : ByteArray) ++ (⟨b.toArray⟩ : ByteArray) = ⟨(a ++ b).toArray⟩ := by
 apply ByteArray.ext
 simp
theorem str_cons (c : UInt8) (b : List UInt8) : ({ data := #[c] } : ByteArray) ++ (⟨b.toArray⟩ : ByteArray) = ⟨(c :: b).toArray⟩ := str_appj [c] b
theorem dig_byte (m : Nat) : 48 + (m : Int) % 10 = ((UInt8.ofNat (48 + m % 10)).toNat : Int) := by
 rw [UInt8.toNat_ofNat']
 omega
set_option maxRecDepth 20000 in
set_option maxHeartbeats 6400000 in
theorem rdec_nat (u : Nat) (w : World) (hu : u ≤ 9007199254740991) :
  Calls Tryz.prog 105 #[.int .i64 (u : Int)] w fun e w' => e = .returned (.string ⟨(Lib.decDigits u).toArray⟩) ∧ Below w.heap.size w w' := by
 have hF0 := Fr.nil w
 obtain ⟨R, hR⟩ : ∃ R, R = Lib.decDigits u := ⟨_, rfl⟩
 rw [← hR]
 replace hR := box hR
 have hd0 : decide ((u : Int) < 0) = false := decide_eq_false (by omega)
 have hRl : Box (R.length ≤ 20) := box (by have := decDigits_len 18 u (by omega); rw [hR.out]; omega)
 replace hu := box hu
 go_enter Tryz.func105, Tryz.ntmps105
 go_wp2_with fail
 go_loopg [0, 3] u (fun gk a b wr => ∃ (m : Nat) (s : List UInt8), m ≤ 9007199254740991 ∧ Box (gk = m) ∧ a = .int .i64 (m : Int) ∧ b = .string ⟨s.toArray⟩ ∧ Box (R = Lib.decDigits m ++ s) ∧ Fr [] w wr [])
 case atStart => exact ⟨u, [], hu.out, box rfl, rfl, rfl, box (by rw [hR.out, List.append_nil]), hF0⟩
 case round =>
  clear hF0 hd0
  obtain ⟨m, s, hm, hk, rfl, rfl, hRm, hF⟩ := hrel
  have hsl : s.length ≤ 20 := by have h1 := hRl.out; have h2 := congrArg List.length hRm.out; rw [List.length_append] at h2; omega
  by_cases h9 : 9 < m
  ·have hd : decide ((9 : Int) < (m : Int)) = true := decide_eq_true (by omega)
   obtain ⟨c, hc⟩ : ∃ c, c = UInt8.ofNat (48 + m % 10) := ⟨_, rfl⟩
   have hdb := box (dig_byte m)
   rw [← hc] at hdb
   have hRn : Box (R = Lib.decDigits (m / 10) ++ (c :: s)) := box (by rw [hRm.out, Lib.decDigits, dif_neg (by omega), hc, List.append_assoc]; rfl)
   replace hc := box hc
   go_wp2_with (first | ((with_reducible refine lsx (wp_fb1 T_u8 hF rfl hdb.out (by with_unfolding_all rfl) ?_)); intro w2 g2 hF2 hz2; have hr2 := hF2.rdOwn0) | (with_reducible refine lsx (wp_b2s T_u8 uq5 uq9 hr2 (by with_unfolding_all exact ⟨_, rfl, rfl⟩) ?_)))
   go_roundg (m / 10)
   case rel => exact ⟨m / 10, c :: s, by omega, box rfl, by go_num, by rw [← str_cons c s], hRn, hF2.tail⟩
   case measure => have := hk.out; omega
  ·have hd : decide ((9 : Int) < (m : Int)) = false := decide_eq_false (by omega)
   obtain ⟨c, hc⟩ : ∃ c, c = UInt8.ofNat (48 + m) := ⟨_, rfl⟩
   have hdb : Box (48 + (m : Int) = (c.toNat : Int)) := box (by rw [hc, UInt8.toNat_ofNat']; omega)
   have hRn : Box (R = c :: s) := box (by rw [hRm.out, Lib.decDigits, dif_pos (by omega), hc]; rfl)
   replace hc := box hc
   go_wp2_with (first | ((with_reducible refine lsx (wp_fb1 T_u8 hF rfl hdb.out (by with_unfolding_all rfl) ?_)); intro w2 g2 hF2 hz2; have hr2 := hF2.rdOwn0) | (with_reducible refine lsx (wp_b2s T_u8 uq5 uq9 hr2 (by with_unfolding_all exact ⟨_, rfl, rfl⟩) ?_)))
   go_ret
   exact ⟨by rw [hRn.out, ← str_cons c s]; rfl, hF2.below⟩
theorem natAbs_neg' {n : Int} (h : n < 0) : (-n) = (n.natAbs : Int) := by omega
set_option maxRecDepth 20000 in
set_option maxHeartbeats 6400000 in
theorem rdec_any (n : Int) (w : World) (h0 : -9007199254740991 ≤ n) (h1 : n ≤ 9007199254740991) :
  Calls Tryz.prog 105 #[.int .i64 n] w fun e w' => e = .returned (.string ⟨(Lib.itoa n).toArray⟩) ∧ Below w.heap.size w w' := by
 by_cases hn : n < 0
 ·obtain ⟨R, hR⟩ : ∃ R, R = Lib.itoa n := ⟨_, rfl⟩
  rw [← hR]
  have hit : Box (R = 45 :: Lib.decDigits n.natAbs) := box (by rw [hR]; unfold Lib.itoa; rw [if_pos hn])
  have hdl := decDigits_len 18 n.natAbs (by omega)
  have hd0 : decide (n < 0) = true := decide_eq_true hn
  have hcall := box (fun w' => rdec_nat n.natAbs w' (by omega))
  obtain ⟨N, hN⟩ : ∃ N : Nat, N = n.natAbs := ⟨_, rfl⟩
  rw [← hN] at hcall hit hdl
  have hneg : IntKind.i64.wrap (-n) = (N : Int) := by
   rw [hN, ← natAbs_neg' hn]
   simp [IntKind.wrap, IntKind.bits, IntKind.signed]
   split <;> omega
  have hneg2 : -n = (N : Int) := by rw [hN, ← natAbs_neg' hn]
  replace hneg2 := box hneg2
  replace hN := box hN
  replace hn := box hn
  replace hR := box hR
  replace h0 := box h0
  replace h1 := box h1
  go_enter Tryz.func105, Tryz.ntmps105
  go_wp2_with fail
  refine (hcall.out _).mono ?_
  rintro e w2 ⟨rfl, hb2⟩
  go_wp2_with fail
  go_ret
  exact ⟨by rw [hit.out, ← str_cons 45 (Lib.decDigits N)]; rfl, hb2⟩
 ·obtain ⟨u, rfl⟩ : ∃ u : Nat, n = (u : Int) := ⟨n.toNat, by omega⟩
  have : Lib.itoa (u : Int) = Lib.decDigits u := by unfold Lib.itoa; rw [if_neg hn, Int.toNat_natCast]
  rw [this]
  exact rdec_nat u w (by omega)
end Go.Proofs.YtlhicfpmlncomaaGreatDoor
