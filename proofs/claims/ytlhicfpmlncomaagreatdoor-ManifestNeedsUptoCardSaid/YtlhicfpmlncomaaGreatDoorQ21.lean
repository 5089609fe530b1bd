/-
 Layer 8: the law ManifestNeeds, walked.
 Layer 8: what the rows' listed variables hold, in the walks' words; a world that holds it.
-/
import Derived.Test.YtlhicfpmlncomaaGreatDoorQ20
import Derived.Test.YtlhicfpmlncomaaGreatDoorQ03
import Derived.Test.YtlhicfpmlncomaaGreatDoorQ17
import Derived.Test.YtlhicfpmlncomaaGreatDoorQ18
import Derived.Test.YtlhicfpmlncomaaGreatDoorRows
import Derived.Lib.LaidU8T
import Derived.Stop.LaidErr
import Derived.Lib.LaidTab
import Derived.MakeChecks
import Derived.LaidLaws
import Derived.LaidHandle
import Derived.LaidMore
import Derived.Lay
import Derived.Shelf.Vars
namespace Go.Proofs.YtlhicfpmlncomaaGreatDoor
open Go.RowKit
set_option linter.unusedSimpArgs false
set_option linter.unusedVariables false
/-- Each descriptor's cell names notes that the call owns. -/
def NO (B : Nat) (ds : List MDesc) (xs : List Value) (es : List Ent) : Prop :=
 ∀ (j : Nat) (d : MDesc), ds[j]? = some d → ∃ A k c zs, xs[j * 35 + 34]? = some (.slice A k c) ∧ k = d.notes.length ∧ es[j]? = some (.own B 70 2 (.slice A k c) k zs)
theorem NL.no {B : Nat} {ds : List MDesc} {xs : List Value} {es : List Ent} (h : NL B ds xs es) : NO B ds xs es := fun j d hd => by
 obtain ⟨A, n, c, h1, h2, h3, h4, h5, h6⟩ := h.at hd
 exact ⟨A, n, c, _, h2, h4, h3⟩
theorem NO.set {B : Nat} {ds : List MDesc} {xs : List Value} {es : List Ent} (h : NO B ds xs es) {i : Nat} {A : Option Addr} {k c : Nat} {zs : List Value} (zs' : List Value) (hi : es[i]? = some (.own B 70 2 (.slice A k c) k zs)) : NO B ds xs (es.set i (.own B 70 2 (.slice A k c) k zs')) := fun j d hd => by
 obtain ⟨A', k', c', z', h1, h2, h3⟩ := h j d hd
 by_cases hij : i = j
 ·subst hij
  rw [hi] at h3
  injection h3 with h3
  injection h3 with e1 e2 e3 e4 e5 e6
  subst e5
  refine ⟨A', k, c', zs', h1, h2, ?_⟩
  rw [e4, List.getElem?_set_self (List.getElem?_eq_some_iff.1 hi).1]
 ·exact ⟨A', k', c', z', h1, h2, by rw [List.getElem?_set_ne hij]; exact h3⟩
theorem NL.elems {B : Nat} {ds : List MDesc} {xs : List Value} {NE es : List Ent} {X : List Nat} {w0 w : World} (h : NL B ds xs NE) (hm : ∀ x ∈ ds, x.notes.length ≤ 1000000) (hF : Fr X w0 w es) (hs : ∀ e ∈ NE, e ∈ es) :
  ∀ i d, ds[i]? = some d → ∃ A k c, d.dig.length = 32 ∧ (xs.drop (i * 35)).take 35 = dsL d.media d.dig d.size (.slice A k c) ∧ k = d.notes.length ∧ k ≤ 1048576 ∧ Rd w (· < w.heap.size) A 2 k (ntsL d.notes) := fun i d hd => by
 obtain ⟨A, n, c, h1, h2, h3, h4, h5, h6⟩ := h.at hd
 obtain ⟨j, hj⟩ := List.mem_iff_getElem?.1 (hs _ (List.mem_of_getElem? h3))
 have := hm d (List.mem_of_getElem? hd)
 exact ⟨A, n, c, h6, h1, h4, by omega, hF.rdOwn hj⟩
theorem spl_dropN {l ds : List Value} {j k : Nat} (hj : j + ds.length = k) (hl : k ≤ l.length) : (spl l j ds).drop k = l.drop k := by
 have ha : (l.take j ++ ds).length = k := by rw [List.length_append, List.length_take]; omega
 unfold spl
 rw [hj, ← ha, List.drop_left]
theorem drop_more {l l' : List Value} {j k : Nat} (h : l.drop j = l'.drop j) (hk : j ≤ k) : l.drop k = l'.drop k := by
 obtain ⟨q, rfl⟩ : ∃ q, k = j + q := ⟨k - j, by omega⟩
 rw [← List.drop_drop, h, List.drop_drop]
theorem drop_at {l l' : List Value} {j k : Nat} (h : l.drop j = l'.drop j) (hk : j ≤ k) : l[k]? = l'[k]? := by
 obtain ⟨q, rfl⟩ : ∃ q, k = j + q := ⟨k - j, by omega⟩
 rw [← List.getElem?_drop, h, List.getElem?_drop]
theorem fperm {α : Type} (a b o : α) (es ne : List α) : (a :: b :: (es ++ (o :: ne))).Perm (o :: a :: b :: (ne ++ es)) := by
 have h : (a :: b :: (es ++ (o :: ne))).Perm (a :: b :: (o :: (ne ++ es))) := ((List.perm_append_comm).cons _).cons _
 exact h.trans ((List.Perm.swap _ _ _).cons _ |>.trans (List.Perm.swap _ _ _))
theorem RdDoc.lenN {w : World} {d : MDoc} {cs : List Value} (h : RdDoc w d cs) : cs.length = 75 := by
 obtain ⟨cf, eg, sj, nt, h1, h2, h3, h4, rfl⟩ := h
 exact docL_len h1.len h3.len
set_option maxRecDepth 20000 in
set_option maxHeartbeats 12800000 in
theorem manifestNeeds_any (D : MDoc) (cs : List Value) (w : World) (hL : MLibs w.heap.size w) (hD : RdDoc w D cs) (hwD : dcW D ≤ 1048576) :
  Calls Tryz.prog 7 #[.agg cs.toArray] w fun e w' => e = .returned (.bool true) ∧ Below w.heap.size w w' := by
 have hcl := box hD.lenN
 have hmb := box (dc_mb hwD)
 have hsm0 := dc_sm hwD
 have hto := box (fun w' (hb : Below w.heap.size w w') => To_any D cs w' (hD.on hb) hmb.out)
 have hpn := box (fun (ca : List Value) (w' : World) h => pneeds_any D ca w' h hsm0)
 have hrn := box (fun (w' : World) (hb : Below w.heap.size w w') => rneeds_any D cs w' (hD.on hb) hsm0.2.2.2.1.1)
 have hrd := box (fun (w' : World) (hb : Below w.heap.size w w') => hD.on hb)
 have haw := box (fun (w' : World) (hb : Below w.heap.size w w') => mawake_any w' w.heap.size hb.size (hL.on hb))
 have hn6' : (mNeeds D).length ≤ 1048576 := by
  have := hsm0.2.2.2.1.1
  unfold mNeeds
  rw [List.length_append]
  split <;> simp <;> omega
 have hsm' : ∀ x ∈ mNeeds D, x.notes.length ≤ 1000000 := fun x hx => by
  unfold mNeeds at hx
  rcases List.mem_append.1 hx with hx | hx
  ·split at hx
   ·rw [List.mem_singleton.1 hx]; exact hsm0.2.2.1.2.1
   ·cases hx
  ·exact (hsm0.2.2.2.1.2 x hx).2.1
 obtain ⟨ds, hds⟩ : ∃ ds, ds = mNeeds D := ⟨_, rfl⟩
 rw [← hds] at hpn hrn hn6' hsm'
 have hn6 := box hn6'
 have hsm := box hsm'
 have hns := box (fun x hx => Nat.le_trans (hsm' x hx) (by decide) : ∀ x ∈ ds, x.notes.length ≤ 1048576)
 clear hds hD hsm0 hwD hsm' hL
 have hF0 := Fr.nil w
 go_enter Tryz.func7, Tryz.ntmps7
 go_wp2_with (first | ((with_reducible refine lst (by with_unfolding_all rfl) (wp_fbox hF0 (cs := cs) rfl (by with_unfolding_all rfl) (by with_unfolding_all rfl) ?_)); intro w1 g1 hF1 hz1) | (with_reducible refine lst (by with_unfolding_all rfl) (wp_fldA0 hF1 Tryz.underlying40 rfl (by with_unfolding_all exact ⟨_, rfl, rfl⟩) (ds := cs) (by rw [hcl.out]; kernel_rfl) (take_all _) ?_)))
 refine (hto.out _ hF1.below).mono ?_
 rintro e w5 ⟨cs2, es2, rfl, hvd2, h2⟩
 have hF2 := hF1.joinR h2
 simp only [List.cons_append] at hF2
 have hvl2 := box hvd2.len
 have hvo2 := box hvd2.ones
 have hvd := box hvd2
 clear hto h2 hF1 hF0 hvd2
 go_upto_region 2 with (first | ((with_reducible refine lst (by with_unfolding_all rfl) (wp_falloc hF2 (cs := doc0) (z := .agg (List.toArray (doc0))) rfl (by kernel_rfl) (by with_unfolding_all rfl) ?_)); intro w6 g6 hF6 hz6) | ((with_reducible refine lst (by with_unfolding_all rfl) (wp_fstA0 hF6 (by with_unfolding_all exact ⟨_, _, rfl, rfl, rfl⟩) (by rw [hvl2.out]; kernel_rfl) hvo2.out (by rw [hvl2.out]; decide) (spl_all (by rw [hvl2.out, doc0_len])) ?_)); intro w2 hF2 hz2))
 clear hF6
 have hrd2 := hvd.out.rdDoc hF2 (by intro e he; simp [he])
 have hfr := box (fun (w' : World) (es' : List Ent) (hF : Fr [] w w' es') (hs : ∀ e ∈ es2, e ∈ es') => From_any D cs2 w' (hvd.out.rdDoc hF hs) hmb.out)
 go_wp2_with (first | (with_reducible refine lst (by with_unfolding_all rfl) (wp_fldA0 hF2 Tryz.underlying31 rfl (by with_unfolding_all exact ⟨_, rfl, rfl⟩) (ds := cs2) (by rw [hvl2.out]; kernel_rfl) (take_all _) ?_)))
 refine (hpn.out cs2 _ hrd2).mono ?_
 rintro e w3 ⟨A3, n3, c3, xs3, NE3, rfl, hn3', hc3, hNL', h3⟩
 have hF3 := (hF2.joinR h3).perm (fperm _ _ _ _ _)
 have hn3 := box hn3'
 have hn3b : n3 ≤ 1048576 := by rw [hn3']; exact hn6.out
 have hNL := box hNL'
 have hbk := box (fun (w' : World) (es' : List Ent) (hF : Fr [] w w' es') (h0 : es'[0]? = some (.own w2.heap.size 28 35 (.slice A3 n3 c3) n3 xs3)) (hs : ∀ e ∈ NE3, e ∈ es') => backDescs_any A3 n3 c3 ds xs3 w' hn3.out (by rw [hn3.out]; exact hn6.out) (hF.rdOwn h0) (hNL.out.elems hsm.out hF hs))
 clear hpn hn3' hNL' h3 hF2 hrd2 hvd
 go_upto_region 3 with fail
 have hFd := hF3.drew
 clear hF3
 refine wp_region_held (S := fun w' => w'.heap[g6]? = some (.cells (List.toArray cs2) 31 (0, 0)) ∧ w'.heap[g1]? = some (.cells (List.toArray cs) 40 (0, 0))) (by kernel_rfl) ?_
 change wpAnyH _ _ _ _ _ _ _ _ (World.drew _)
 refine tkp 0 ⟨hFd.blk (i := 1) rfl, hFd.blk (i := 2) rfl⟩ ?_
 (try simp only [Act.put, List.setIfInBounds_toArray, List.set_cons_zero, List.set_cons_succ])
 refine tky 2 (y := yi_fldA (by with_unfolding_all rfl) (fun _ h => h.2) Tryz.underlying40 rfl (by with_unfolding_all exact ⟨_, rfl, rfl⟩) (ds := cs) (by rw [hcl.out]; kernel_rfl) (take_all _)) (s := ⟨hFd.blk (i := 1) rfl, hFd.blk (i := 2) rfl⟩) (h := ?_)
 (try simp only [Act.put, List.setIfInBounds_toArray, List.set_cons_zero, List.set_cons_succ])
 refine rdy1 1 (fun K hK => ?_)
 refine stp (by with_unfolding_all rfl) (wp_call Tryz.func26 rfl (by with_unfolding_all rfl) (by with_unfolding_all rfl) (by with_unfolding_all rfl) (hbk.out _ _ hFd rfl (by intro e he; simp [he])) ?_)
 rintro e w21 ⟨eg21, es21, rfl, hve21, hv21⟩
 refine ⟨_, rfl, ?_⟩
 have hF21 := hFd.joinR hv21
 simp only [List.cons_append] at hF21
 replace hve21 := box hve21
 refine hK.out _ _ (⟨hF21.blk (i := 1) rfl, hF21.blk (i := 2) rfl⟩) (fun _ => ?_)
 clear hK K
 (try simp only [Act.put, List.setIfInBounds_toArray, List.set_cons_zero, List.set_cons_succ])
 refine rdy1 3 (fun K hK => ?_)
 refine stp (by with_unfolding_all rfl) (wp_call Tryz.func27 rfl (by with_unfolding_all rfl) (by with_unfolding_all rfl) (by with_unfolding_all rfl) (hrn.out _ hF21.below) ?_)
 rintro e w22 ⟨v22, rfl, hrd22, hb22⟩
 refine ⟨_, rfl, ?_⟩
 have hF22 := hF21.call hb22
 replace hrd22 := box hrd22
 refine hK.out _ _ (⟨hF22.blk (i := 1) rfl, hF22.blk (i := 2) rfl⟩) (fun _ => ?_)
 clear hK K
 (try simp only [Act.put, List.setIfInBounds_toArray, List.set_cons_zero, List.set_cons_succ])
 refine rdy1 4 (fun K hK => ?_)
 refine stp (by with_unfolding_all rfl) (wp_call Tryz.func25 rfl (by with_unfolding_all rfl) (by with_unfolding_all rfl) (by with_unfolding_all rfl) (sameDescs_any ds _ _ _ hn6.out hns.out (hve21.out.rdE hF22 (by intro e he; simp [he])) hrd22.out) ?_)
 rintro e w23 ⟨rfl, hb23⟩
 refine ⟨_, rfl, ?_⟩
 have hF23 := hF22.call hb23
 refine hK.out _ _ (⟨hF23.blk (i := 1) rfl, hF23.blk (i := 2) rfl⟩) (fun _ => ?_)
 clear hK K
 (try simp only [Act.put, List.setIfInBounds_toArray, List.set_cons_zero, List.set_cons_succ])
 refine tkp 5 ⟨hF23.blk (i := 1) rfl, hF23.blk (i := 2) rfl⟩ ?_
 (try simp only [Act.put, List.setIfInBounds_toArray, List.set_cons_zero])
 refine wpAnyH_done (by kernel_rfl) ?_ _
 have hF30 := hF23.sub (es' := .own w2.heap.size 28 35 (.slice A3 n3 c3) n3 xs3 :: .blk g6 31 cs2 :: .blk g1 40 cs :: (NE3 ++ es2)) (by simp)
 clear hbk hrn hFd
 go_wp2_with fail
 go_loopg [19] n3 (fun gk iv wr => ∃ (i : Nat) (ys : List Value) (NE : List Ent), i ≤ n3 ∧ Box (gk = n3 - i) ∧ iv = .int .i64 (i : Int) ∧ Box (ys.length = n3 * 35 ∧ ys.drop (i * 35) = xs3.drop (i * 35)) ∧ Box (NO w2.heap.size ds xs3 NE) ∧ Fr [] w wr (.own w2.heap.size 28 35 (.slice A3 n3 c3) n3 ys :: .blk g6 31 cs2 :: .blk g1 40 cs :: (NE ++ es2)))
 case atStart => exact ⟨0, xs3, NE3, by omega, box rfl, rfl, box ⟨by rw [hNL.out.lens.1, ← hn3.out], rfl⟩, box hNL.out.no, hF30⟩
 case round =>
  clear hF30
  obtain ⟨i, ys, NE, hi2, hgi, rfl, hys, hNO, hF⟩ := hrel
  have hkk : Box (_ = n3 - i) := hgi
  clear hgi
  by_cases hlt : i < n3
  ·obtain ⟨x, hx⟩ : ∃ x, ds[i]? = some x := ⟨ds[i]'(by rw [← hn3.out]; exact hlt), by simp⟩
   obtain ⟨A1, k1, c1, zs, hce, hk1', hen⟩ := hNO.out i x hx
   have hk1 : k1 ≤ 1000000 := by rw [hk1']; exact hsm.out x (List.mem_of_getElem? hx)
   have hcell : Box (ys[i * 35 + 34]? = some (.slice A1 k1 c1)) := box (by rw [drop_at hys.out.2 (by omega)]; exact hce)
   have hen' : Box (∃ zs, NE[i]? = some (.own w2.heap.size 70 2 (.slice A1 k1 c1) k1 zs)) := box ⟨zs, hen⟩
   clear hx hce hk1' hen zs
   go_wp2_with (first | (with_reducible refine lst (by with_unfolding_all rfl) (wp_indexAddr T_descs (hF.rdOwn (i := 0) rfl) (by with_unfolding_all exact ⟨_, _, _, _, rfl, rfl, rfl⟩) (by omega) (by omega) ?_)) | (with_reducible refine lst (by with_unfolding_all rfl) (wp_load1C (j := i * 35 + 34) (hF.rdOwn (i := 0) rfl) hcell Tryz.underlying26 rfl (by with_unfolding_all exact ⟨_, rfl, congrArg (fun p => Value.pointer (some p)) (atp_fld A3 (i * 35) 34 (by decide))⟩) rfl ?_)))
   go_loopg [28] k1 (fun gk iv wr => ∃ (k : Nat) (NE' : List Ent), k ≤ k1 ∧ Box (gk = k1 - k) ∧ iv = .int .i64 (k : Int) ∧ Box (NO w2.heap.size ds xs3 NE') ∧ Box (∃ zs, NE'[i]? = some (.own w2.heap.size 70 2 (.slice A1 k1 c1) k1 zs)) ∧ Fr [] w wr (.own w2.heap.size 28 35 (.slice A3 n3 c3) n3 ys :: .blk g6 31 cs2 :: .blk g1 40 cs :: (NE' ++ es2)))
   case atStart => exact ⟨0, NE, by omega, box rfl, rfl, hNO, hen', hF⟩
   case round =>
    clear hF hen' hNO
    obtain ⟨k, NE', hk2, hgk, rfl, hNO', hen', hF⟩ := hrel
    have hkk2 : Box (_ = k1 - k) := hgk
    clear hgk
    by_cases hlk : k < k1
    ·obtain ⟨zs, hz⟩ := hen'.out
     have hil : i < NE'.length := (List.getElem?_eq_some_iff.1 hz).1
     have hzb : Box ((.own w2.heap.size 28 35 (.slice A3 n3 c3) n3 ys :: .blk g6 31 cs2 :: .blk g1 40 cs :: (NE' ++ es2))[i + 3]? = some (.own w2.heap.size 70 2 (.slice A1 k1 c1) k1 zs)) := box (by
      show (NE' ++ es2)[i]? = _
      rw [List.getElem?_append_left hil]
      exact hz)
     have hset := box (fun (e : Ent) => (by
      show _ :: _ :: _ :: (NE' ++ es2).set i e = _
      rw [List.set_append_left _ _ hil] : (.own w2.heap.size 28 35 (.slice A3 n3 c3) n3 ys :: .blk g6 31 cs2 :: .blk g1 40 cs :: (NE' ++ es2)).set (i + 3) e = .own w2.heap.size 28 35 (.slice A3 n3 c3) n3 ys :: .blk g6 31 cs2 :: .blk g1 40 cs :: (NE'.set i e ++ es2)))
     have hNO2 := box (fun zs' => hNO'.out.set zs' hz)
     have hen2 := box (fun zs' => (⟨zs', by rw [List.getElem?_set_self hil]⟩ : ∃ z, (NE'.set i (.own w2.heap.size 70 2 (.slice A1 k1 c1) k1 zs'))[i]? = some (.own w2.heap.size 70 2 (.slice A1 k1 c1) k1 z)))
     clear hz hil hen' hNO'
     go_wp2_with (first | (with_reducible refine lst (by with_unfolding_all rfl) (wp_indexAddr T_descs (hF.rdOwn (i := 0) rfl) (by with_unfolding_all exact ⟨_, _, _, _, rfl, rfl, rfl⟩) (by omega) (by omega) ?_)) | (with_reducible refine lst (by with_unfolding_all rfl) (wp_load1C (j := i * 35 + 34) (hF.rdOwn (i := 0) rfl) hcell Tryz.underlying26 rfl (by with_unfolding_all exact ⟨_, rfl, congrArg (fun p => Value.pointer (some p)) (atp_fld A3 (i * 35) 34 (by decide))⟩) rfl ?_)) | (with_reducible refine lst (by with_unfolding_all rfl) (wp_fbuild Tryz.underlying70 (z := .agg (List.toArray nt0)) (by kernel_rfl) (pl := ntP) (by kernel_rfl) (cs := (ntL ⟨[101,108,115,101], []⟩)) rfl (vs := [(0, .string ⟨#[101,108,115,101]⟩)]) (by with_unfolding_all rfl) (by with_unfolding_all rfl) ?_)) | (with_reducible refine lst (by with_unfolding_all rfl) (wp_indexAddr T_notes (hF.rdOwn (i := i + 3) hzb.out) (by with_unfolding_all exact ⟨_, _, _, _, rfl, rfl, rfl⟩) (by omega) (by omega) ?_)) | ((with_reducible refine lst (by with_unfolding_all rfl) (wp_fstX hF (i := i + 3) hzb.out (j := k * 2) (ds := ntL ⟨[101,108,115,101], []⟩) (by decide) (by rw [ntL_len]; omega) (by with_unfolding_all exact ⟨_, _, rfl, rfl, rfl⟩) (by kernel_rfl) (ntL_one _) ?_)); intro w40 hF40 hz40))
     rw [hset.out] at hF40
     clear hF
     go_roundg (k1 - (k + 1))
     case rel => exact ⟨k + 1, _, by omega, box rfl, by go_num, box (hNO2.out _), box (hen2.out _), hF40⟩
     case measure => have := hkk2.out; omega
    ·obtain rfl : k = k1 := by omega
     clear hen'
     go_wp2_with (first | (with_reducible refine lst (by with_unfolding_all rfl) (wp_fbuild Tryz.underlying28 (z := .agg (List.toArray ds0)) (by kernel_rfl) (pl := dsP) (by kernel_rfl) (cs := ds0) rfl (vs := []) (by with_unfolding_all rfl) (by with_unfolding_all rfl) ?_)) | (with_reducible refine lst (by with_unfolding_all rfl) (wp_indexAddr T_descs (hF.rdOwn (i := 0) rfl) (by with_unfolding_all exact ⟨_, _, _, _, rfl, rfl, rfl⟩) (by omega) (by omega) ?_)) | ((with_reducible refine lst (by with_unfolding_all rfl) (wp_fstX hF (i := 0) rfl (j := i * 35) (ds := ds0) (by decide) (by rw [ds0_len]; omega) (by with_unfolding_all exact ⟨_, _, rfl, rfl, rfl⟩) (by kernel_rfl) ds0_one ?_)); intro w40 hF40 hz40; simp only [List.set_cons_zero] at hF40))
     clear hF
     go_roundg (n3 - (i + 1))
     case rel => exact ⟨i + 1, _, NE', by omega, box rfl, by go_num, box ⟨by rw [spl_length (by rw [hys.out.1, ds0_len]; omega)]; exact hys.out.1, by rw [spl_dropN (by rw [ds0_len]; omega) (by rw [hys.out.1]; omega)]; exact drop_more hys.out.2 (by omega)⟩, hNO', hF40⟩
     case measure => have := hkk.out; omega
  ·obtain rfl : i = n3 := by omega
   clear hys hNO
   have hF50 := hF.tail.sub (es' := .blk g6 31 cs2 :: .blk g1 40 cs :: es2) (by simp)
   clear hF
   go_upto_region 14 with fail
   have hFd := hF50.drew
   clear hF50
   refine wp_region_held (S := fun w' => w'.heap[g6]? = some (.cells (List.toArray cs2) 31 (0, 0)) ∧ w'.heap[g1]? = some (.cells (List.toArray cs) 40 (0, 0))) (by kernel_rfl) ?_
   change wpAnyH _ _ _ _ _ _ _ _ (World.drew _)
   refine rdy1 0 (fun K hK => ?_)
   refine stp (by with_unfolding_all rfl) (wp_call Tryz.func13 rfl (by with_unfolding_all rfl) (by with_unfolding_all rfl) (by with_unfolding_all rfl) (haw.out _ hFd.below) ?_)
   rintro e w61 ⟨rfl, hb61⟩
   refine ⟨_, rfl, ?_⟩
   have hF61 := hFd.call hb61
   refine hK.out _ _ (⟨hF61.blk (i := 0) rfl, hF61.blk (i := 1) rfl⟩) (fun _ => ?_)
   clear hK K
   (try simp only [Act.put, List.setIfInBounds_toArray, List.set_cons_zero, List.set_cons_succ])
   refine tkp 1 ⟨hF61.blk (i := 0) rfl, hF61.blk (i := 1) rfl⟩ ?_
   (try simp only [Act.put, List.setIfInBounds_toArray, List.set_cons_zero, List.set_cons_succ])
   refine tkp 2 ⟨hF61.blk (i := 0) rfl, hF61.blk (i := 1) rfl⟩ ?_
   (try simp only [Act.put, List.setIfInBounds_toArray, List.set_cons_zero, List.set_cons_succ])
   refine tkp 3 ⟨hF61.blk (i := 0) rfl, hF61.blk (i := 1) rfl⟩ ?_
   (try simp only [Act.put, List.setIfInBounds_toArray, List.set_cons_zero, List.set_cons_succ])
   refine tkp 4 ⟨hF61.blk (i := 0) rfl, hF61.blk (i := 1) rfl⟩ ?_
   (try simp only [Act.put, List.setIfInBounds_toArray, List.set_cons_zero, List.set_cons_succ])
   refine tky 5 (y := yi_fldA (by with_unfolding_all rfl) (fun _ h => h.1) Tryz.underlying31 rfl (by with_unfolding_all exact ⟨_, rfl, rfl⟩) (ds := cs2) (by rw [hvl2.out]; kernel_rfl) (take_all _)) (s := ⟨hF61.blk (i := 0) rfl, hF61.blk (i := 1) rfl⟩) (h := ?_)
   (try simp only [Act.put, List.setIfInBounds_toArray, List.set_cons_zero, List.set_cons_succ])
   refine tky 7 (y := yi_fldA (by with_unfolding_all rfl) (fun _ h => h.2) Tryz.underlying40 rfl (by with_unfolding_all exact ⟨_, rfl, rfl⟩) (ds := cs) (by rw [hcl.out]; kernel_rfl) (take_all _)) (s := ⟨hF61.blk (i := 0) rfl, hF61.blk (i := 1) rfl⟩) (h := ?_)
   (try simp only [Act.put, List.setIfInBounds_toArray, List.set_cons_zero, List.set_cons_succ])
   refine rdy1 6 (fun K hK => ?_)
   refine stp (by with_unfolding_all rfl) (wp_call Tryz.func15 rfl (by with_unfolding_all rfl) (by with_unfolding_all rfl) (by with_unfolding_all rfl) (hfr.out _ _ hF61 (by intro e he; simp [he])) ?_)
   rintro e w62 ⟨cs62, es62, rfl, hvt62, hv62⟩
   refine ⟨_, rfl, ?_⟩
   have hF62 := hF61.joinR hv62
   simp only [List.cons_append] at hF62
   refine hK.out _ _ (⟨hF62.blk (i := 0) rfl, hF62.blk (i := 1) rfl⟩) (fun _ => ?_)
   clear hK K
   (try simp only [Act.put, List.setIfInBounds_toArray, List.set_cons_zero, List.set_cons_succ])
   refine rdy1 8 (fun K hK => ?_)
   refine stp (by with_unfolding_all rfl) (wp_call Tryz.func14 rfl (by with_unfolding_all rfl) (by with_unfolding_all rfl) (by with_unfolding_all rfl) (msame_any D _ _ _ hmb.out (hvt62.rdDoc hF62 (by intro e he; simp [he])) (hrd.out _ hF62.below)) ?_)
   rintro e w63 ⟨rfl, hb63⟩
   refine ⟨_, rfl, ?_⟩
   have hF63 := hF62.call hb63
   refine hK.out _ _ (⟨hF63.blk (i := 0) rfl, hF63.blk (i := 1) rfl⟩) (fun _ => ?_)
   clear hK K
   (try simp only [Act.put, List.setIfInBounds_toArray, List.set_cons_zero, List.set_cons_succ])
   refine tkp 9 ⟨hF63.blk (i := 0) rfl, hF63.blk (i := 1) rfl⟩ ?_
   (try simp only [Act.put, List.setIfInBounds_toArray, List.set_cons_zero, List.set_cons_succ])
   refine tkp 10 ⟨hF63.blk (i := 0) rfl, hF63.blk (i := 1) rfl⟩ ?_
   (try simp only [Act.put, List.setIfInBounds_toArray, List.set_cons_zero])
   refine wpAnyH_done (by kernel_rfl) ?_ _
   go_wp2_with fail
   go_ret
   exact ⟨rfl, hF63.below⟩
end Go.Proofs.YtlhicfpmlncomaaGreatDoor

namespace Go.Proofs.YtlhicfpmlncomaaGreatDoor
open Go.RowKit Go.Lib
theorem cell_old {w w' : World} (hb : Below w.heap.size w w') {a : Addr} {v : Value} (h : w.cell? a = some v) : w'.cell? a = some v := by
 have hlt : a.block < w.heap.size := by
  rcases Nat.lt_or_ge a.block w.heap.size with h' | h'
  ·exact h'
  ·exfalso
   unfold World.cell? at h
   rw [Array.getElem?_eq_none h'] at h
   cases h
 rw [← h]
 exact World.cell?_of_block (w := w) (hb.block _ hlt)
theorem var_old {P : Program} {w w' : World} (hb : Below w.heap.size w w') {n : String} {cs : Array Value} (h : w.var? P n = some cs) : w'.var? P n = some cs := by
 unfold World.var? at *
 cases hg : P.globalNamed n with
 | none => simp [hg] at h
 | some g =>
  simp only [hg, Option.bind_some] at h ⊢
  have hlt : g < w.heap.size := by
   rcases Nat.lt_or_ge g w.heap.size with h' | h'
   ·exact h'
   ·rw [Array.getElem?_eq_none h'] at h; simp at h
  rw [hb.block g hlt]
  exact h
theorem first_eq : Rows.laid_unicode_utf8_first = firstData := by kernel_rfl
theorem accept_eq : (Rows.laid_unicode_utf8_acceptRanges : DataW Unit) = acceptData := by kernel_rfl
theorem pow_eq : (Rows.laid_internal_strconv_uint64pow10 : DataW Unit) = tabData .u64 pow10Tab := by kernel_rfl
theorem star_errs : "*" ++ "errors.errorString" = "*errors.errorString" := by decide
theorem row_errs (u : TypeId) (h : Tryz.prog.typeName? 3 u = some "*errors.errorString") : u = 254 :=
 typeName_ptr_named (nm := "errors.errorString") (by rw [star_errs]; kernel_rfl) (by kernel_rfl) (by decide) u (by rw [star_errs]; exact h)
theorem row_ints : Tryz.prog.globalNamed "errors.errorType" = some 0 := by kernel_rfl
theorem row_rt : (Tryz.prog.cutTypes.find? (·.1 == "internal/reflectlite.rtype")).map (·.2) = some 177 := by kernel_rfl
theorem row_err : ((List.range Tryz.prog.types.size).filter fun t => Tryz.prog.rowNamed t [101, 114, 114, 111, 114]) = [80] := by kernel_rfl
theorem row_handle : typeHandle Tryz.prog 80 = .pointer (some ⟨9, 80, none⟩) := by kernel_rfl
/-- The listed variables that are no handles. -/
def mPlain : List (String × DataW Unit) := [("math/bits.deBruijn32tab", Rows.laid_math_bits_deBruijn32tab), ("math/bits.deBruijn64tab", Rows.laid_math_bits_deBruijn64tab), ("internal/strconv.uint64pow10", Rows.laid_internal_strconv_uint64pow10), ("unicode/utf8.acceptRanges", Rows.laid_unicode_utf8_acceptRanges), ("strconv.ErrRange", Rows.laid_strconv_ErrRange), ("strconv.ErrSyntax", Rows.laid_strconv_ErrSyntax), ("unicode/utf8.first", Rows.laid_unicode_utf8_first)]
theorem laid_both (W : World) (h : laidMetH Tryz.prog Rows.manifestReadsUptoRow.laid W) : laidMet Tryz.prog mPlain W ∧ handlesMet Tryz.prog [("errors.errorType", Rows.laid_errors_errorType)] W := h
theorem handle_of (W : World) (h : handlesMet Tryz.prog [("errors.errorType", Rows.laid_errors_errorType)] W) : W.cell? ⟨0, 0, none⟩ = some (.iface 177 (.agg #[.pointer (some ⟨9, 80, none⟩)])) := by
 obtain ⟨name, u, ty, e1, e2, e3, e4, e5⟩ := h _ (List.mem_singleton.2 rfl)
 have en : name = [101, 114, 114, 111, 114] := (Option.some.inj e1).symm
 subst en
 obtain rfl := Option.some.inj (row_rt.symm.trans e2)
 have hm : ty ∈ (List.range Tryz.prog.types.size).filter fun t => Tryz.prog.rowNamed t [101, 114, 114, 111, 114] := List.mem_filter.2 ⟨List.mem_range.2 e3, e4⟩
 rw [row_err] at hm
 obtain rfl := List.mem_singleton.1 hm
 rw [row_handle] at e5
 simpa using World.var?_cell row_ints e5 0
theorem maxW_of {w : World} (h : w.ShapedOpen Tryz.prog) : MaxW w := Go.Proofs.cell_of_shapedOpen_int (zero := #[.int .i64 0]) (t := 3) h (of_decide_eq_true (by kernel_rfl)) (by kernel_rfl) rfl (by kernel_rfl) (by kernel_rfl) Tryz.underlying3
theorem libs_of (W : World) (hL : laidMet Tryz.prog mPlain W) : LibsAt W.heap.size W := by
 have hL2 : laidMet Tryz.prog [("math/bits.deBruijn32tab", Rows.laid_math_bits_deBruijn32tab), ("math/bits.deBruijn64tab", Rows.laid_math_bits_deBruijn64tab), ("internal/strconv.uint64pow10", Rows.laid_internal_strconv_uint64pow10), ("unicode/utf8.acceptRanges", Rows.laid_unicode_utf8_acceptRanges), ("strconv.ErrRange", Rows.laid_strconv_ErrRange), ("strconv.ErrSyntax", Rows.laid_strconv_ErrSyntax), ("unicode/utf8.first", Rows.laid_unicode_utf8_first)] W := hL
 rw [first_eq, accept_eq, pow_eq] at hL2
 have hU : U8Tabs W := utf8Tabs_of_readsT (U8Types.of196 Tryz.laysValid) ⟨by kernel_rfl, by kernel_rfl, by kernel_rfl, by kernel_rfl, by kernel_rfl, by kernel_rfl, by kernel_rfl⟩ (laidMet.reads hL2 (by simp)) (laidMet.reads hL2 (by simp))
 have hP : TabIs Tryz.prog W "internal/strconv.uint64pow10" .u64 pow10Tab := tabIs_of_head (g := 6) (by kernel_rfl) (by kernel_rfl) (t := 249) Tryz.underlying249 Tryz.underlying224 (by kernel_rfl) (by kernel_rfl) hL2.tail.tail
 obtain ⟨a1, s1, hv1, _⟩ := laid_sentinel (g := 5) hL2.tail.tail.tail.tail (by kernel_rfl) (by kernel_rfl) Tryz.underlying80 row_errs Tryz.underlying254 Tryz.underlying256 rfl rfl Tryz.underlying9 (by kernel_rfl) (by kernel_rfl)
 obtain ⟨a2, s2, hv2, _⟩ := laid_sentinel (g := 4) hL2.tail.tail.tail.tail.tail (by kernel_rfl) (by kernel_rfl) Tryz.underlying80 row_errs Tryz.underlying254 Tryz.underlying256 rfl rfl Tryz.underlying9 (by kernel_rfl) (by kernel_rfl)
 exact ⟨fun w' hb => ⟨fun c hc => cell_old hb (hU.1 c hc), fun i hi => ⟨cell_old hb (hU.2 i hi).1, cell_old hb (hU.2 i hi).2⟩⟩, tabBelow_of_tabIs hP, ⟨_, _, fun w' hb => var_old hb hv2⟩, ⟨_, _, fun w' hb => var_old hb hv1⟩⟩
/-- What the walks ask for. -/
theorem mlibs_of (W : World) (hs : W.ShapedOpen Tryz.prog) (h : laidMetH Tryz.prog Rows.manifestReadsUptoRow.laid W) : MLibs W.heap.size W := by
 obtain ⟨h1, h2⟩ := laid_both W h
 exact ⟨libs_of W h1, fun w' hb => by
  obtain ⟨m, hm⟩ := maxW_of hs
  exact ⟨m, cell_old hb hm⟩, fun w' hb => cell_old hb (handle_of W h2)⟩
/-- A world that meets the condition: the handle, then the plain data laid. -/
noncomputable def mWorld0 (os : Os) : World :=
 let w0 := World.holding Tryz.prog os ⟨#[], #[], []⟩
 { w0 with heap := w0.heap.modify 0 fun
   | .cells _ t frozen => .cells #[.iface 177 (.agg #[.pointer (some ⟨9, 80, none⟩)])] t frozen
   | o => o }
noncomputable def mWorld (os : Os) : World := (mWorld0 os).layVars Tryz.prog mPlain
theorem mWorld_plain (os : Os) : laidMet Tryz.prog mPlain (mWorld os) := by
 have e1 : (mPlain.filter fun x => (mPlain.map (·.1)).contains x.1) = mPlain := List.filter_eq_self.2 fun x hx => List.contains_iff_mem.2 (List.mem_map.2 ⟨x, hx, rfl⟩)
 have e2 : (mPlain.filter fun x => !(mPlain.map (·.1)).contains x.1) = [] := List.filter_eq_nil_iff.2 fun x hx => by rw [List.contains_iff_mem.2 (List.mem_map.2 ⟨x, hx, rfl⟩)]; simp
 exact laidMet_layVars (w0 := mWorld0 os) (mPlain.map (·.1)) [] (by rw [e1]; rfl) (by rw [e1]; kernel_rfl) (by rw [e1]; kernel_rfl) (by rw [e2]; exact LaidIn.none)
theorem mWorld_met (os : Os) (args : Array Value) : laidMetH Tryz.prog Rows.manifestReadsUptoRow.laid ((mWorld os).forCall (fun _ _ => 0) ⟨#[], args, []⟩).memory :=
 laidMetH_of_parts (show laidMet Tryz.prog mPlain _ from (mWorld_plain os).of_heap (by simp [World.memory, World.forCall, Input.heap])) (by kernel_rfl)
theorem mWorld_os (os : Os) : (mWorld os).os = os := World.layVars_os _ _ _
end Go.Proofs.YtlhicfpmlncomaaGreatDoor
