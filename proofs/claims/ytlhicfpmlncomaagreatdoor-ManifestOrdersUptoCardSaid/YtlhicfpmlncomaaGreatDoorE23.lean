/-
 Layer 8: the law ManifestOrders, walked.
 Layer 8: what the rows' listed variables hold, in the walks' words; a world that holds it.
-/
import Derived.Test.YtlhicfpmlncomaaGreatDoorE18
import Derived.Test.YtlhicfpmlncomaaGreatDoorE02
import Derived.Test.YtlhicfpmlncomaaGreatDoorE22
import Derived.Test.YtlhicfpmlncomaaGreatDoorE13
import Derived.Test.YtlhicfpmlncomaaGreatDoorRows
import Derived.Lib.LaidU8T
import Derived.Stop.LaidErr
import Derived.Lib.LaidTab
import Derived.MakeChecks
import Derived.LaidLaws
import Derived.LaidHandle
import Derived.LaidMore
import Derived.Lay
import Derived.Shelf.Vars
namespace Go.Proofs.YtlhicfpmlncomaaGreatDoor
open Go.RowKit
set_option linter.unusedSimpArgs false
set_option linter.unusedVariables false
theorem T_ordI : SlT Tryz.prog 57 3 1 8 (.int .i64 0) := ⟨Tryz.underlying57, by kernel_rfl, rfl, by decide⟩
theorem u_modV (x : Int) (m : Nat) (h0 : 0 < m) (h : m ≤ 5000) : (IntKind.u64.wrap (m : Int)) ≠ 0 ∧ ∃ b : Nat, b < m ∧ IntKind.i64.wrap ((IntKind.u64.wrap x).tmod (IntKind.u64.wrap (m : Int))) = (b : Int) := by
 have hm : IntKind.u64.wrap (m : Int) = (m : Int) := by
  simp only [IntKind.wrap, IntKind.bits, IntKind.signed]
  simp
  omega
 have h1 : 0 ≤ IntKind.u64.wrap x := by
  simp only [IntKind.wrap, IntKind.bits, IntKind.signed]
  simp
  omega
 have h2 : 0 ≤ (IntKind.u64.wrap x).tmod (m : Int) := Int.tmod_nonneg _ h1
 have h3 : (IntKind.u64.wrap x).tmod (m : Int) < m := Int.tmod_lt_of_pos _ (by omega)
 rw [hm]
 refine ⟨by omega, ((IntKind.u64.wrap x).tmod (m : Int)).toNat, by omega, ?_⟩
 simp only [IntKind.wrap, IntKind.bits, IntKind.signed] at *
 simp at *
 omega
theorem i_mod (i m : Nat) (h0 : 0 < m) : ∃ a : Nat, a < m ∧ (i : Int).tmod (m : Int) = (a : Int) := by
 refine ⟨i % m, Nat.mod_lt _ h0, ?_⟩
 rw [Int.tmod_eq_emod_of_nonneg (by omega)]
 rfl
theorem tMems_pos (D : MDoc) : 0 < (tMems D).length := by
 unfold tMems
 simp only [List.length_append, List.length_cons]
 omega
theorem dcW_bareO (D : MDoc) : dcW (mBare D) ≤ dcW D := by
 have h0 : ∀ d : MDesc, 2 ≤ dsW d := fun d => by unfold dsW; omega
 have h1 : dsW (mBare D).config ≤ dsW D.config := by
  unfold mBare
  simp only []
  split
  ·exact h0 _
  ·exact Nat.le_refl _
 have h2 : dsW (mBare D).subject ≤ dsW D.subject := by
  unfold mBare
  simp only []
  split
  ·exact Nat.le_refl _
  ·exact h0 _
 have e : dcW (mBare D) = D.media.length + D.type.length + dsW (mBare D).config + (D.edges.map dsW).sum + dsW (mBare D).subject + (D.notes.map ntW).sum + 2 := rfl
 rw [e]
 unfold dcW
 omega
theorem jWrite_lenO {u : JV} {l : List UInt8} {f : Nat} (h : jWrite u = (l, f)) : l.length ≤ 65536 := by
 unfold jWrite at h
 split at h
 ·injection h with h1 h2; subst h1 h2; simp
 ·split at h
  ·injection h with h1 h2; subst h1 h2; simp
  ·injection h with h1 h2; subst h1 h2; omega
set_option maxRecDepth 20000 in
set_option maxHeartbeats 25600000 in
theorem manifestOrders_any (D : MDoc) (cs : List Value) (A0 : Option Addr) (no c0 : Nat) (zs : List Int) (w : World) (hL : MLibs w.heap.size w) (hD : RdDoc w D cs) (hwD : dcW D ≤ 1048576) (hzl' : zs.length = no) (hn6 : no ≤ 1048576) (hz : Rd w (· < w.heap.size) A0 1 no (zs.map (.int .i64))) :
  Calls Tryz.prog 5 #[.agg cs.toArray, .slice A0 no c0] w fun e w' => e = .returned (.bool true) ∧ Below w.heap.size w w' := by
 have hzl := box hzl'
 have hcl := box hD.len
 have hdig := hD.dig
 have hsm := dc_sm hwD
 have hbw : (fun D : MDoc => MB (mBare D)) D := dc_mb (Nat.le_trans (dcW_bareO D) hwD)
 have hri := box (fun (w' : World) (hb : Below w.heap.size w w') => rright_any D cs w' (hD.on hb) hsm)
 have hte := box (fun (w' : World) (hb : Below w.heap.size w w') => rtellO_any D cs w' (hD.on hb) hsm)
 have haw := box (fun (w' : World) (hb : Below w.heap.size w w') => mawake_any w' w.heap.size hb.size (hL.on hb))
 have hrb := box (fun (w' : World) (hb : Below w.heap.size w w') => rdbare_any D cs w' (hD.on hb))
 have hF0 := Fr.nil w
 by_cases hr : mRight D
 ·rw [decide_eq_true hr] at hri
  have hwk := box (fun (ms : List (List UInt8 × JV)) (hp : ms.Perm (tMems D)) => tell_okP hr hdig hwD hp)
  have hml := box (fun (ms : List (List UInt8 × JV)) (hp : ms.Perm (tMems D)) (l : List UInt8) (h : jWrite (jO ms) = (l, 0)) => mOrders hr hdig hp h)
  obtain ⟨nk, hnk⟩ : ∃ nk, nk = (tMems D).length := ⟨_, rfl⟩
  have hnk0 : 0 < nk := by rw [hnk]; exact tMems_pos D
  have hnk8 : nk ≤ 8 := by rw [hnk]; exact mems_len D
  replace hnk := box hnk
  obtain ⟨BD, hBD⟩ : ∃ BD, BD = mBare D := ⟨_, rfl⟩
  have hmbB : Box (MB BD) := box (by rw [hBD]; exact hbw)
  rw [← hBD] at hml hrb
  clear hr hdig hwD hbw hsm hzl' hBD hD
  go_enter Tryz.func5, Tryz.ntmps5
  go_wp2_with (first | ((with_reducible refine lst (by with_unfolding_all rfl) (wp_fbox hF0 (cs := cs) rfl (by with_unfolding_all rfl) (by with_unfolding_all rfl) ?_)); intro w1 g1 hF1 hz1))
  refine (haw.out _ hF1.below).mono ?_
  rintro e w2 ⟨rfl, hb2⟩
  have hF2 := hF1.call hb2
  clear hF0 hF1
  go_wp2_with (first | (with_reducible refine lst (by with_unfolding_all rfl) (wp_fldA0 hF2 Tryz.underlying40 rfl (by with_unfolding_all exact ⟨_, rfl, rfl⟩) (ds := cs) (by rw [hcl.out]; kernel_rfl) (take_all _) ?_)))
  refine (hri.out _ hF2.below).mono ?_
  rintro e w3 ⟨rfl, hb3⟩
  have hF3 := hF2.call hb3
  clear hF2 hri
  go_wp2_with (first | (with_reducible refine lst (by with_unfolding_all rfl) (wp_fldA0 hF3 Tryz.underlying40 rfl (by with_unfolding_all exact ⟨_, rfl, rfl⟩) (ds := cs) (by rw [hcl.out]; kernel_rfl) (take_all _) ?_)))
  refine (hte.out _ hF3.below).mono ?_
  rintro e w4 ⟨A, n4, c, B, m4, d, ys0, TE, rfl, ⟨hn4, hm4⟩, hnc4, hmd4, hT4, h4⟩
  rw [← hnk.out] at hn4 hm4
  obtain rfl : nk = n4 := hn4.symm
  obtain rfl : nk = m4 := hm4.symm
  clear hn4 hm4
  obtain ⟨b0, hb0⟩ : ∃ b, w3.heap.size = b := ⟨_, rfl⟩
  rw [hb0] at h4
  have hF4 := hF3.joinR h4
  simp only [List.cons_append, List.nil_append] at hF4
  have hP0 : Box ((tMems D).Perm (tMems D)) := box (List.Perm.refl _)
  have hK0 := box (KL.of hT4)
  have hBs := box (fun (h : 0 < nk) => (hF4.rdOwn (i := 2) rfl).some_ h)
  have hAs := box (fun (h : 0 < nk) => (hF4.rdOwn (i := 1) rfl).some_ h)
  replace hb0 := box hb0
  clear hte h4 hT4 hF3
  go_upto_block 0 with (first | ((with_reducible refine lst (by with_unfolding_all rfl) (wp_falloc hF4 (cs := vl0) (z := .agg (List.toArray (vl0))) rfl (by kernel_rfl) (by with_unfolding_all rfl) ?_)); intro w5 g5 hF5 hz5) | ((with_reducible refine lst (by with_unfolding_all rfl) (wp_fstA0 hF5 (by with_unfolding_all exact ⟨_, _, rfl, rfl, rfl⟩) (by rw [vlL_len]; kernel_rfl) vlL_one vlL_fit vlL_spl ?_)); intro w6 hF6 hz6))
  clear hF4 hF5
  go_cut [] (fun wx => ∃ (ms : List (List UInt8 × JV)) (ys : List Value), Box (ms.Perm (tMems D)) ∧ Box (KL ms ys TE) ∧ Fr [] w wx (.blk g5 51 (vlL 6 0 ⟨#[]⟩ (.slice A nk c) (.slice B nk d)) :: .blk g1 40 cs :: .own b0 9 1 (.slice A nk c) nk (nmL ms) :: .own b0 51 5 (.slice B nk d) nk ys :: TE))
  case first =>
   go_wp2_with fail
   go_loopg [26] no (fun gk iv wr => ∃ (i : Nat) (ms : List (List UInt8 × JV)) (ys : List Value), i ≤ no ∧ Box (gk = no - i) ∧ iv = .int .i64 (i : Int) ∧ Box (ms.Perm (tMems D)) ∧ Box (KL ms ys TE) ∧ Fr [] w wr (.blk g5 51 (vlL 6 0 ⟨#[]⟩ (.slice A nk c) (.slice B nk d)) :: .blk g1 40 cs :: .own b0 9 1 (.slice A nk c) nk (nmL ms) :: .own b0 51 5 (.slice B nk d) nk ys :: TE))
   case atStart => exact ⟨0, _, _, by omega, box rfl, rfl, hP0, hK0, hF6⟩
   case round =>
    clear hF6 hP0 hK0
    obtain ⟨i, ms, ys, hi2, hgi, rfl, hP, hK, hF⟩ := hrel
    have hkk : Box (_ = no - i) := hgi
    clear hgi
    by_cases hlt : i < no
    ·obtain ⟨z, hzi'⟩ : ∃ z, zs[i]? = some z := ⟨zs[i]'(by rw [hzl.out]; exact hlt), by simp⟩
     have hzi : Box ((zs.map (Value.int .i64))[i]? = some (.int .i64 z)) := box (by rw [List.getElem?_map, hzi']; rfl)
     have hz' := hz.below hF.below
     clear hzi'
     by_cases h50 : i < 50
     ·obtain ⟨hnz2', b, hb, hbe'⟩ := u_modV z nk hnk0 (by omega)
      obtain ⟨a, ha, hae'⟩ := i_mod i nk hnk0
      have hnz1 : Box ((nk : Int) ≠ 0) := box (by omega)
      have hnz2 := box hnz2'
      have hae := box hae'
      have hbe := box hbe'
      have hml2 : ms.length = nk := by rw [hP.out.length_eq]; exact hnk.out.symm
      obtain ⟨x, hx⟩ : ∃ x, ms[a]? = some x := ⟨ms[a]'(by rw [hml2]; exact ha), by simp⟩
      obtain ⟨y, hy⟩ : ∃ y, ms[b]? = some y := ⟨ms[b]'(by rw [hml2]; exact hb), by simp⟩
      obtain ⟨Ea, hEa, hva⟩ := hK.out.2 a x hx
      obtain ⟨Eb, hEb, hvb⟩ := hK.out.2 b y hy
      obtain ⟨ka, hka'⟩ : ∃ k, (ys.drop (a * 5)).take 5 = k := ⟨_, rfl⟩
      obtain ⟨kb, hkb'⟩ : ∃ k, (ys.drop (b * 5)).take 5 = k := ⟨_, rfl⟩
      rw [hka'] at hva
      rw [hkb'] at hvb
      have hka := box hka'
      have hkb := box hkb'
      have hkla := box hva.len
      have hklb := box hvb.len
      have hkoa := box hva.one
      have hkob := box hvb.one
      have hna : Box ((nmL ms)[a]? = some (strv x.1)) := box (nmL_at hx)
      have hnb : Box ((nmL ms)[b]? = some (strv y.1)) := box (nmL_at hy)
      have hK2 : Box (KL ((ms.set a y).set b x) (spl (spl ys (a * 5) kb) (b * 5) ka) TE) := box ((hK.out.set (by omega) hvb hEb).set (by rw [List.length_set]; omega) hva hEa)
      have hP2 : Box (((ms.set a y).set b x).Perm (tMems D)) := box ((swap_perm hx hy).trans hP.out)
      have hNM : Box (spl (spl (nmL ms) (a * 1) [strv y.1]) (b * 1) [strv x.1] = nmL ((ms.set a y).set b x)) := box (by rw [Nat.mul_one, Nat.mul_one, nmL_set (by omega), nmL_set (by rw [List.length_set]; omega)])
      clear hx hy hEa hEb hva hvb hka' hkb' hnz2' hae' hbe' hml2 hP hK
      go_upto_region 8 with (first | (with_reducible refine lst (by with_unfolding_all rfl) (wp_indexAddr T_ordI hz' (by with_unfolding_all exact ⟨_, _, _, _, rfl, rfl, rfl⟩) (by omega) (by omega) ?_)) | (with_reducible refine lst (by with_unfolding_all rfl) (wp_load1C hz' hzi Tryz.underlying3 rfl (by with_unfolding_all exact ⟨_, rfl, rfl⟩) (by first | (simp; done) | (simp; omega) | omega) ?_)))
      have hFd := hF.drew
      clear hF hz'
      refine wp_region_held (S := fun w' => w'.heap[g5]? = some (.cells (List.toArray (vlL 6 0 ⟨#[]⟩ (.slice A nk c) (.slice B nk d))) 51 (0, 0))) (by kernel_rfl) ?_
      change wpAnyH _ _ _ _ _ _ _ _ (World.drew _)
      refine tkp 0 (hFd.blk (i := 0) rfl) ?_
      (try simp only [Act.put, List.setIfInBounds_toArray, List.set_cons_zero, List.set_cons_succ])
      refine tkp 1 (hFd.blk (i := 0) rfl) ?_
      (try simp only [Act.put, List.setIfInBounds_toArray, List.set_cons_zero, List.set_cons_succ])
      refine tky 2 (y := yi_fld (by with_unfolding_all rfl) (fun _ h => h) Tryz.underlying49 rfl (by with_unfolding_all exact ⟨_, rfl, rfl⟩) rfl) (s := (hFd.blk (i := 0) rfl)) (h := ?_)
      (try simp only [Act.put, List.setIfInBounds_toArray, List.set_cons_zero, List.set_cons_succ])
      refine tkp 3 (hFd.blk (i := 0) rfl) ?_
      (try simp only [Act.put, List.setIfInBounds_toArray, List.set_cons_zero, List.set_cons_succ])
      refine tky 4 (y := yi_rem (by with_unfolding_all rfl) (by with_unfolding_all rfl) (by with_unfolding_all rfl) (by with_unfolding_all rfl) hnz1.out hae.out) (s := (hFd.blk (i := 0) rfl)) (h := ?_)
      (try simp only [Act.put, List.setIfInBounds_toArray, List.set_cons_zero, List.set_cons_succ])
      refine tkp 5 (hFd.blk (i := 0) rfl) ?_
      (try simp only [Act.put, List.setIfInBounds_toArray, List.set_cons_zero, List.set_cons_succ])
      refine tky 6 (y := yi_conv (by with_unfolding_all rfl) (by with_unfolding_all rfl) Tryz.underlying3 Tryz.underlying60 (by with_unfolding_all rfl) rfl) (s := (hFd.blk (i := 0) rfl)) (h := ?_)
      (try simp only [Act.put, List.setIfInBounds_toArray, List.set_cons_zero, List.set_cons_succ])
      refine tkp 7 (hFd.blk (i := 0) rfl) ?_
      (try simp only [Act.put, List.setIfInBounds_toArray, List.set_cons_zero, List.set_cons_succ])
      refine tky 8 (y := yi_fld (by with_unfolding_all rfl) (fun _ h => h) Tryz.underlying49 rfl (by with_unfolding_all exact ⟨_, rfl, rfl⟩) rfl) (s := (hFd.blk (i := 0) rfl)) (h := ?_)
      (try simp only [Act.put, List.setIfInBounds_toArray, List.set_cons_zero, List.set_cons_succ])
      refine tkp 9 (hFd.blk (i := 0) rfl) ?_
      (try simp only [Act.put, List.setIfInBounds_toArray, List.set_cons_zero, List.set_cons_succ])
      refine tky 10 (y := yi_conv (by with_unfolding_all rfl) (by with_unfolding_all rfl) Tryz.underlying3 Tryz.underlying60 (by with_unfolding_all rfl) rfl) (s := (hFd.blk (i := 0) rfl)) (h := ?_)
      (try simp only [Act.put, List.setIfInBounds_toArray, List.set_cons_zero, List.set_cons_succ])
      refine tky 11 (y := yi_rem (by with_unfolding_all rfl) (by with_unfolding_all rfl) (by with_unfolding_all rfl) (by with_unfolding_all rfl) hnz2.out rfl) (s := (hFd.blk (i := 0) rfl)) (h := ?_)
      (try simp only [Act.put, List.setIfInBounds_toArray, List.set_cons_zero, List.set_cons_succ])
      refine tky 12 (y := yi_conv (by with_unfolding_all rfl) (by with_unfolding_all rfl) Tryz.underlying60 Tryz.underlying3 (by with_unfolding_all rfl) hbe.out) (s := (hFd.blk (i := 0) rfl)) (h := ?_)
      (try simp only [Act.put, List.setIfInBounds_toArray, List.set_cons_zero, List.set_cons_succ])
      refine tkp 13 (hFd.blk (i := 0) rfl) ?_
      (try simp only [Act.put, List.setIfInBounds_toArray, List.set_cons_zero])
      refine tkp 14 (hFd.blk (i := 0) rfl) ?_
      (try simp only [Act.put, List.setIfInBounds_toArray, List.set_cons_zero])
      refine wpAnyH_done (by kernel_rfl) ?_ _
      go_upto_region 9 with fail
      have hFe := hFd.drew
      refine wp_region_held (S := fun w' => w'.heap[g5]? = some (.cells (List.toArray (vlL 6 0 ⟨#[]⟩ (.slice A nk c) (.slice B nk d))) 51 (0, 0))) (by kernel_rfl) ?_
      change wpAnyH _ _ _ _ _ _ _ _ (World.drew _)
      refine tkp 0 (hFe.blk (i := 0) rfl) ?_
      (try simp only [Act.put, List.setIfInBounds_toArray, List.set_cons_zero, List.set_cons_succ])
      refine tky 1 (y := yi_fld (by with_unfolding_all rfl) (fun _ h => h) Tryz.underlying49 rfl (by with_unfolding_all exact ⟨_, rfl, rfl⟩) rfl) (s := (hFe.blk (i := 0) rfl)) (h := ?_)
      (try simp only [Act.put, List.setIfInBounds_toArray, List.set_cons_zero, List.set_cons_succ])
      refine tkp 2 (hFe.blk (i := 0) rfl) ?_
      (try simp only [Act.put, List.setIfInBounds_toArray, List.set_cons_zero, List.set_cons_succ])
      refine tkp 3 (hFe.blk (i := 0) rfl) ?_
      (try simp only [Act.put, List.setIfInBounds_toArray, List.set_cons_zero, List.set_cons_succ])
      refine tky 4 (y := yi_fld (by with_unfolding_all rfl) (fun _ h => h) Tryz.underlying49 rfl (by with_unfolding_all exact ⟨_, rfl, rfl⟩) rfl) (s := (hFe.blk (i := 0) rfl)) (h := ?_)
      (try simp only [Act.put, List.setIfInBounds_toArray, List.set_cons_zero, List.set_cons_succ])
      refine tkp 5 (hFe.blk (i := 0) rfl) ?_
      (try simp only [Act.put, List.setIfInBounds_toArray, List.set_cons_zero, List.set_cons_succ])
      refine tkp 6 (hFe.blk (i := 0) rfl) ?_
      (try simp only [Act.put, List.setIfInBounds_toArray, List.set_cons_zero, List.set_cons_succ])
      refine tky 7 (y := yi_fld (by with_unfolding_all rfl) (fun _ h => h) Tryz.underlying49 rfl (by with_unfolding_all exact ⟨_, rfl, rfl⟩) rfl) (s := (hFe.blk (i := 0) rfl)) (h := ?_)
      (try simp only [Act.put, List.setIfInBounds_toArray, List.set_cons_zero, List.set_cons_succ])
      refine tkp 8 (hFe.blk (i := 0) rfl) ?_
      (try simp only [Act.put, List.setIfInBounds_toArray, List.set_cons_zero, List.set_cons_succ])
      refine tky 9 (y := yi_ix (by with_unfolding_all rfl) T_rvals hBs.out (k := b) (by with_unfolding_all exact ⟨_, _, _, _, rfl, rfl, rfl⟩) rfl (by omega)) (s := (hFe.blk (i := 0) rfl)) (h := ?_)
      (try simp only [Act.put, List.setIfInBounds_toArray, List.set_cons_zero, List.set_cons_succ])
      refine tkp 11 (hFe.blk (i := 0) rfl) ?_
      (try simp only [Act.put, List.setIfInBounds_toArray, List.set_cons_zero, List.set_cons_succ])
      refine tky 12 (y := yi_fld (by with_unfolding_all rfl) (fun _ h => h) Tryz.underlying49 rfl (by with_unfolding_all exact ⟨_, rfl, rfl⟩) rfl) (s := (hFe.blk (i := 0) rfl)) (h := ?_)
      (try simp only [Act.put, List.setIfInBounds_toArray, List.set_cons_zero, List.set_cons_succ])
      refine tkp 13 (hFe.blk (i := 0) rfl) ?_
      (try simp only [Act.put, List.setIfInBounds_toArray, List.set_cons_zero, List.set_cons_succ])
      refine tky 14 (y := yi_ix (by with_unfolding_all rfl) T_rvals hBs.out (k := a) (by with_unfolding_all exact ⟨_, _, _, _, rfl, rfl, rfl⟩) rfl (by omega)) (s := (hFe.blk (i := 0) rfl)) (h := ?_)
      (try simp only [Act.put, List.setIfInBounds_toArray, List.set_cons_zero, List.set_cons_succ])
      refine wpAnyH_ready (rs := [10, 15]) (by kernel_rfl) (by simp) ?_
      refine AllReadyH.cons (by simp only [List.getElem?_toArray, List.getElem?_cons_zero, List.getElem?_cons_succ]; rfl) (fun K hK => ?_) ?_
      ·refine stp (by with_unfolding_all rfl) (wp_loadA (j := b * 5) (hFe.rdOwn (i := 3) rfl) Tryz.underlying51 rfl (by with_unfolding_all exact ⟨_, rfl, rfl⟩) (ds := kb) (by rw [hklb.out]; kernel_rfl) (by rw [hklb.out]; exact hkb.out) ?_)
       refine hK.out _ _ ((hFe.blk (i := 0) rfl)) (fun _ => ?_)
       clear hK K
       (try simp only [Act.put, List.setIfInBounds_toArray, List.set_cons_zero, List.set_cons_succ])
       refine rdy1 15 (fun K hK => ?_)
       refine stp (by with_unfolding_all rfl) (wp_loadA (j := a * 5) (hFe.rdOwn (i := 3) rfl) Tryz.underlying51 rfl (by with_unfolding_all exact ⟨_, rfl, rfl⟩) (ds := ka) (by rw [hkla.out]; kernel_rfl) (by rw [hkla.out]; exact hka.out) ?_)
       refine hK.out _ _ ((hFe.blk (i := 0) rfl)) (fun _ => ?_)
       clear hK K
       (try simp only [Act.put, List.setIfInBounds_toArray, List.set_cons_zero, List.set_cons_succ])
       refine tky 16 (y := yi_ix (by with_unfolding_all rfl) T_rvals hBs.out (k := a) (by with_unfolding_all exact ⟨_, _, _, _, rfl, rfl, rfl⟩) rfl (by omega)) (s := (hFe.blk (i := 0) rfl)) (h := ?_)
       (try simp only [Act.put, List.setIfInBounds_toArray, List.set_cons_zero, List.set_cons_succ])
       refine rdy1 17 (fun K hK => ?_)
       refine stp (by with_unfolding_all rfl) (wp_fstX hFe (i := 3) rfl (j := a * 5) (ds := kb) (by rw [hklb.out]; decide) (by rw [hklb.out]; omega) (by with_unfolding_all exact ⟨_, _, rfl, rfl, rfl⟩) (by rw [hklb.out]; kernel_rfl) hkob.out ?_)
       intro w41 hF41 hz41
       (try simp only [List.set_cons_zero, List.set_cons_succ] at hF41)
       refine hK.out _ _ ((hF41.blk (i := 0) rfl)) (fun _ => ?_)
       clear hK K
       (try simp only [Act.put, List.setIfInBounds_toArray, List.set_cons_zero, List.set_cons_succ])
       refine tky 18 (y := yi_ix (by with_unfolding_all rfl) T_rvals hBs.out (k := b) (by with_unfolding_all exact ⟨_, _, _, _, rfl, rfl, rfl⟩) rfl (by omega)) (s := (hF41.blk (i := 0) rfl)) (h := ?_)
       (try simp only [Act.put, List.setIfInBounds_toArray, List.set_cons_zero, List.set_cons_succ])
       refine rdy1 19 (fun K hK => ?_)
       refine stp (by with_unfolding_all rfl) (wp_fstX hF41 (i := 3) rfl (j := b * 5) (ds := ka) (by rw [hkla.out]; decide) (by rw [hkla.out]; omega) (by with_unfolding_all exact ⟨_, _, rfl, rfl, rfl⟩) (by rw [hkla.out]; kernel_rfl) hkoa.out ?_)
       intro w42 hF42 hz42
       (try simp only [List.set_cons_zero, List.set_cons_succ] at hF42)
       refine hK.out _ _ ((hF42.blk (i := 0) rfl)) (fun _ => ?_)
       clear hK K
       (try simp only [Act.put, List.setIfInBounds_toArray, List.set_cons_zero, List.set_cons_succ])
       refine wpAnyH_done (by kernel_rfl) ?_ _
       go_upto_region 10 with fail
       have hFf := hF42.drew
       refine wp_region_held (S := fun w' => w'.heap[g5]? = some (.cells (List.toArray (vlL 6 0 ⟨#[]⟩ (.slice A nk c) (.slice B nk d))) 51 (0, 0))) (by kernel_rfl) ?_
       change wpAnyH _ _ _ _ _ _ _ _ (World.drew _)
       refine tkp 0 (hFf.blk (i := 0) rfl) ?_
       (try simp only [Act.put, List.setIfInBounds_toArray, List.set_cons_zero, List.set_cons_succ])
       refine tky 1 (y := yi_fld (by with_unfolding_all rfl) (fun _ h => h) Tryz.underlying48 rfl (by with_unfolding_all exact ⟨_, rfl, rfl⟩) rfl) (s := (hFf.blk (i := 0) rfl)) (h := ?_)
       (try simp only [Act.put, List.setIfInBounds_toArray, List.set_cons_zero, List.set_cons_succ])
       refine tkp 2 (hFf.blk (i := 0) rfl) ?_
       (try simp only [Act.put, List.setIfInBounds_toArray, List.set_cons_zero, List.set_cons_succ])
       refine tkp 3 (hFf.blk (i := 0) rfl) ?_
       (try simp only [Act.put, List.setIfInBounds_toArray, List.set_cons_zero, List.set_cons_succ])
       refine tky 4 (y := yi_fld (by with_unfolding_all rfl) (fun _ h => h) Tryz.underlying48 rfl (by with_unfolding_all exact ⟨_, rfl, rfl⟩) rfl) (s := (hFf.blk (i := 0) rfl)) (h := ?_)
       (try simp only [Act.put, List.setIfInBounds_toArray, List.set_cons_zero, List.set_cons_succ])
       refine tkp 5 (hFf.blk (i := 0) rfl) ?_
       (try simp only [Act.put, List.setIfInBounds_toArray, List.set_cons_zero, List.set_cons_succ])
       refine tkp 6 (hFf.blk (i := 0) rfl) ?_
       (try simp only [Act.put, List.setIfInBounds_toArray, List.set_cons_zero, List.set_cons_succ])
       refine tky 7 (y := yi_fld (by with_unfolding_all rfl) (fun _ h => h) Tryz.underlying48 rfl (by with_unfolding_all exact ⟨_, rfl, rfl⟩) rfl) (s := (hFf.blk (i := 0) rfl)) (h := ?_)
       (try simp only [Act.put, List.setIfInBounds_toArray, List.set_cons_zero, List.set_cons_succ])
       refine tkp 8 (hFf.blk (i := 0) rfl) ?_
       (try simp only [Act.put, List.setIfInBounds_toArray, List.set_cons_zero, List.set_cons_succ])
       refine tky 9 (y := yi_ix (by with_unfolding_all rfl) T_strs hAs.out (k := b) (by with_unfolding_all exact ⟨_, _, _, _, rfl, rfl, rfl⟩) rfl (by omega)) (s := (hFf.blk (i := 0) rfl)) (h := ?_)
       (try simp only [Act.put, List.setIfInBounds_toArray, List.set_cons_zero, List.set_cons_succ])
       refine tkp 11 (hFf.blk (i := 0) rfl) ?_
       (try simp only [Act.put, List.setIfInBounds_toArray, List.set_cons_zero, List.set_cons_succ])
       refine tky 12 (y := yi_fld (by with_unfolding_all rfl) (fun _ h => h) Tryz.underlying48 rfl (by with_unfolding_all exact ⟨_, rfl, rfl⟩) rfl) (s := (hFf.blk (i := 0) rfl)) (h := ?_)
       (try simp only [Act.put, List.setIfInBounds_toArray, List.set_cons_zero, List.set_cons_succ])
       refine tkp 13 (hFf.blk (i := 0) rfl) ?_
       (try simp only [Act.put, List.setIfInBounds_toArray, List.set_cons_zero, List.set_cons_succ])
       refine tky 14 (y := yi_ix (by with_unfolding_all rfl) T_strs hAs.out (k := a) (by with_unfolding_all exact ⟨_, _, _, _, rfl, rfl, rfl⟩) rfl (by omega)) (s := (hFf.blk (i := 0) rfl)) (h := ?_)
       (try simp only [Act.put, List.setIfInBounds_toArray, List.set_cons_zero, List.set_cons_succ])
       refine wpAnyH_ready (rs := [10, 15]) (by kernel_rfl) (by simp) ?_
       refine AllReadyH.cons (by simp only [List.getElem?_toArray, List.getElem?_cons_zero, List.getElem?_cons_succ]; rfl) (fun K hK => ?_) ?_
       ·refine stp (by with_unfolding_all rfl) (wp_load1C (j := b * 1) (hFf.rdOwn (i := 2) rfl) hnb Tryz.underlying9 rfl (by with_unfolding_all exact ⟨_, rfl, rfl⟩) (Nat.mul_one _) ?_)
        refine hK.out _ _ ((hFf.blk (i := 0) rfl)) (fun _ => ?_)
        clear hK K
        (try simp only [Act.put, List.setIfInBounds_toArray, List.set_cons_zero, List.set_cons_succ])
        refine rdy1 15 (fun K hK => ?_)
        refine stp (by with_unfolding_all rfl) (wp_load1C (j := a * 1) (hFf.rdOwn (i := 2) rfl) hna Tryz.underlying9 rfl (by with_unfolding_all exact ⟨_, rfl, rfl⟩) (Nat.mul_one _) ?_)
        refine hK.out _ _ ((hFf.blk (i := 0) rfl)) (fun _ => ?_)
        clear hK K
        (try simp only [Act.put, List.setIfInBounds_toArray, List.set_cons_zero, List.set_cons_succ])
        refine tky 16 (y := yi_ix (by with_unfolding_all rfl) T_strs hAs.out (k := a) (by with_unfolding_all exact ⟨_, _, _, _, rfl, rfl, rfl⟩) rfl (by omega)) (s := (hFf.blk (i := 0) rfl)) (h := ?_)
        (try simp only [Act.put, List.setIfInBounds_toArray, List.set_cons_zero, List.set_cons_succ])
        refine rdy1 17 (fun K hK => ?_)
        refine stp (by with_unfolding_all rfl) (wp_fstX1 hFf (i := 2) rfl (j := a * 1) (v := strv y.1) (by omega) (by with_unfolding_all exact ⟨_, _, rfl, rfl, rfl⟩) (by kernel_rfl) rfl rfl ?_)
        intro w61 hF61 hz61
        (try simp only [List.set_cons_zero, List.set_cons_succ] at hF61)
        refine hK.out _ _ ((hF61.blk (i := 0) rfl)) (fun _ => ?_)
        clear hK K
        (try simp only [Act.put, List.setIfInBounds_toArray, List.set_cons_zero, List.set_cons_succ])
        refine tky 18 (y := yi_ix (by with_unfolding_all rfl) T_strs hAs.out (k := b) (by with_unfolding_all exact ⟨_, _, _, _, rfl, rfl, rfl⟩) rfl (by omega)) (s := (hF61.blk (i := 0) rfl)) (h := ?_)
        (try simp only [Act.put, List.setIfInBounds_toArray, List.set_cons_zero, List.set_cons_succ])
        refine rdy1 19 (fun K hK => ?_)
        refine stp (by with_unfolding_all rfl) (wp_fstX1 hF61 (i := 2) rfl (j := b * 1) (v := strv x.1) (by omega) (by with_unfolding_all exact ⟨_, _, rfl, rfl, rfl⟩) (by kernel_rfl) rfl rfl ?_)
        intro w62 hF62 hz62
        (try simp only [List.set_cons_zero, List.set_cons_succ] at hF62)
        refine hK.out _ _ ((hF62.blk (i := 0) rfl)) (fun _ => ?_)
        clear hK K
        (try simp only [Act.put, List.setIfInBounds_toArray, List.set_cons_zero, List.set_cons_succ])
        refine wpAnyH_done (by kernel_rfl) ?_ _
        go_wp2_with fail
        have hF90 := hF62
        rw [hNM.out] at hF90
        go_roundg (no - (i + 1))
        case rel => exact ⟨i + 1, _, _, by omega, box rfl, by go_num, hP2, hK2, hF90⟩
        case measure => have := hkk.out; omega
       refine AllReadyH.cons (by simp only [List.getElem?_toArray, List.getElem?_cons_zero, List.getElem?_cons_succ]; rfl) (fun K hK => ?_) ?_
       ·refine stp (by with_unfolding_all rfl) (wp_load1C (j := a * 1) (hFf.rdOwn (i := 2) rfl) hna Tryz.underlying9 rfl (by with_unfolding_all exact ⟨_, rfl, rfl⟩) (Nat.mul_one _) ?_)
        refine hK.out _ _ ((hFf.blk (i := 0) rfl)) (fun _ => ?_)
        clear hK K
        (try simp only [Act.put, List.setIfInBounds_toArray, List.set_cons_zero, List.set_cons_succ])
        refine rdy1 10 (fun K hK => ?_)
        refine stp (by with_unfolding_all rfl) (wp_load1C (j := b * 1) (hFf.rdOwn (i := 2) rfl) hnb Tryz.underlying9 rfl (by with_unfolding_all exact ⟨_, rfl, rfl⟩) (Nat.mul_one _) ?_)
        refine hK.out _ _ ((hFf.blk (i := 0) rfl)) (fun _ => ?_)
        clear hK K
        (try simp only [Act.put, List.setIfInBounds_toArray, List.set_cons_zero, List.set_cons_succ])
        refine tky 16 (y := yi_ix (by with_unfolding_all rfl) T_strs hAs.out (k := a) (by with_unfolding_all exact ⟨_, _, _, _, rfl, rfl, rfl⟩) rfl (by omega)) (s := (hFf.blk (i := 0) rfl)) (h := ?_)
        (try simp only [Act.put, List.setIfInBounds_toArray, List.set_cons_zero, List.set_cons_succ])
        refine rdy1 17 (fun K hK => ?_)
        refine stp (by with_unfolding_all rfl) (wp_fstX1 hFf (i := 2) rfl (j := a * 1) (v := strv y.1) (by omega) (by with_unfolding_all exact ⟨_, _, rfl, rfl, rfl⟩) (by kernel_rfl) rfl rfl ?_)
        intro w61 hF61 hz61
        (try simp only [List.set_cons_zero, List.set_cons_succ] at hF61)
        refine hK.out _ _ ((hF61.blk (i := 0) rfl)) (fun _ => ?_)
        clear hK K
        (try simp only [Act.put, List.setIfInBounds_toArray, List.set_cons_zero, List.set_cons_succ])
        refine tky 18 (y := yi_ix (by with_unfolding_all rfl) T_strs hAs.out (k := b) (by with_unfolding_all exact ⟨_, _, _, _, rfl, rfl, rfl⟩) rfl (by omega)) (s := (hF61.blk (i := 0) rfl)) (h := ?_)
        (try simp only [Act.put, List.setIfInBounds_toArray, List.set_cons_zero, List.set_cons_succ])
        refine rdy1 19 (fun K hK => ?_)
        refine stp (by with_unfolding_all rfl) (wp_fstX1 hF61 (i := 2) rfl (j := b * 1) (v := strv x.1) (by omega) (by with_unfolding_all exact ⟨_, _, rfl, rfl, rfl⟩) (by kernel_rfl) rfl rfl ?_)
        intro w62 hF62 hz62
        (try simp only [List.set_cons_zero, List.set_cons_succ] at hF62)
        refine hK.out _ _ ((hF62.blk (i := 0) rfl)) (fun _ => ?_)
        clear hK K
        (try simp only [Act.put, List.setIfInBounds_toArray, List.set_cons_zero, List.set_cons_succ])
        refine wpAnyH_done (by kernel_rfl) ?_ _
        go_wp2_with fail
        have hF90 := hF62
        rw [hNM.out] at hF90
        go_roundg (no - (i + 1))
        case rel => exact ⟨i + 1, _, _, by omega, box rfl, by go_num, hP2, hK2, hF90⟩
        case measure => have := hkk.out; omega
       exact AllReadyH.nil
      refine AllReadyH.cons (by simp only [List.getElem?_toArray, List.getElem?_cons_zero, List.getElem?_cons_succ]; rfl) (fun K hK => ?_) ?_
      ·refine stp (by with_unfolding_all rfl) (wp_loadA (j := a * 5) (hFe.rdOwn (i := 3) rfl) Tryz.underlying51 rfl (by with_unfolding_all exact ⟨_, rfl, rfl⟩) (ds := ka) (by rw [hkla.out]; kernel_rfl) (by rw [hkla.out]; exact hka.out) ?_)
       refine hK.out _ _ ((hFe.blk (i := 0) rfl)) (fun _ => ?_)
       clear hK K
       (try simp only [Act.put, List.setIfInBounds_toArray, List.set_cons_zero, List.set_cons_succ])
       refine rdy1 10 (fun K hK => ?_)
       refine stp (by with_unfolding_all rfl) (wp_loadA (j := b * 5) (hFe.rdOwn (i := 3) rfl) Tryz.underlying51 rfl (by with_unfolding_all exact ⟨_, rfl, rfl⟩) (ds := kb) (by rw [hklb.out]; kernel_rfl) (by rw [hklb.out]; exact hkb.out) ?_)
       refine hK.out _ _ ((hFe.blk (i := 0) rfl)) (fun _ => ?_)
       clear hK K
       (try simp only [Act.put, List.setIfInBounds_toArray, List.set_cons_zero, List.set_cons_succ])
       refine tky 16 (y := yi_ix (by with_unfolding_all rfl) T_rvals hBs.out (k := a) (by with_unfolding_all exact ⟨_, _, _, _, rfl, rfl, rfl⟩) rfl (by omega)) (s := (hFe.blk (i := 0) rfl)) (h := ?_)
       (try simp only [Act.put, List.setIfInBounds_toArray, List.set_cons_zero, List.set_cons_succ])
       refine rdy1 17 (fun K hK => ?_)
       refine stp (by with_unfolding_all rfl) (wp_fstX hFe (i := 3) rfl (j := a * 5) (ds := kb) (by rw [hklb.out]; decide) (by rw [hklb.out]; omega) (by with_unfolding_all exact ⟨_, _, rfl, rfl, rfl⟩) (by rw [hklb.out]; kernel_rfl) hkob.out ?_)
       intro w41 hF41 hz41
       (try simp only [List.set_cons_zero, List.set_cons_succ] at hF41)
       refine hK.out _ _ ((hF41.blk (i := 0) rfl)) (fun _ => ?_)
       clear hK K
       (try simp only [Act.put, List.setIfInBounds_toArray, List.set_cons_zero, List.set_cons_succ])
       refine tky 18 (y := yi_ix (by with_unfolding_all rfl) T_rvals hBs.out (k := b) (by with_unfolding_all exact ⟨_, _, _, _, rfl, rfl, rfl⟩) rfl (by omega)) (s := (hF41.blk (i := 0) rfl)) (h := ?_)
       (try simp only [Act.put, List.setIfInBounds_toArray, List.set_cons_zero, List.set_cons_succ])
       refine rdy1 19 (fun K hK => ?_)
       refine stp (by with_unfolding_all rfl) (wp_fstX hF41 (i := 3) rfl (j := b * 5) (ds := ka) (by rw [hkla.out]; decide) (by rw [hkla.out]; omega) (by with_unfolding_all exact ⟨_, _, rfl, rfl, rfl⟩) (by rw [hkla.out]; kernel_rfl) hkoa.out ?_)
       intro w42 hF42 hz42
       (try simp only [List.set_cons_zero, List.set_cons_succ] at hF42)
       refine hK.out _ _ ((hF42.blk (i := 0) rfl)) (fun _ => ?_)
       clear hK K
       (try simp only [Act.put, List.setIfInBounds_toArray, List.set_cons_zero, List.set_cons_succ])
       refine wpAnyH_done (by kernel_rfl) ?_ _
       go_upto_region 10 with fail
       have hFf := hF42.drew
       refine wp_region_held (S := fun w' => w'.heap[g5]? = some (.cells (List.toArray (vlL 6 0 ⟨#[]⟩ (.slice A nk c) (.slice B nk d))) 51 (0, 0))) (by kernel_rfl) ?_
       change wpAnyH _ _ _ _ _ _ _ _ (World.drew _)
       refine tkp 0 (hFf.blk (i := 0) rfl) ?_
       (try simp only [Act.put, List.setIfInBounds_toArray, List.set_cons_zero, List.set_cons_succ])
       refine tky 1 (y := yi_fld (by with_unfolding_all rfl) (fun _ h => h) Tryz.underlying48 rfl (by with_unfolding_all exact ⟨_, rfl, rfl⟩) rfl) (s := (hFf.blk (i := 0) rfl)) (h := ?_)
       (try simp only [Act.put, List.setIfInBounds_toArray, List.set_cons_zero, List.set_cons_succ])
       refine tkp 2 (hFf.blk (i := 0) rfl) ?_
       (try simp only [Act.put, List.setIfInBounds_toArray, List.set_cons_zero, List.set_cons_succ])
       refine tkp 3 (hFf.blk (i := 0) rfl) ?_
       (try simp only [Act.put, List.setIfInBounds_toArray, List.set_cons_zero, List.set_cons_succ])
       refine tky 4 (y := yi_fld (by with_unfolding_all rfl) (fun _ h => h) Tryz.underlying48 rfl (by with_unfolding_all exact ⟨_, rfl, rfl⟩) rfl) (s := (hFf.blk (i := 0) rfl)) (h := ?_)
       (try simp only [Act.put, List.setIfInBounds_toArray, List.set_cons_zero, List.set_cons_succ])
       refine tkp 5 (hFf.blk (i := 0) rfl) ?_
       (try simp only [Act.put, List.setIfInBounds_toArray, List.set_cons_zero, List.set_cons_succ])
       refine tkp 6 (hFf.blk (i := 0) rfl) ?_
       (try simp only [Act.put, List.setIfInBounds_toArray, List.set_cons_zero, List.set_cons_succ])
       refine tky 7 (y := yi_fld (by with_unfolding_all rfl) (fun _ h => h) Tryz.underlying48 rfl (by with_unfolding_all exact ⟨_, rfl, rfl⟩) rfl) (s := (hFf.blk (i := 0) rfl)) (h := ?_)
       (try simp only [Act.put, List.setIfInBounds_toArray, List.set_cons_zero, List.set_cons_succ])
       refine tkp 8 (hFf.blk (i := 0) rfl) ?_
       (try simp only [Act.put, List.setIfInBounds_toArray, List.set_cons_zero, List.set_cons_succ])
       refine tky 9 (y := yi_ix (by with_unfolding_all rfl) T_strs hAs.out (k := b) (by with_unfolding_all exact ⟨_, _, _, _, rfl, rfl, rfl⟩) rfl (by omega)) (s := (hFf.blk (i := 0) rfl)) (h := ?_)
       (try simp only [Act.put, List.setIfInBounds_toArray, List.set_cons_zero, List.set_cons_succ])
       refine tkp 11 (hFf.blk (i := 0) rfl) ?_
       (try simp only [Act.put, List.setIfInBounds_toArray, List.set_cons_zero, List.set_cons_succ])
       refine tky 12 (y := yi_fld (by with_unfolding_all rfl) (fun _ h => h) Tryz.underlying48 rfl (by with_unfolding_all exact ⟨_, rfl, rfl⟩) rfl) (s := (hFf.blk (i := 0) rfl)) (h := ?_)
       (try simp only [Act.put, List.setIfInBounds_toArray, List.set_cons_zero, List.set_cons_succ])
       refine tkp 13 (hFf.blk (i := 0) rfl) ?_
       (try simp only [Act.put, List.setIfInBounds_toArray, List.set_cons_zero, List.set_cons_succ])
       refine tky 14 (y := yi_ix (by with_unfolding_all rfl) T_strs hAs.out (k := a) (by with_unfolding_all exact ⟨_, _, _, _, rfl, rfl, rfl⟩) rfl (by omega)) (s := (hFf.blk (i := 0) rfl)) (h := ?_)
       (try simp only [Act.put, List.setIfInBounds_toArray, List.set_cons_zero, List.set_cons_succ])
       refine wpAnyH_ready (rs := [10, 15]) (by kernel_rfl) (by simp) ?_
       refine AllReadyH.cons (by simp only [List.getElem?_toArray, List.getElem?_cons_zero, List.getElem?_cons_succ]; rfl) (fun K hK => ?_) ?_
       ·refine stp (by with_unfolding_all rfl) (wp_load1C (j := b * 1) (hFf.rdOwn (i := 2) rfl) hnb Tryz.underlying9 rfl (by with_unfolding_all exact ⟨_, rfl, rfl⟩) (Nat.mul_one _) ?_)
        refine hK.out _ _ ((hFf.blk (i := 0) rfl)) (fun _ => ?_)
        clear hK K
        (try simp only [Act.put, List.setIfInBounds_toArray, List.set_cons_zero, List.set_cons_succ])
        refine rdy1 15 (fun K hK => ?_)
        refine stp (by with_unfolding_all rfl) (wp_load1C (j := a * 1) (hFf.rdOwn (i := 2) rfl) hna Tryz.underlying9 rfl (by with_unfolding_all exact ⟨_, rfl, rfl⟩) (Nat.mul_one _) ?_)
        refine hK.out _ _ ((hFf.blk (i := 0) rfl)) (fun _ => ?_)
        clear hK K
        (try simp only [Act.put, List.setIfInBounds_toArray, List.set_cons_zero, List.set_cons_succ])
        refine tky 16 (y := yi_ix (by with_unfolding_all rfl) T_strs hAs.out (k := a) (by with_unfolding_all exact ⟨_, _, _, _, rfl, rfl, rfl⟩) rfl (by omega)) (s := (hFf.blk (i := 0) rfl)) (h := ?_)
        (try simp only [Act.put, List.setIfInBounds_toArray, List.set_cons_zero, List.set_cons_succ])
        refine rdy1 17 (fun K hK => ?_)
        refine stp (by with_unfolding_all rfl) (wp_fstX1 hFf (i := 2) rfl (j := a * 1) (v := strv y.1) (by omega) (by with_unfolding_all exact ⟨_, _, rfl, rfl, rfl⟩) (by kernel_rfl) rfl rfl ?_)
        intro w61 hF61 hz61
        (try simp only [List.set_cons_zero, List.set_cons_succ] at hF61)
        refine hK.out _ _ ((hF61.blk (i := 0) rfl)) (fun _ => ?_)
        clear hK K
        (try simp only [Act.put, List.setIfInBounds_toArray, List.set_cons_zero, List.set_cons_succ])
        refine tky 18 (y := yi_ix (by with_unfolding_all rfl) T_strs hAs.out (k := b) (by with_unfolding_all exact ⟨_, _, _, _, rfl, rfl, rfl⟩) rfl (by omega)) (s := (hF61.blk (i := 0) rfl)) (h := ?_)
        (try simp only [Act.put, List.setIfInBounds_toArray, List.set_cons_zero, List.set_cons_succ])
        refine rdy1 19 (fun K hK => ?_)
        refine stp (by with_unfolding_all rfl) (wp_fstX1 hF61 (i := 2) rfl (j := b * 1) (v := strv x.1) (by omega) (by with_unfolding_all exact ⟨_, _, rfl, rfl, rfl⟩) (by kernel_rfl) rfl rfl ?_)
        intro w62 hF62 hz62
        (try simp only [List.set_cons_zero, List.set_cons_succ] at hF62)
        refine hK.out _ _ ((hF62.blk (i := 0) rfl)) (fun _ => ?_)
        clear hK K
        (try simp only [Act.put, List.setIfInBounds_toArray, List.set_cons_zero, List.set_cons_succ])
        refine wpAnyH_done (by kernel_rfl) ?_ _
        go_wp2_with fail
        have hF90 := hF62
        rw [hNM.out] at hF90
        go_roundg (no - (i + 1))
        case rel => exact ⟨i + 1, _, _, by omega, box rfl, by go_num, hP2, hK2, hF90⟩
        case measure => have := hkk.out; omega
       refine AllReadyH.cons (by simp only [List.getElem?_toArray, List.getElem?_cons_zero, List.getElem?_cons_succ]; rfl) (fun K hK => ?_) ?_
       ·refine stp (by with_unfolding_all rfl) (wp_load1C (j := a * 1) (hFf.rdOwn (i := 2) rfl) hna Tryz.underlying9 rfl (by with_unfolding_all exact ⟨_, rfl, rfl⟩) (Nat.mul_one _) ?_)
        refine hK.out _ _ ((hFf.blk (i := 0) rfl)) (fun _ => ?_)
        clear hK K
        (try simp only [Act.put, List.setIfInBounds_toArray, List.set_cons_zero, List.set_cons_succ])
        refine rdy1 10 (fun K hK => ?_)
        refine stp (by with_unfolding_all rfl) (wp_load1C (j := b * 1) (hFf.rdOwn (i := 2) rfl) hnb Tryz.underlying9 rfl (by with_unfolding_all exact ⟨_, rfl, rfl⟩) (Nat.mul_one _) ?_)
        refine hK.out _ _ ((hFf.blk (i := 0) rfl)) (fun _ => ?_)
        clear hK K
        (try simp only [Act.put, List.setIfInBounds_toArray, List.set_cons_zero, List.set_cons_succ])
        refine tky 16 (y := yi_ix (by with_unfolding_all rfl) T_strs hAs.out (k := a) (by with_unfolding_all exact ⟨_, _, _, _, rfl, rfl, rfl⟩) rfl (by omega)) (s := (hFf.blk (i := 0) rfl)) (h := ?_)
        (try simp only [Act.put, List.setIfInBounds_toArray, List.set_cons_zero, List.set_cons_succ])
        refine rdy1 17 (fun K hK => ?_)
        refine stp (by with_unfolding_all rfl) (wp_fstX1 hFf (i := 2) rfl (j := a * 1) (v := strv y.1) (by omega) (by with_unfolding_all exact ⟨_, _, rfl, rfl, rfl⟩) (by kernel_rfl) rfl rfl ?_)
        intro w61 hF61 hz61
        (try simp only [List.set_cons_zero, List.set_cons_succ] at hF61)
        refine hK.out _ _ ((hF61.blk (i := 0) rfl)) (fun _ => ?_)
        clear hK K
        (try simp only [Act.put, List.setIfInBounds_toArray, List.set_cons_zero, List.set_cons_succ])
        refine tky 18 (y := yi_ix (by with_unfolding_all rfl) T_strs hAs.out (k := b) (by with_unfolding_all exact ⟨_, _, _, _, rfl, rfl, rfl⟩) rfl (by omega)) (s := (hF61.blk (i := 0) rfl)) (h := ?_)
        (try simp only [Act.put, List.setIfInBounds_toArray, List.set_cons_zero, List.set_cons_succ])
        refine rdy1 19 (fun K hK => ?_)
        refine stp (by with_unfolding_all rfl) (wp_fstX1 hF61 (i := 2) rfl (j := b * 1) (v := strv x.1) (by omega) (by with_unfolding_all exact ⟨_, _, rfl, rfl, rfl⟩) (by kernel_rfl) rfl rfl ?_)
        intro w62 hF62 hz62
        (try simp only [List.set_cons_zero, List.set_cons_succ] at hF62)
        refine hK.out _ _ ((hF62.blk (i := 0) rfl)) (fun _ => ?_)
        clear hK K
        (try simp only [Act.put, List.setIfInBounds_toArray, List.set_cons_zero, List.set_cons_succ])
        refine wpAnyH_done (by kernel_rfl) ?_ _
        go_wp2_with fail
        have hF90 := hF62
        rw [hNM.out] at hF90
        go_roundg (no - (i + 1))
        case rel => exact ⟨i + 1, _, _, by omega, box rfl, by go_num, hP2, hK2, hF90⟩
        case measure => have := hkk.out; omega
       exact AllReadyH.nil
      exact AllReadyH.nil
     ·go_wp2_with (first | (with_reducible refine lst (by with_unfolding_all rfl) (wp_indexAddr T_ordI hz' (by with_unfolding_all exact ⟨_, _, _, _, rfl, rfl, rfl⟩) (by omega) (by omega) ?_)) | (with_reducible refine lst (by with_unfolding_all rfl) (wp_load1C hz' hzi Tryz.underlying3 rfl (by with_unfolding_all exact ⟨_, rfl, rfl⟩) (by first | (simp; done) | (simp; omega) | omega) ?_)))
      go_meet
      exact ⟨_, _, hP, hK, hF⟩
    ·obtain rfl : no = i := by omega
     go_wp2_with fail
     go_meet
     exact ⟨_, _, hP, hK, hF⟩
  case rest =>
   obtain ⟨ms, ys, hP, hK, hF⟩ := hcut
   clear hF6 hP0 hK0
   have hW := hwk.out ms hP.out
   have hvr : Box (VRd wc (· < wc.heap.size) (jO ms) (vlL 6 0 ⟨#[]⟩ (.slice A nk c) (.slice B nk d))) := box (by
    unfold jO VRd
    exact ⟨A, nk, c, B, nk, d, ys, hnc4, hmd4, rfl, hF.rdOwn (i := 2) rfl, hF.rdOwn (i := 3) rfl, hK.out.rdL hF (by intro e he; simp [he])⟩)
   have hwr := box (rwrite_any (jO ms) _ wc hvr.out hW.sm hW.tx hW.tot hW.fl)
   obtain ⟨⟨l, f⟩, hR⟩ : ∃ R, R = jWrite (jO ms) := ⟨_, rfl⟩
   rw [← hR] at hwr
   simp only [] at hwr
   have hln : l.length ≤ 65536 := jWrite_lenO hR.symm
   have hmlf := box (hml.out ms hP.out l)
   clear hW hvr hml hwk
   go_wp2_with (first | (with_reducible refine lst (by with_unfolding_all rfl) (wp_fldA0 hF Tryz.underlying51 rfl (by with_unfolding_all exact ⟨_, rfl, rfl⟩) (ds := (vlL 6 0 ⟨#[]⟩ (.slice A nk c) (.slice B nk d))) (by rw [vlL_len]; kernel_rfl) (take_all _) ?_)))
   refine hwr.out.mono ?_
   rintro e w7 ⟨rfl, hb7⟩
   have hF7 := hF.call hb7
   clear hwr hF
   by_cases hf : f = 0
   ·subst hf
    have hmp := hmlf.out hR.symm
    have hps := box (fun (A : Option Addr) (n c : Nat) (w' : World) (hb : Below w.heap.size w w') (hnc : n ≤ c) (hn : n ≤ 140737488355328) h => mparse_any A n c l w' ((hL.on hb).up hb.size) hnc hn h)
    rw [hmp] at hps
    clear hmp hmlf
    replace hR := box hR
    go_wp2_with (first | ((with_reducible refine lst (by with_unfolding_all rfl) (wp_fs2b T_u8 Tryz.underlying5 Tryz.underlying9 hF7 (by with_unfolding_all exact ⟨_, rfl, rfl⟩) ?_)); intro w8 g8 c8 hF8 hz8 hc8))
    (try rw [str_mk_size] at hc8)
    (try rw [str_mk_size] at hF8)
    have hpp := box (hps.out (some ⟨g8, 0, none⟩) l.length c8 w8 hF8.below hc8 (by omega) (hF8.rd (i := 0) rfl))
    refine hpp.out.mono ?_
    rintro e w9 ⟨cs5, es5, rfl, hD5', h9⟩
    have hF9 := hF8.joinR h9
    simp only [List.cons_append] at hF9
    have hvl5 := box hD5'.len
    have hvo5 := box hD5'.ones
    have hD5 : Box (VDoc BD cs5 es5) := box hD5'
    clear hps hpp h9 hF8 hF7 hD5'
    go_upto_region 16 with (first | ((with_reducible refine lst (by with_unfolding_all rfl) (wp_falloc hF9 (cs := doc0) (z := .agg (List.toArray (doc0))) rfl (by kernel_rfl) (by with_unfolding_all rfl) ?_)); intro w13 g13 hF13 hz13) | ((with_reducible refine lst (by with_unfolding_all rfl) (wp_fstA0 hF13 (by with_unfolding_all exact ⟨_, _, rfl, rfl, rfl⟩) (by rw [hvl5.out]; kernel_rfl) hvo5.out (by rw [hvl5.out]; decide) (spl_all (by rw [hvl5.out, doc0_len])) ?_)); intro w14 hF14 hz14))
    clear hF9 hF13
    have hfr1 := box (fun (w' : World) (es' : List Ent) (hF : Fr [] w w' es') (hs : ∀ e ∈ es5, e ∈ es') => From_any BD cs5 w' (hD5.out.rdDoc hF hs) hmbB.out)
    have hFd := hF14.drew
    clear hF14
    refine wp_region_held (S := fun w' => w'.heap[g13]? = some (.cells (List.toArray cs5) 31 (0, 0)) ∧ w'.heap[g1]? = some (.cells (List.toArray cs) 40 (0, 0))) (by kernel_rfl) ?_
    change wpAnyH _ _ _ _ _ _ _ _ (World.drew _)
    refine tkp 0 ⟨hFd.blk (i := 0) rfl, hFd.blk (i := 3) rfl⟩ ?_
    (try simp only [Act.put, List.setIfInBounds_toArray, List.set_cons_zero, List.set_cons_succ])
    refine tkp 1 ⟨hFd.blk (i := 0) rfl, hFd.blk (i := 3) rfl⟩ ?_
    (try simp only [Act.put, List.setIfInBounds_toArray, List.set_cons_zero, List.set_cons_succ])
    refine tkp 2 ⟨hFd.blk (i := 0) rfl, hFd.blk (i := 3) rfl⟩ ?_
    (try simp only [Act.put, List.setIfInBounds_toArray, List.set_cons_zero, List.set_cons_succ])
    refine tky 3 (y := yi_fldA (by with_unfolding_all rfl) (fun _ h => h.1) Tryz.underlying31 rfl (by with_unfolding_all exact ⟨_, rfl, rfl⟩) (ds := cs5) (by rw [hvl5.out]; kernel_rfl) (take_all _)) (s := ⟨hFd.blk (i := 0) rfl, hFd.blk (i := 3) rfl⟩) (h := ?_)
    (try simp only [Act.put, List.setIfInBounds_toArray, List.set_cons_zero, List.set_cons_succ])
    refine tky 5 (y := yi_fldA (by with_unfolding_all rfl) (fun _ h => h.2) Tryz.underlying40 rfl (by with_unfolding_all exact ⟨_, rfl, rfl⟩) (ds := cs) (by rw [hcl.out]; kernel_rfl) (take_all _)) (s := ⟨hFd.blk (i := 0) rfl, hFd.blk (i := 3) rfl⟩) (h := ?_)
    (try simp only [Act.put, List.setIfInBounds_toArray, List.set_cons_zero, List.set_cons_succ])
    refine rdy1 4 (fun K hK => ?_)
    refine stp (by with_unfolding_all rfl) (wp_call Tryz.func15 rfl (by with_unfolding_all rfl) (by with_unfolding_all rfl) (by with_unfolding_all rfl) (hfr1.out _ _ hFd (by intro e he; simp [he])) ?_)
    rintro e w31 ⟨cs31, es31, rfl, hvt31, hv31⟩
    refine ⟨_, rfl, ?_⟩
    have hF31 := hFd.joinR hv31
    simp only [List.cons_append] at hF31
    refine hK.out _ _ (⟨hF31.blk (i := 0) rfl, hF31.blk (i := 3) rfl⟩) (fun _ => ?_)
    clear hK K
    (try simp only [Act.put, List.setIfInBounds_toArray, List.set_cons_zero, List.set_cons_succ])
    refine rdy1 6 (fun K hK => ?_)
    refine stp (by with_unfolding_all rfl) (wp_call Tryz.func22 rfl (by with_unfolding_all rfl) (by with_unfolding_all rfl) (by with_unfolding_all rfl) (hrb.out _ hF31.below) ?_)
    rintro e w32 ⟨cs32, rfl, hrd32, hb32⟩
    refine ⟨_, rfl, ?_⟩
    have hF32 := hF31.call hb32
    refine hK.out _ _ (⟨hF32.blk (i := 0) rfl, hF32.blk (i := 3) rfl⟩) (fun _ => ?_)
    clear hK K
    (try simp only [Act.put, List.setIfInBounds_toArray, List.set_cons_zero, List.set_cons_succ])
    refine rdy1 7 (fun K hK => ?_)
    refine stp (by with_unfolding_all rfl) (wp_call Tryz.func14 rfl (by with_unfolding_all rfl) (by with_unfolding_all rfl) (by with_unfolding_all rfl) (msame_any BD _ _ _ hmbB.out (hvt31.rdDoc hF32 (by intro e he; simp [he])) hrd32) ?_)
    rintro e w33 ⟨rfl, hb33⟩
    refine ⟨_, rfl, ?_⟩
    have hF33 := hF32.call hb33
    refine hK.out _ _ (⟨hF33.blk (i := 0) rfl, hF33.blk (i := 3) rfl⟩) (fun _ => ?_)
    clear hK K
    (try simp only [Act.put, List.setIfInBounds_toArray, List.set_cons_zero, List.set_cons_succ])
    refine tkp 8 ⟨hF33.blk (i := 0) rfl, hF33.blk (i := 3) rfl⟩ ?_
    (try simp only [Act.put, List.setIfInBounds_toArray, List.set_cons_zero, List.set_cons_succ])
    refine tkp 9 ⟨hF33.blk (i := 0) rfl, hF33.blk (i := 3) rfl⟩ ?_
    (try simp only [Act.put, List.setIfInBounds_toArray, List.set_cons_zero])
    refine wpAnyH_done (by kernel_rfl) ?_ _
    go_wp2_with fail
    go_ret
    exact ⟨rfl, hF33.below⟩
   ·have hne : ((f : Int) != 0) = true := by rw [bne_iff_ne]; omega
    replace hf := box hf
    replace hR := box hR
    go_wp2_with fail
    go_ret
    exact ⟨rfl, hF7.below⟩
 ·rw [decide_eq_false hr] at hri
  replace hr := box hr
  clear hdig hwD hbw hsm hzl' hD
  go_enter Tryz.func5, Tryz.ntmps5
  go_wp2_with (first | ((with_reducible refine lst (by with_unfolding_all rfl) (wp_fbox hF0 (cs := cs) rfl (by with_unfolding_all rfl) (by with_unfolding_all rfl) ?_)); intro w1 g1 hF1 hz1))
  refine (haw.out _ hF1.below).mono ?_
  rintro e w2 ⟨rfl, hb2⟩
  have hF2 := hF1.call hb2
  clear hF0 hF1
  go_wp2_with (first | (with_reducible refine lst (by with_unfolding_all rfl) (wp_fldA0 hF2 Tryz.underlying40 rfl (by with_unfolding_all exact ⟨_, rfl, rfl⟩) (ds := cs) (by rw [hcl.out]; kernel_rfl) (take_all _) ?_)))
  refine (hri.out _ hF2.below).mono ?_
  rintro e w3 ⟨rfl, hb3⟩
  have hF3 := hF2.call hb3
  clear hF2 hri
  go_wp2_with fail
  refine (haw.out _ hF3.below).mono ?_
  rintro e w4 ⟨rfl, hb4⟩
  have hF4 := hF3.call hb4
  go_wp2_with fail
  go_ret
  exact ⟨rfl, hF4.below⟩
end Go.Proofs.YtlhicfpmlncomaaGreatDoor

namespace Go.Proofs.YtlhicfpmlncomaaGreatDoor
open Go.RowKit Go.Lib
theorem cell_old {w w' : World} (hb : Below w.heap.size w w') {a : Addr} {v : Value} (h : w.cell? a = some v) : w'.cell? a = some v := by
 have hlt : a.block < w.heap.size := by
  rcases Nat.lt_or_ge a.block w.heap.size with h' | h'
  ·exact h'
  ·exfalso
   unfold World.cell? at h
   rw [Array.getElem?_eq_none h'] at h
   cases h
 rw [← h]
 exact World.cell?_of_block (w := w) (hb.block _ hlt)
theorem var_old {P : Program} {w w' : World} (hb : Below w.heap.size w w') {n : String} {cs : Array Value} (h : w.var? P n = some cs) : w'.var? P n = some cs := by
 unfold World.var? at *
 cases hg : P.globalNamed n with
 | none => simp [hg] at h
 | some g =>
  simp only [hg, Option.bind_some] at h ⊢
  have hlt : g < w.heap.size := by
   rcases Nat.lt_or_ge g w.heap.size with h' | h'
   ·exact h'
   ·rw [Array.getElem?_eq_none h'] at h; simp at h
  rw [hb.block g hlt]
  exact h
theorem first_eq : Rows.laid_unicode_utf8_first = firstData := by kernel_rfl
theorem accept_eq : (Rows.laid_unicode_utf8_acceptRanges : DataW Unit) = acceptData := by kernel_rfl
theorem pow_eq : (Rows.laid_internal_strconv_uint64pow10 : DataW Unit) = tabData .u64 pow10Tab := by kernel_rfl
theorem star_errs : "*" ++ "errors.errorString" = "*errors.errorString" := by decide
theorem row_errs (u : TypeId) (h : Tryz.prog.typeName? 3 u = some "*errors.errorString") : u = 254 :=
 typeName_ptr_named (nm := "errors.errorString") (by rw [star_errs]; kernel_rfl) (by kernel_rfl) (by decide) u (by rw [star_errs]; exact h)
theorem row_ints : Tryz.prog.globalNamed "errors.errorType" = some 0 := by kernel_rfl
theorem row_rt : (Tryz.prog.cutTypes.find? (·.1 == "internal/reflectlite.rtype")).map (·.2) = some 177 := by kernel_rfl
theorem row_err : ((List.range Tryz.prog.types.size).filter fun t => Tryz.prog.rowNamed t [101, 114, 114, 111, 114]) = [80] := by kernel_rfl
theorem row_handle : typeHandle Tryz.prog 80 = .pointer (some ⟨9, 80, none⟩) := by kernel_rfl
/-- The listed variables that are no handles. -/
def mPlain : List (String × DataW Unit) := [("math/bits.deBruijn32tab", Rows.laid_math_bits_deBruijn32tab), ("math/bits.deBruijn64tab", Rows.laid_math_bits_deBruijn64tab), ("internal/strconv.uint64pow10", Rows.laid_internal_strconv_uint64pow10), ("unicode/utf8.acceptRanges", Rows.laid_unicode_utf8_acceptRanges), ("strconv.ErrRange", Rows.laid_strconv_ErrRange), ("strconv.ErrSyntax", Rows.laid_strconv_ErrSyntax), ("unicode/utf8.first", Rows.laid_unicode_utf8_first)]
theorem laid_both (W : World) (h : laidMetH Tryz.prog Rows.manifestReadsUptoRow.laid W) : laidMet Tryz.prog mPlain W ∧ handlesMet Tryz.prog [("errors.errorType", Rows.laid_errors_errorType)] W := h
theorem handle_of (W : World) (h : handlesMet Tryz.prog [("errors.errorType", Rows.laid_errors_errorType)] W) : W.cell? ⟨0, 0, none⟩ = some (.iface 177 (.agg #[.pointer (some ⟨9, 80, none⟩)])) := by
 obtain ⟨name, u, ty, e1, e2, e3, e4, e5⟩ := h _ (List.mem_singleton.2 rfl)
 have en : name = [101, 114, 114, 111, 114] := (Option.some.inj e1).symm
 subst en
 obtain rfl := Option.some.inj (row_rt.symm.trans e2)
 have hm : ty ∈ (List.range Tryz.prog.types.size).filter fun t => Tryz.prog.rowNamed t [101, 114, 114, 111, 114] := List.mem_filter.2 ⟨List.mem_range.2 e3, e4⟩
 rw [row_err] at hm
 obtain rfl := List.mem_singleton.1 hm
 rw [row_handle] at e5
 simpa using World.var?_cell row_ints e5 0
theorem maxW_of {w : World} (h : w.ShapedOpen Tryz.prog) : MaxW w := Go.Proofs.cell_of_shapedOpen_int (zero := #[.int .i64 0]) (t := 3) h (of_decide_eq_true (by kernel_rfl)) (by kernel_rfl) rfl (by kernel_rfl) (by kernel_rfl) Tryz.underlying3
theorem libs_of (W : World) (hL : laidMet Tryz.prog mPlain W) : LibsAt W.heap.size W := by
 have hL2 : laidMet Tryz.prog [("math/bits.deBruijn32tab", Rows.laid_math_bits_deBruijn32tab), ("math/bits.deBruijn64tab", Rows.laid_math_bits_deBruijn64tab), ("internal/strconv.uint64pow10", Rows.laid_internal_strconv_uint64pow10), ("unicode/utf8.acceptRanges", Rows.laid_unicode_utf8_acceptRanges), ("strconv.ErrRange", Rows.laid_strconv_ErrRange), ("strconv.ErrSyntax", Rows.laid_strconv_ErrSyntax), ("unicode/utf8.first", Rows.laid_unicode_utf8_first)] W := hL
 rw [first_eq, accept_eq, pow_eq] at hL2
 have hU : U8Tabs W := utf8Tabs_of_readsT (U8Types.of196 Tryz.laysValid) ⟨by kernel_rfl, by kernel_rfl, by kernel_rfl, by kernel_rfl, by kernel_rfl, by kernel_rfl, by kernel_rfl⟩ (laidMet.reads hL2 (by simp)) (laidMet.reads hL2 (by simp))
 have hP : TabIs Tryz.prog W "internal/strconv.uint64pow10" .u64 pow10Tab := tabIs_of_head (g := 6) (by kernel_rfl) (by kernel_rfl) (t := 249) Tryz.underlying249 Tryz.underlying224 (by kernel_rfl) (by kernel_rfl) hL2.tail.tail
 obtain ⟨a1, s1, hv1, _⟩ := laid_sentinel (g := 5) hL2.tail.tail.tail.tail (by kernel_rfl) (by kernel_rfl) Tryz.underlying80 row_errs Tryz.underlying254 Tryz.underlying256 rfl rfl Tryz.underlying9 (by kernel_rfl) (by kernel_rfl)
 obtain ⟨a2, s2, hv2, _⟩ := laid_sentinel (g := 4) hL2.tail.tail.tail.tail.tail (by kernel_rfl) (by kernel_rfl) Tryz.underlying80 row_errs Tryz.underlying254 Tryz.underlying256 rfl rfl Tryz.underlying9 (by kernel_rfl) (by kernel_rfl)
 exact ⟨fun w' hb => ⟨fun c hc => cell_old hb (hU.1 c hc), fun i hi => ⟨cell_old hb (hU.2 i hi).1, cell_old hb (hU.2 i hi).2⟩⟩, tabBelow_of_tabIs hP, ⟨_, _, fun w' hb => var_old hb hv2⟩, ⟨_, _, fun w' hb => var_old hb hv1⟩⟩
/-- What the walks ask for. -/
theorem mlibs_of (W : World) (hs : W.ShapedOpen Tryz.prog) (h : laidMetH Tryz.prog Rows.manifestReadsUptoRow.laid W) : MLibs W.heap.size W := by
 obtain ⟨h1, h2⟩ := laid_both W h
 exact ⟨libs_of W h1, fun w' hb => by
  obtain ⟨m, hm⟩ := maxW_of hs
  exact ⟨m, cell_old hb hm⟩, fun w' hb => cell_old hb (handle_of W h2)⟩
/-- A world that meets the condition: the handle, then the plain data laid. -/
noncomputable def mWorld0 (os : Os) : World :=
 let w0 := World.holding Tryz.prog os ⟨#[], #[], []⟩
 { w0 with heap := w0.heap.modify 0 fun
   | .cells _ t frozen => .cells #[.iface 177 (.agg #[.pointer (some ⟨9, 80, none⟩)])] t frozen
   | o => o }
noncomputable def mWorld (os : Os) : World := (mWorld0 os).layVars Tryz.prog mPlain
theorem mWorld_plain (os : Os) : laidMet Tryz.prog mPlain (mWorld os) := by
 have e1 : (mPlain.filter fun x => (mPlain.map (·.1)).contains x.1) = mPlain := List.filter_eq_self.2 fun x hx => List.contains_iff_mem.2 (List.mem_map.2 ⟨x, hx, rfl⟩)
 have e2 : (mPlain.filter fun x => !(mPlain.map (·.1)).contains x.1) = [] := List.filter_eq_nil_iff.2 fun x hx => by rw [List.contains_iff_mem.2 (List.mem_map.2 ⟨x, hx, rfl⟩)]; simp
 exact laidMet_layVars (w0 := mWorld0 os) (mPlain.map (·.1)) [] (by rw [e1]; rfl) (by rw [e1]; kernel_rfl) (by rw [e1]; kernel_rfl) (by rw [e2]; exact LaidIn.none)
theorem mWorld_met (os : Os) (args : Array Value) : laidMetH Tryz.prog Rows.manifestReadsUptoRow.laid ((mWorld os).forCall (fun _ _ => 0) ⟨#[], args, []⟩).memory :=
 laidMetH_of_parts (show laidMet Tryz.prog mPlain _ from (mWorld_plain os).of_heap (by simp [World.memory, World.forCall, Input.heap])) (by kernel_rfl)
theorem mWorld_os (os : Os) : (mWorld os).os = os := World.layVars_os _ _ _
end Go.Proofs.YtlhicfpmlncomaaGreatDoor
