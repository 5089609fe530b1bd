/-
 Layer 8: the law ManifestLacks, walked.
-/
import Derived.Test.YtlhicfpmlncomaaGreatDoorF15
import Derived.Test.YtlhicfpmlncomaaGreatDoorF02
import Derived.Test.YtlhicfpmlncomaaGreatDoorF16
import Derived.Test.YtlhicfpmlncomaaGreatDoorF11
import Derived.Test.YtlhicfpmlncomaaGreatDoorF18
import Derived.Test.YtlhicfpmlncomaaGreatDoorF12
import Derived.Test.YtlhicfpmlncomaaGreatDoorF00
set_option linter.unusedSimpArgs false
set_option linter.unusedVariables false
namespace Go.Proofs.YtlhicfpmlncomaaGreatDoor
open Go.RowKit
theorem lk {X : List Nat} {w0 w : World} {es : List Ent} (hF : Fr X w0 w es) (i j k : Nat) {g b b' n c m d : Nat} {t e e' : TypeId} {A B : Option Addr} {cs xs ys : List Value} (hi : es[i]? = some (.blk g t cs) := by rfl) (hj : es[j]? = some (.own b e 1 (.slice A n c) n xs) := by rfl) (hk : es[k]? = some (.own b' e' 5 (.slice B m d) m ys) := by rfl) :
  w.heap[g]? = some (.cells cs.toArray t (0, 0)) ∧ Rd w (fun _ => True) A 1 n xs ∧ Rd w (fun _ => True) B 5 m ys := ⟨hF.blk hi, (hF.rdOwn hj).mono (fun _ _ => trivial), (hF.rdOwn hk).mono (fun _ _ => trivial)⟩
theorem RdDoc.lenN {w : World} {d : MDoc} {cs : List Value} (h : RdDoc w d cs) : cs.length = 75 := by
 obtain ⟨cf, eg, sj, nt, h1, h2, h3, h4, rfl⟩ := h
 exact docL_len h1.len h3.len
theorem u_modL (x : Int) (m : Nat) (h0 : 0 < m) (h : m ≤ 5000) : (IntKind.u64.wrap (m : Int)) ≠ 0 ∧ ∃ b : Nat, b < m ∧ IntKind.i64.wrap ((IntKind.u64.wrap x).tmod (IntKind.u64.wrap (m : Int))) = (b : Int) := by
 have hm : IntKind.u64.wrap (m : Int) = (m : Int) := by
  simp only [IntKind.wrap, IntKind.bits, IntKind.signed]
  simp
  omega
 have h1 : 0 ≤ IntKind.u64.wrap x := by
  simp only [IntKind.wrap, IntKind.bits, IntKind.signed]
  simp
  omega
 have h2 : 0 ≤ (IntKind.u64.wrap x).tmod (m : Int) := Int.tmod_nonneg _ h1
 have h3 : (IntKind.u64.wrap x).tmod (m : Int) < m := Int.tmod_lt_of_pos _ (by omega)
 rw [hm]
 refine ⟨by omega, ((IntKind.u64.wrap x).tmod (m : Int)).toNat, by omega, ?_⟩
 simp only [IntKind.wrap, IntKind.bits, IntKind.signed] at *
 simp at *
 omega
theorem tMems_posL (D : MDoc) : 0 < (tMems D).length := by
 unfold tMems
 simp only [List.length_append, List.length_cons]
 omega
theorem jWrite_lenL {u : JV} {l : List UInt8} {f : Nat} (h : jWrite u = (l, f)) : l.length ≤ 65536 := by
 unfold jWrite at h
 split at h
 ·injection h with h1 h2; subst h1 h2; simp
 ·split at h
  ·injection h with h1 h2; subst h1 h2; simp
  ·injection h with h1 h2; subst h1 h2; omega
theorem tNames_not {key : List UInt8} (h : ∀ j, j < 8 → tNames[j]? ≠ some key) : key ∉ tNames := fun hm => by
 obtain ⟨j, hj⟩ := List.mem_iff_getElem?.1 hm
 exact h j (List.getElem?_eq_some_iff.1 hj).1 hj
theorem tNames_some {i : Nat} (h : i < 8) : ∃ nm, tNames[i]? = some nm := ⟨_, List.getElem?_eq_getElem (show i < tNames.length from h)⟩
def tWords : List Value := tNames.map strv
theorem tWords_at {i : Nat} {x : List UInt8} (h : tNames[i]? = some x) : tWords[i]? = some (.string ⟨x.toArray⟩) := by
 unfold tWords
 rw [List.getElem?_map, h]
 rfl
theorem nmL_one (ms : List (List UInt8 × JV)) : ∀ u ∈ nmL ms, u.oneCell' = true := by
 unfold nmL
 intro u hu
 obtain ⟨s, _, rfl⟩ := List.mem_map.1 hu
 rfl
theorem lacks_vrd {w : World} {key : List UInt8} {M : List (List UInt8 × JV)} {nk c d : Nat} {A B : Option Addr} {ys : List Value} (hl : nk = M.length) (hc : 1 + nk ≤ c) (hd : 1 + nk ≤ d) (hn : Rd w (· < w.heap.size) A 1 (1 + nk) ([.string ⟨key.toArray⟩] ++ nmL M)) (hk : Rd w (· < w.heap.size) B 5 (1 + nk) (vl0 ++ ys)) (h : VRdL w (· < w.heap.size) (M.map (fun x => x.2)) ys) :
  VRd w (· < w.heap.size) (jO ((key, .null) :: M)) (vlL 6 0 ⟨#[]⟩ (.slice A (1 + nk) c) (.slice B (1 + nk) d)) := by
 unfold jO VRd
 refine ⟨A, 1 + nk, c, B, 1 + nk, d, vl0 ++ ys, hc, hd, rfl, hn, hk, ?_⟩
 rw [List.map_cons]
 unfold VRdL
 exact ⟨vl0, ys, rfl, VRd_null _ _, h⟩
set_option maxRecDepth 20000 in
set_option maxHeartbeats 51200000 in
theorem manifestLacks_any (D : MDoc) (cs : List Value) (at_ : Int) (keyB : ByteArray) (w : World) (hL : MLibs w.heap.size w) (hD : RdDoc w D cs) (hwD : dcW D ≤ 1048576) (hkl' : keyB.size ≤ 1048576) :
  Calls Tryz.prog 6 #[.agg cs.toArray, .int .i64 at_, .string keyB] w fun e w' => e = .returned (.bool true) ∧ Below w.heap.size w w' := by
 obtain ⟨key, rfl⟩ : ∃ l : List UInt8, keyB = ⟨l.toArray⟩ := ⟨keyB.data.toList, by cases keyB; simp⟩
 rw [str_mk_size] at hkl'
 have hcl := box hD.lenN
 have hdig := hD.dig
 have hsm := dc_sm hwD
 have hri := box (fun (w' : World) (hb : Below w.heap.size w w') => rright_any D cs w' (hD.on hb) hsm)
 have hte := box (fun (w' : World) (hb : Below w.heap.size w w') => rtellO_any D cs w' (hD.on hb) hsm)
 have haw := box (fun (w' : World) (hb : Below w.heap.size w w') => mawake_any w' w.heap.size hb.size (hL.on hb))
 have hF0 := Fr.nil w
 by_cases hr : mRight D
 ·rw [decide_eq_true hr] at hri
  have hwL := box (fun (x : List UInt8 × JV) (ms : List (List UInt8 × JV)) (hp : (x :: ms).Perm (tMems D)) => tell_okL hr hdig hwD hp)
  have hwM := box (tell_okM (key := key) hr hdig hwD hkl')
  have hml := box (fun (x : List UInt8 × JV) (ms : List (List UInt8 × JV)) (hp : (x :: ms).Perm (tMems D)) (l : List UInt8) (h : jWrite (jO ms) = (l, 0)) => mLacks hr hdig hp h)
  have hmm := box (fun (hk : key ∉ tNames) (l : List UInt8) (h : jWrite (jO ((key, .null) :: tMems D)) = (l, 0)) => mMore hk h)
  have hnk8' := mems_len D
  have hnk0' := tMems_posL D
  obtain ⟨M, hM⟩ : ∃ M, M = tMems D := ⟨_, rfl⟩
  obtain ⟨nk, hnk⟩ : ∃ nk, nk = M.length := ⟨_, rfl⟩
  rw [← hM] at hwL hwM hml hmm hnk8' hnk0'
  have hnk0 : 0 < nk := by rw [hnk]; exact hnk0'
  have hnk8 : nk ≤ 8 := by rw [hnk]; exact hnk8'
  replace hM := box hM
  have hlk := box hnk
  have hps := box (fun (l : List UInt8) (A : Option Addr) (n c : Nat) (w' : World) (hb : Below w.heap.size w w') (hnc : n ≤ c) (hn : n ≤ 140737488355328) h => mparse_any A n c l w' ((hL.on hb).up hb.size) hnc hn h)
  obtain ⟨hnz2', a, ha, hae'⟩ := u_modL at_ nk hnk0 (by omega)
  have hnz2 := box hnz2'
  have hae := box hae'
  obtain ⟨x, hx⟩ : ∃ x, M[a]? = some x := ⟨M[a]'(by rw [← hnk]; exact ha), by simp⟩
  have hpx : Box ((x :: lessL M a nk).Perm M) := box (by rw [hnk]; exact lessL_all hx)
  have hmx := box hx
  obtain ⟨gn, hgn⟩ : ∃ gn, gn = x.1 := ⟨_, rfl⟩
  have hga : Box ((nmL M)[a]? = some (.string ⟨gn.toArray⟩)) := box (by rw [hgn]; exact nmL_at hx)
  obtain ⟨tm, htm'⟩ : ∃ tm, tm = tMay gn := ⟨_, rfl⟩
  have htm := box htm'
  have hml2 := box (fun (l : List UInt8) (h : jWrite (jO (lessL M a nk)) = (l, 0)) => (by
   have h2 := hml.out x (lessL M a nk) hpx.out l h
   rw [← hgn, ← htm'] at h2
   exact h2 : mCode (mParse l) = if tm = true then 0 else 80))
  have hwL2 := box (hwL.out x (lessL M a nk) hpx.out)
  clear hr hdig hwD hsm hD hnk8' hnk0' hnk hnz2' hae' hx hgn htm' hml hwL hpx hL
  go_enter Tryz.func6, Tryz.ntmps6
  go_wp2_with (first | ((with_reducible refine lsx (wp_fbox hF0 (cs := cs) rfl (by with_unfolding_all rfl) (by with_unfolding_all rfl) ?_)); intro w1 g1 hF1 hz1))
  refine (haw.out _ hF1.below).mono ?_
  rintro e w2 ⟨rfl, hb2⟩
  have hF2 := hF1.call hb2
  clear hF0 hF1
  go_wp2_with (first | (with_reducible refine lsx (wp_fldA0 hF2 uq40 rfl (by with_unfolding_all exact ⟨_, rfl, rfl⟩) (ds := cs) (by rw [hcl.out]; kernel_rfl) (take_all _) ?_)))
  refine (hri.out _ hF2.below).mono ?_
  rintro e w3 ⟨rfl, hb3⟩
  have hF3 := hF2.call hb3
  clear hF2 hri
  go_wp2_with (first | (with_reducible refine lsx (wp_fldA0 hF3 uq40 rfl (by with_unfolding_all exact ⟨_, rfl, rfl⟩) (ds := cs) (by rw [hcl.out]; kernel_rfl) (take_all _) ?_)))
  refine (hte.out _ hF3.below).mono ?_
  rintro e w4 ⟨A, n4, c, B, m4, d, ys, TE, rfl, ⟨hn4, hm4⟩, hnc4, hmd4, hT4, h4⟩
  rw [← hM.out, ← hlk.out] at hn4 hm4
  rw [← hM.out] at hT4 h4
  obtain rfl : nk = n4 := hn4.symm
  obtain rfl : nk = m4 := hm4.symm
  clear hn4 hm4
  obtain ⟨b0, hb0⟩ : ∃ b, w3.heap.size = b := ⟨_, rfl⟩
  rw [hb0] at h4
  have h4' : Fr [] w3 w4 (.own b0 9 1 (.slice A nk c) nk (nmL M) :: .own b0 51 5 (.slice B nk d) nk ys :: TE) := h4
  have hF4 := hF3.joinR h4'
  simp only [List.cons_append, List.nil_append] at hF4
  have hyso := box hT4.one
  have hKM := box (KL.of hT4)
  have hBs := box (fun (h : 0 < nk) => (hF4.rdOwn (i := 2) rfl).some_ h)
  have hAs := box (fun (h : 0 < nk) => (hF4.rdOwn (i := 1) rfl).some_ h)
  replace hb0 := box hb0
  clear hte h4 hT4 hF3 h4'
  go_upto_region 4 with (first | ((with_reducible refine lsx (wp_falloc hF4 (cs := vl0) (z := .agg (List.toArray (vl0))) rfl (by kernel_rfl) (by with_unfolding_all rfl) ?_)); intro w5 g5 hF5 hz5) | ((with_reducible refine lsx (wp_fstA0 hF5 (by with_unfolding_all exact ⟨_, _, rfl, rfl, rfl⟩) (by rw [vlL_len]; kernel_rfl) vlL_one vlL_fit vlL_spl ?_)); intro w6 hF6 hz6))
  clear hF4 hF5
  go_upto_region 5 with (first | (with_reducible refine lsx (wp_fld0 hF6 uq49 rfl (by with_unfolding_all exact ⟨_, rfl, rfl⟩) rfl ?_)) | (with_reducible refine lsx (wp_convK (by with_unfolding_all rfl) uq3 uq60 (by with_unfolding_all rfl) rfl ?_)) | (with_reducible refine lsx (wp_remK (by with_unfolding_all rfl) (by with_unfolding_all rfl) (by with_unfolding_all rfl) hnz2.out rfl ?_)) | (with_reducible refine lsx (wp_convK (by with_unfolding_all rfl) uq60 uq3 (by with_unfolding_all rfl) hae.out ?_)))
  go_upto_region 6 with (first | (with_reducible refine lsx (wp_fld0 hF6 uq48 rfl (by with_unfolding_all exact ⟨_, rfl, rfl⟩) rfl ?_)) | (with_reducible refine lsx (wp_indexAddr T_strs (hF6.rdOwn (i := 2) rfl) (by with_unfolding_all exact ⟨_, _, _, _, rfl, rfl, rfl⟩) (by omega) (by omega) ?_)) | (with_reducible refine lsx (wp_load1C (hF6.rdOwn (i := 2) rfl) hga uq9 rfl (by with_unfolding_all exact ⟨_, rfl, rfl⟩) (by first | (simp; done) | (simp; omega) | omega) ?_)))
  go_upto_block 0 with (first | (with_reducible refine lsx (wp_fbuild uq51 (z := .agg (List.toArray vl0)) (by kernel_rfl) (pl := vlP) (by kernel_rfl) (cs := (vlL 6 0 ⟨#[]⟩ (.slice none 0 0) (.slice none 0 0))) rfl (vs := [(0, .int .i64 6)]) (by with_unfolding_all rfl) (by with_unfolding_all rfl) ?_)) | ((with_reducible refine lsx (wp_falloc hF6 (cs := vl0) (z := .agg (List.toArray (vl0))) rfl (by kernel_rfl) (by with_unfolding_all rfl) ?_)); intro w9 g9 hF9 hz9) | ((with_reducible refine lsx (wp_fstA0 hF9 (by with_unfolding_all exact ⟨_, _, rfl, rfl, rfl⟩) (by rw [vlL_len]; kernel_rfl) vlL_one vlL_fit vlL_spl ?_)); intro w10 hF10 hz10) | (with_reducible refine lsx (wp_fld1 hF10 uq49 rfl (by with_unfolding_all exact ⟨_, rfl, rfl⟩) rfl ?_)))
  have hF11 := (hF10.none_ w.heap.size 51 5).none_ w.heap.size 9 1
  clear hF6 hF9 hF10 hga hnz2 hae
  go_wp2_with fail
  go_loopg [46] nk (fun gk iv wr => ∃ (i k : Nat) (A1 : Option Addr) (c1 : Nat) (B1 : Option Addr) (d1 : Nat) (zs : List Value), i ≤ nk ∧ Box (gk = nk - i) ∧ iv = .int .i64 (i : Int) ∧ k ≤ c1 ∧ k ≤ d1 ∧ Box (k = (lessL M a i).length) ∧ k ≤ i ∧ Box (KL (lessL M a i) zs TE) ∧ Fr [] w wr (.own w.heap.size 9 1 (.slice A1 k c1) k (nmL (lessL M a i)) :: .own w.heap.size 51 5 (.slice B1 k d1) k zs :: .blk g9 51 (vlL 6 0 ⟨#[]⟩ (.slice A1 k c1) (.slice B1 k d1)) :: .blk g5 51 (vlL 6 0 ⟨#[]⟩ (.slice A nk c) (.slice B nk d)) :: .blk g1 40 cs :: .own b0 9 1 (.slice A nk c) nk (nmL M) :: .own b0 51 5 (.slice B nk d) nk ys :: TE))
  case atStart => exact ⟨0, 0, none, 0, none, 0, [], by omega, box rfl, rfl, by omega, by omega, box (by rw [lessL_zero]; rfl), by omega, box (by rw [lessL_zero]; exact KL.nilT TE), by rw [lessL_zero]; exact hF11⟩
  case round =>
   clear hF11
   obtain ⟨i, k, A1, c1, B1, d1, zs, hi2, hgi, rfl, hkc, hkd, hkl, hki, hKL, hF⟩ := hrel
   have hkk : Box (_ = nk - i) := hgi
   clear hgi
   by_cases hlt : i < nk
   ·obtain ⟨y, hy⟩ : ∃ y, M[i]? = some y := ⟨M[i]'(by rw [← hlk.out]; exact hlt), by simp⟩
    by_cases hia : i = a
    ·subst hia
     have hLs := box (lessL_at hy)
     clear hy
     go_wp2_with fail
     go_roundg (nk - (i + 1))
     case rel => exact ⟨i + 1, k, A1, c1, B1, d1, zs, by omega, box rfl, by go_num, hkc, hkd, by rw [hLs.out]; exact hkl, by omega, by rw [hLs.out]; exact hKL, by rw [hLs.out]; exact hF⟩
     case measure => have := hkk.out; omega
    ·have hne : ((i : Int) != (a : Int)) = true := by rw [bne_iff_ne]; omega
     have hLs := box (lessL_ne hy hia)
     obtain ⟨E, hE, hv⟩ := hKM.out.2 i y hy
     obtain ⟨ci, hci'⟩ : ∃ ci, (ys.drop (i * 5)).take 5 = ci := ⟨_, rfl⟩
     rw [hci'] at hv
     have hci := box hci'
     have hcil := box hv.len
     have hcio := box hv.one
     have hny : Box ((nmL M)[i]? = some (.string ⟨y.1.toArray⟩)) := box (nmL_at hy)
     have hKL2 : Box (KL (lessL M a (i + 1)) (zs ++ ci) TE) := box (by rw [hLs.out]; exact hKL.out.snoc hv hE)
     have hLl : Box (k + 1 = (lessL M a (i + 1)).length) := box (by rw [hLs.out, List.length_append, ← hkl.out]; rfl)
     replace hia := box hia
     clear hy hE hv hci'
     go_upto_region 11 with fail
     have hFd := hF.drew
     clear hF
     refine wp_region_held (S := fun w' => w'.heap[g5]? = some (.cells (List.toArray (vlL 6 0 ⟨#[]⟩ (.slice A nk c) (.slice B nk d))) 51 (0, 0)) ∧ Rd w' (fun _ => True) A 1 nk (nmL M) ∧ Rd w' (fun _ => True) B 5 nk ys) (by kernel_rfl) ?_
     change wpAnyH _ _ _ _ _ _ _ _ (World.drew _)
     refine tkp 0 (lk hFd 3 5 6) ?_
     (try simp only [zP, zQ, zS, zZ, zN])
     refine tkp 2 (lk hFd 3 5 6) ?_
     (try simp only [zP, zQ, zS, zZ, zN])
     refine tky 3 (y := yi_fld (by with_unfolding_all rfl) (fun _ h => h.1) uq48 rfl (by with_unfolding_all exact ⟨_, rfl, rfl⟩) rfl) (s := (lk hFd 3 5 6)) (h := ?_)
     (try simp only [zP, zQ, zS, zZ, zN])
     refine tkp 4 (lk hFd 3 5 6) ?_
     (try simp only [zP, zQ, zS, zZ, zN])
     refine tky 5 (y := yi_ix (by with_unfolding_all rfl) T_strs hAs.out (k := i) (by with_unfolding_all exact ⟨_, _, _, _, rfl, rfl, rfl⟩) rfl (by omega)) (s := (lk hFd 3 5 6)) (h := ?_)
     (try simp only [zP, zQ, zS, zZ, zN])
     refine tky 6 (y := yi_ld (by with_unfolding_all rfl) (j := i * 1) (fun _ h => h.2.1) uq9 rfl (by with_unfolding_all exact ⟨_, rfl, rfl⟩) (by rw [Nat.mul_one]; exact hny.out)) (s := (lk hFd 3 5 6)) (h := ?_)
     (try simp only [zP, zQ, zS, zZ, zN])
     refine tkp 9 (lk hFd 3 5 6) ?_
     (try simp only [zP, zQ, zS, zZ, zN])
     refine tkp 11 (lk hFd 3 5 6) ?_
     (try simp only [zP, zQ, zS, zZ, zN])
     refine tky 12 (y := yi_fld (by with_unfolding_all rfl) (fun _ h => h.1) uq49 rfl (by with_unfolding_all exact ⟨_, rfl, rfl⟩) rfl) (s := (lk hFd 3 5 6)) (h := ?_)
     (try simp only [zP, zQ, zS, zZ, zN])
     refine tkp 13 (lk hFd 3 5 6) ?_
     (try simp only [zP, zQ, zS, zZ, zN])
     refine tky 14 (y := yi_ix (by with_unfolding_all rfl) T_rvals hBs.out (k := i) (by with_unfolding_all exact ⟨_, _, _, _, rfl, rfl, rfl⟩) rfl (by omega)) (s := (lk hFd 3 5 6)) (h := ?_)
     (try simp only [zP, zQ, zS, zZ, zN])
     refine tky 15 (y := yi_ldA (by with_unfolding_all rfl) (j := i * 5) (fun _ h => h.2.2) uq51 rfl (by with_unfolding_all exact ⟨_, rfl, rfl⟩) (ds := ci) (by rw [hcil.out]; kernel_rfl) (by rw [hcil.out]; exact hci.out)) (s := (lk hFd 3 5 6)) (h := ?_)
     (try simp only [zP, zQ, zS, zZ, zN])
     refine wpAnyH_ready (rs := [1, 7, 10, 16]) (by kernel_rfl) (by simp) ?_
     refine AllReadyH.cons (by simp only [List.getElem?_toArray, List.getElem?_cons_zero, List.getElem?_cons_succ]; rfl) (fun K hK => ?_) ?_
     ·as_aux_lemma =>
       refine stp (by with_unfolding_all rfl) (wp_fld hFd (i := 2) rfl uq48 rfl (by with_unfolding_all exact ⟨_, rfl, rfl⟩) rfl ?_)
       refine hK.out _ _ ((lk hFd 3 5 6)) (fun _ => ?_)
       clear hK K
       (try simp only [zP, zQ, zS, zZ, zN])
       refine wpAnyH_ready (rs := [7, 10, 16]) (by kernel_rfl) (by simp) ?_
       refine AllReadyH.cons (by simp only [List.getElem?_toArray, List.getElem?_cons_zero, List.getElem?_cons_succ]; rfl) (fun K hK => ?_) ?_
       ·as_aux_lemma =>
         refine stp (by with_unfolding_all rfl) (wp_fbsl T_strs hFd (vs := [.string ⟨y.1.toArray⟩]) (by with_unfolding_all rfl) (by with_unfolding_all rfl) (by with_unfolding_all rfl) (by decide) (by simp [Value.cells]) ?_)
         intro w31 g31 hF31 hz31
         refine hK.out _ _ ((lk hF31 4 6 7)) (fun _ => ?_)
         clear hK K
         (try simp only [zP, zQ, zS, zZ, zN])
         refine wpAnyH_ready (rs := [8, 10, 16]) (by kernel_rfl) (by simp) ?_
         refine AllReadyH.cons (by simp only [List.getElem?_toArray, List.getElem?_cons_zero, List.getElem?_cons_succ]; rfl) (fun K hK => ?_) ?_
         ·as_aux_lemma =>
           refine stp (by with_unfolding_all rfl) (wp_fappG T_strs hF31 (i := 1) rfl (Nat.le_refl _) (hF31.rdOwn (i := 0) rfl) (strs_one1 _) (by with_unfolding_all exact ⟨_, _, rfl, rfl, rfl⟩) (by unfold maxLen; omega) (by omega) ?_)
           intro v32 w32 hF32 hz32
           (try simp only [zZ, zN] at hF32)
           obtain ⟨A32, c32, rfl, hc32⟩ := hF32.ownParts (i := 1) rfl
           refine hK.out _ _ ((lk hF32 4 6 7)) (fun _ => ?_)
           clear hK K
           (try simp only [zP, zQ, zS, zZ, zN])
           refine wpAnyH_ready (rs := [10, 16]) (by kernel_rfl) (by simp) ?_
           refine AllReadyH.cons (by simp only [List.getElem?_toArray, List.getElem?_cons_zero, List.getElem?_cons_succ]; rfl) (fun K hK => ?_) ?_
           ·refine stp (by with_unfolding_all rfl) (wp_fld hF32 (i := 3) rfl uq49 rfl (by with_unfolding_all exact ⟨_, rfl, rfl⟩) rfl ?_)
            refine hK.out _ _ ((lk hF32 4 6 7)) (fun _ => ?_)
            clear hK K
            (try simp only [zP, zQ, zS, zZ, zN])
            refine tkp 18 (lk hF32 4 6 7) ?_
            (try simp only [zP, zQ, zS, zZ, zN])
            refine rdy1 16 (fun K hK => ?_)
            refine stp (by with_unfolding_all rfl) (wp_fbs1 T_rvals hF32 (by with_unfolding_all rfl) (ds := ci) (by with_unfolding_all rfl) hcil.out (by decide) ?_)
            intro w33 g33 hF33 hz33
            refine hK.out _ _ ((lk hF33 5 7 8)) (fun _ => ?_)
            clear hK K
            (try simp only [zP, zQ, zS, zZ, zN])
            refine rdy1 17 (fun K hK => ?_)
            refine stp (by with_unfolding_all rfl) (wp_fappG T_rvals hF33 (i := 3) rfl (Nat.le_refl _) (hF33.rdOwn (i := 0) rfl) hcio.out (by with_unfolding_all exact ⟨_, _, rfl, rfl, rfl⟩) (by unfold maxLen; omega) (by omega) ?_)
            intro v34 w34 hF34 hz34
            (try simp only [zZ, zN] at hF34)
            obtain ⟨A34, c34, rfl, hc34⟩ := hF34.ownParts (i := 3) rfl
            refine hK.out _ _ ((lk hF34 5 7 8)) (fun _ => ?_)
            clear hK K
            (try simp only [zP, zQ, zS, zZ, zN])
            refine rdy1 19 (fun K hK => ?_)
            refine stp (by with_unfolding_all rfl) (wp_fst hF34 (i := 4) rfl (v := .slice A32 (k + 1) c32) (by with_unfolding_all exact ⟨_, _, rfl, rfl, rfl⟩) (by kernel_rfl) rfl rfl (by rw [vlL_len]; decide) ?_)
            intro w35 hF35 hz35
            (try simp only [zZ, zN] at hF35)
            rw [(vlL_3 (k := 6) (n := 0) (t := ⟨#[]⟩) (a := .slice A1 k c1) (b := .slice B1 k d1))] at hF35
            refine hK.out _ _ ((lk hF35 5 7 8)) (fun _ => ?_)
            clear hK K
            (try simp only [zP, zQ, zS, zZ, zN])
            refine tkp 20 (lk hF35 5 7 8) ?_
            (try simp only [zP, zQ, zS, zZ, zN])
            refine rdy1 21 (fun K hK => ?_)
            refine stp (by with_unfolding_all rfl) (wp_fst hF35 (i := 4) rfl (v := .slice A34 (k + 1) c34) (by with_unfolding_all exact ⟨_, _, rfl, rfl, rfl⟩) (by kernel_rfl) rfl rfl (by rw [vlL_len]; decide) ?_)
            intro w36 hF36 hz36
            (try simp only [zZ, zN] at hF36)
            rw [(vlL_4 (k := 6) (n := 0) (t := ⟨#[]⟩) (a := .slice A32 (k + 1) c32) (b := .slice B1 k d1))] at hF36
            refine hK.out _ _ ((lk hF36 5 7 8)) (fun _ => ?_)
            clear hK K
            (try simp only [zP, zQ, zS, zZ, zN])
            refine wpAnyH_done (by kernel_rfl) ?_ _
            go_wp2_with fail
            go_roundg (nk - (i + 1))
            case rel => exact ⟨i + 1, k + 1, A32, c32, A34, c34, zs ++ ci, by omega, box rfl, by go_num, hc32, hc34, hLl, by omega, hKL2, by rw [hLs.out, nmL_snoc]; exact hF36.tail.tail⟩
            case measure => have := hkk.out; omega
           refine AllReadyH.cons (by simp only [List.getElem?_toArray, List.getElem?_cons_zero, List.getElem?_cons_succ]; rfl) (fun K hK => ?_) ?_
           ·refine stp (by with_unfolding_all rfl) (wp_fbs1 T_rvals hF32 (by with_unfolding_all rfl) (ds := ci) (by with_unfolding_all rfl) hcil.out (by decide) ?_)
            intro w33 g33 hF33 hz33
            refine hK.out _ _ ((lk hF33 5 7 8)) (fun _ => ?_)
            clear hK K
            (try simp only [zP, zQ, zS, zZ, zN])
            refine rdy1 10 (fun K hK => ?_)
            refine stp (by with_unfolding_all rfl) (wp_fld hF33 (i := 4) rfl uq49 rfl (by with_unfolding_all exact ⟨_, rfl, rfl⟩) rfl ?_)
            refine hK.out _ _ ((lk hF33 5 7 8)) (fun _ => ?_)
            clear hK K
            (try simp only [zP, zQ, zS, zZ, zN])
            refine tkp 18 (lk hF33 5 7 8) ?_
            (try simp only [zP, zQ, zS, zZ, zN])
            refine rdy1 17 (fun K hK => ?_)
            refine stp (by with_unfolding_all rfl) (wp_fappG T_rvals hF33 (i := 3) rfl (Nat.le_refl _) (hF33.rdOwn (i := 0) rfl) hcio.out (by with_unfolding_all exact ⟨_, _, rfl, rfl, rfl⟩) (by unfold maxLen; omega) (by omega) ?_)
            intro v34 w34 hF34 hz34
            (try simp only [zZ, zN] at hF34)
            obtain ⟨A34, c34, rfl, hc34⟩ := hF34.ownParts (i := 3) rfl
            refine hK.out _ _ ((lk hF34 5 7 8)) (fun _ => ?_)
            clear hK K
            (try simp only [zP, zQ, zS, zZ, zN])
            refine rdy1 19 (fun K hK => ?_)
            refine stp (by with_unfolding_all rfl) (wp_fst hF34 (i := 4) rfl (v := .slice A32 (k + 1) c32) (by with_unfolding_all exact ⟨_, _, rfl, rfl, rfl⟩) (by kernel_rfl) rfl rfl (by rw [vlL_len]; decide) ?_)
            intro w35 hF35 hz35
            (try simp only [zZ, zN] at hF35)
            rw [(vlL_3 (k := 6) (n := 0) (t := ⟨#[]⟩) (a := .slice A1 k c1) (b := .slice B1 k d1))] at hF35
            refine hK.out _ _ ((lk hF35 5 7 8)) (fun _ => ?_)
            clear hK K
            (try simp only [zP, zQ, zS, zZ, zN])
            refine tkp 20 (lk hF35 5 7 8) ?_
            (try simp only [zP, zQ, zS, zZ, zN])
            refine rdy1 21 (fun K hK => ?_)
            refine stp (by with_unfolding_all rfl) (wp_fst hF35 (i := 4) rfl (v := .slice A34 (k + 1) c34) (by with_unfolding_all exact ⟨_, _, rfl, rfl, rfl⟩) (by kernel_rfl) rfl rfl (by rw [vlL_len]; decide) ?_)
            intro w36 hF36 hz36
            (try simp only [zZ, zN] at hF36)
            rw [(vlL_4 (k := 6) (n := 0) (t := ⟨#[]⟩) (a := .slice A32 (k + 1) c32) (b := .slice B1 k d1))] at hF36
            refine hK.out _ _ ((lk hF36 5 7 8)) (fun _ => ?_)
            clear hK K
            (try simp only [zP, zQ, zS, zZ, zN])
            refine wpAnyH_done (by kernel_rfl) ?_ _
            go_wp2_with fail
            go_roundg (nk - (i + 1))
            case rel => exact ⟨i + 1, k + 1, A32, c32, A34, c34, zs ++ ci, by omega, box rfl, by go_num, hc32, hc34, hLl, by omega, hKL2, by rw [hLs.out, nmL_snoc]; exact hF36.tail.tail⟩
            case measure => have := hkk.out; omega
           exact AllReadyH.nil
         refine AllReadyH.cons (by simp only [List.getElem?_toArray, List.getElem?_cons_zero, List.getElem?_cons_succ]; rfl) (fun K hK => ?_) ?_
         ·as_aux_lemma =>
           refine stp (by with_unfolding_all rfl) (wp_fld hF31 (i := 3) rfl uq49 rfl (by with_unfolding_all exact ⟨_, rfl, rfl⟩) rfl ?_)
           refine hK.out _ _ ((lk hF31 4 6 7)) (fun _ => ?_)
           clear hK K
           (try simp only [zP, zQ, zS, zZ, zN])
           refine wpAnyH_ready (rs := [8, 16]) (by kernel_rfl) (by simp) ?_
           refine AllReadyH.cons (by simp only [List.getElem?_toArray, List.getElem?_cons_zero, List.getElem?_cons_succ]; rfl) (fun K hK => ?_) ?_
           ·refine stp (by with_unfolding_all rfl) (wp_fappG T_strs hF31 (i := 1) rfl (Nat.le_refl _) (hF31.rdOwn (i := 0) rfl) (strs_one1 _) (by with_unfolding_all exact ⟨_, _, rfl, rfl, rfl⟩) (by unfold maxLen; omega) (by omega) ?_)
            intro v32 w32 hF32 hz32
            (try simp only [zZ, zN] at hF32)
            obtain ⟨A32, c32, rfl, hc32⟩ := hF32.ownParts (i := 1) rfl
            refine hK.out _ _ ((lk hF32 4 6 7)) (fun _ => ?_)
            clear hK K
            (try simp only [zP, zQ, zS, zZ, zN])
            refine tkp 18 (lk hF32 4 6 7) ?_
            (try simp only [zP, zQ, zS, zZ, zN])
            refine rdy1 16 (fun K hK => ?_)
            refine stp (by with_unfolding_all rfl) (wp_fbs1 T_rvals hF32 (by with_unfolding_all rfl) (ds := ci) (by with_unfolding_all rfl) hcil.out (by decide) ?_)
            intro w33 g33 hF33 hz33
            refine hK.out _ _ ((lk hF33 5 7 8)) (fun _ => ?_)
            clear hK K
            (try simp only [zP, zQ, zS, zZ, zN])
            refine rdy1 17 (fun K hK => ?_)
            refine stp (by with_unfolding_all rfl) (wp_fappG T_rvals hF33 (i := 3) rfl (Nat.le_refl _) (hF33.rdOwn (i := 0) rfl) hcio.out (by with_unfolding_all exact ⟨_, _, rfl, rfl, rfl⟩) (by unfold maxLen; omega) (by omega) ?_)
            intro v34 w34 hF34 hz34
            (try simp only [zZ, zN] at hF34)
            obtain ⟨A34, c34, rfl, hc34⟩ := hF34.ownParts (i := 3) rfl
            refine hK.out _ _ ((lk hF34 5 7 8)) (fun _ => ?_)
            clear hK K
            (try simp only [zP, zQ, zS, zZ, zN])
            refine rdy1 19 (fun K hK => ?_)
            refine stp (by with_unfolding_all rfl) (wp_fst hF34 (i := 4) rfl (v := .slice A32 (k + 1) c32) (by with_unfolding_all exact ⟨_, _, rfl, rfl, rfl⟩) (by kernel_rfl) rfl rfl (by rw [vlL_len]; decide) ?_)
            intro w35 hF35 hz35
            (try simp only [zZ, zN] at hF35)
            rw [(vlL_3 (k := 6) (n := 0) (t := ⟨#[]⟩) (a := .slice A1 k c1) (b := .slice B1 k d1))] at hF35
            refine hK.out _ _ ((lk hF35 5 7 8)) (fun _ => ?_)
            clear hK K
            (try simp only [zP, zQ, zS, zZ, zN])
            refine tkp 20 (lk hF35 5 7 8) ?_
            (try simp only [zP, zQ, zS, zZ, zN])
            refine rdy1 21 (fun K hK => ?_)
            refine stp (by with_unfolding_all rfl) (wp_fst hF35 (i := 4) rfl (v := .slice A34 (k + 1) c34) (by with_unfolding_all exact ⟨_, _, rfl, rfl, rfl⟩) (by kernel_rfl) rfl rfl (by rw [vlL_len]; decide) ?_)
            intro w36 hF36 hz36
            (try simp only [zZ, zN] at hF36)
            rw [(vlL_4 (k := 6) (n := 0) (t := ⟨#[]⟩) (a := .slice A32 (k + 1) c32) (b := .slice B1 k d1))] at hF36
            refine hK.out _ _ ((lk hF36 5 7 8)) (fun _ => ?_)
            clear hK K
            (try simp only [zP, zQ, zS, zZ, zN])
            refine wpAnyH_done (by kernel_rfl) ?_ _
            go_wp2_with fail
            go_roundg (nk - (i + 1))
            case rel => exact ⟨i + 1, k + 1, A32, c32, A34, c34, zs ++ ci, by omega, box rfl, by go_num, hc32, hc34, hLl, by omega, hKL2, by rw [hLs.out, nmL_snoc]; exact hF36.tail.tail⟩
            case measure => have := hkk.out; omega
           refine AllReadyH.cons (by simp only [List.getElem?_toArray, List.getElem?_cons_zero, List.getElem?_cons_succ]; rfl) (fun K hK => ?_) ?_
           ·refine stp (by with_unfolding_all rfl) (wp_fbs1 T_rvals hF31 (by with_unfolding_all rfl) (ds := ci) (by with_unfolding_all rfl) hcil.out (by decide) ?_)
            intro w32 g32 hF32 hz32
            refine hK.out _ _ ((lk hF32 5 7 8)) (fun _ => ?_)
            clear hK K
            (try simp only [zP, zQ, zS, zZ, zN])
            refine rdy1 8 (fun K hK => ?_)
            refine stp (by with_unfolding_all rfl) (wp_fappG T_strs hF32 (i := 2) rfl (Nat.le_refl _) (hF32.rdOwn (i := 1) rfl) (strs_one1 _) (by with_unfolding_all exact ⟨_, _, rfl, rfl, rfl⟩) (by unfold maxLen; omega) (by omega) ?_)
            intro v33 w33 hF33 hz33
            (try simp only [zZ, zN] at hF33)
            obtain ⟨A33, c33, rfl, hc33⟩ := hF33.ownParts (i := 2) rfl
            refine hK.out _ _ ((lk hF33 5 7 8)) (fun _ => ?_)
            clear hK K
            (try simp only [zP, zQ, zS, zZ, zN])
            refine tkp 18 (lk hF33 5 7 8) ?_
            (try simp only [zP, zQ, zS, zZ, zN])
            refine rdy1 17 (fun K hK => ?_)
            refine stp (by with_unfolding_all rfl) (wp_fappG T_rvals hF33 (i := 3) rfl (Nat.le_refl _) (hF33.rdOwn (i := 0) rfl) hcio.out (by with_unfolding_all exact ⟨_, _, rfl, rfl, rfl⟩) (by unfold maxLen; omega) (by omega) ?_)
            intro v34 w34 hF34 hz34
            (try simp only [zZ, zN] at hF34)
            obtain ⟨A34, c34, rfl, hc34⟩ := hF34.ownParts (i := 3) rfl
            refine hK.out _ _ ((lk hF34 5 7 8)) (fun _ => ?_)
            clear hK K
            (try simp only [zP, zQ, zS, zZ, zN])
            refine rdy1 19 (fun K hK => ?_)
            refine stp (by with_unfolding_all rfl) (wp_fst hF34 (i := 4) rfl (v := .slice A33 (k + 1) c33) (by with_unfolding_all exact ⟨_, _, rfl, rfl, rfl⟩) (by kernel_rfl) rfl rfl (by rw [vlL_len]; decide) ?_)
            intro w35 hF35 hz35
            (try simp only [zZ, zN] at hF35)
            rw [(vlL_3 (k := 6) (n := 0) (t := ⟨#[]⟩) (a := .slice A1 k c1) (b := .slice B1 k d1))] at hF35
            refine hK.out _ _ ((lk hF35 5 7 8)) (fun _ => ?_)
            clear hK K
            (try simp only [zP, zQ, zS, zZ, zN])
            refine tkp 20 (lk hF35 5 7 8) ?_
            (try simp only [zP, zQ, zS, zZ, zN])
            refine rdy1 21 (fun K hK => ?_)
            refine stp (by with_unfolding_all rfl) (wp_fst hF35 (i := 4) rfl (v := .slice A34 (k + 1) c34) (by with_unfolding_all exact ⟨_, _, rfl, rfl, rfl⟩) (by kernel_rfl) rfl rfl (by rw [vlL_len]; decide) ?_)
            intro w36 hF36 hz36
            (try simp only [zZ, zN] at hF36)
            rw [(vlL_4 (k := 6) (n := 0) (t := ⟨#[]⟩) (a := .slice A33 (k + 1) c33) (b := .slice B1 k d1))] at hF36
            refine hK.out _ _ ((lk hF36 5 7 8)) (fun _ => ?_)
            clear hK K
            (try simp only [zP, zQ, zS, zZ, zN])
            refine wpAnyH_done (by kernel_rfl) ?_ _
            go_wp2_with fail
            go_roundg (nk - (i + 1))
            case rel => exact ⟨i + 1, k + 1, A33, c33, A34, c34, zs ++ ci, by omega, box rfl, by go_num, hc33, hc34, hLl, by omega, hKL2, by rw [hLs.out, nmL_snoc]; exact hF36.tail.tail⟩
            case measure => have := hkk.out; omega
           exact AllReadyH.nil
         refine AllReadyH.cons (by simp only [List.getElem?_toArray, List.getElem?_cons_zero, List.getElem?_cons_succ]; rfl) (fun K hK => ?_) ?_
         ·as_aux_lemma =>
           refine stp (by with_unfolding_all rfl) (wp_fbs1 T_rvals hF31 (by with_unfolding_all rfl) (ds := ci) (by with_unfolding_all rfl) hcil.out (by decide) ?_)
           intro w32 g32 hF32 hz32
           refine hK.out _ _ ((lk hF32 5 7 8)) (fun _ => ?_)
           clear hK K
           (try simp only [zP, zQ, zS, zZ, zN])
           refine wpAnyH_ready (rs := [8, 10]) (by kernel_rfl) (by simp) ?_
           refine AllReadyH.cons (by simp only [List.getElem?_toArray, List.getElem?_cons_zero, List.getElem?_cons_succ]; rfl) (fun K hK => ?_) ?_
           ·refine stp (by with_unfolding_all rfl) (wp_fappG T_strs hF32 (i := 2) rfl (Nat.le_refl _) (hF32.rdOwn (i := 1) rfl) (strs_one1 _) (by with_unfolding_all exact ⟨_, _, rfl, rfl, rfl⟩) (by unfold maxLen; omega) (by omega) ?_)
            intro v33 w33 hF33 hz33
            (try simp only [zZ, zN] at hF33)
            obtain ⟨A33, c33, rfl, hc33⟩ := hF33.ownParts (i := 2) rfl
            refine hK.out _ _ ((lk hF33 5 7 8)) (fun _ => ?_)
            clear hK K
            (try simp only [zP, zQ, zS, zZ, zN])
            refine rdy1 10 (fun K hK => ?_)
            refine stp (by with_unfolding_all rfl) (wp_fld hF33 (i := 4) rfl uq49 rfl (by with_unfolding_all exact ⟨_, rfl, rfl⟩) rfl ?_)
            refine hK.out _ _ ((lk hF33 5 7 8)) (fun _ => ?_)
            clear hK K
            (try simp only [zP, zQ, zS, zZ, zN])
            refine tkp 18 (lk hF33 5 7 8) ?_
            (try simp only [zP, zQ, zS, zZ, zN])
            refine rdy1 17 (fun K hK => ?_)
            refine stp (by with_unfolding_all rfl) (wp_fappG T_rvals hF33 (i := 3) rfl (Nat.le_refl _) (hF33.rdOwn (i := 0) rfl) hcio.out (by with_unfolding_all exact ⟨_, _, rfl, rfl, rfl⟩) (by unfold maxLen; omega) (by omega) ?_)
            intro v34 w34 hF34 hz34
            (try simp only [zZ, zN] at hF34)
            obtain ⟨A34, c34, rfl, hc34⟩ := hF34.ownParts (i := 3) rfl
            refine hK.out _ _ ((lk hF34 5 7 8)) (fun _ => ?_)
            clear hK K
            (try simp only [zP, zQ, zS, zZ, zN])
            refine rdy1 19 (fun K hK => ?_)
            refine stp (by with_unfolding_all rfl) (wp_fst hF34 (i := 4) rfl (v := .slice A33 (k + 1) c33) (by with_unfolding_all exact ⟨_, _, rfl, rfl, rfl⟩) (by kernel_rfl) rfl rfl (by rw [vlL_len]; decide) ?_)
            intro w35 hF35 hz35
            (try simp only [zZ, zN] at hF35)
            rw [(vlL_3 (k := 6) (n := 0) (t := ⟨#[]⟩) (a := .slice A1 k c1) (b := .slice B1 k d1))] at hF35
            refine hK.out _ _ ((lk hF35 5 7 8)) (fun _ => ?_)
            clear hK K
            (try simp only [zP, zQ, zS, zZ, zN])
            refine tkp 20 (lk hF35 5 7 8) ?_
            (try simp only [zP, zQ, zS, zZ, zN])
            refine rdy1 21 (fun K hK => ?_)
            refine stp (by with_unfolding_all rfl) (wp_fst hF35 (i := 4) rfl (v := .slice A34 (k + 1) c34) (by with_unfolding_all exact ⟨_, _, rfl, rfl, rfl⟩) (by kernel_rfl) rfl rfl (by rw [vlL_len]; decide) ?_)
            intro w36 hF36 hz36
            (try simp only [zZ, zN] at hF36)
            rw [(vlL_4 (k := 6) (n := 0) (t := ⟨#[]⟩) (a := .slice A33 (k + 1) c33) (b := .slice B1 k d1))] at hF36
            refine hK.out _ _ ((lk hF36 5 7 8)) (fun _ => ?_)
            clear hK K
            (try simp only [zP, zQ, zS, zZ, zN])
            refine wpAnyH_done (by kernel_rfl) ?_ _
            go_wp2_with fail
            go_roundg (nk - (i + 1))
            case rel => exact ⟨i + 1, k + 1, A33, c33, A34, c34, zs ++ ci, by omega, box rfl, by go_num, hc33, hc34, hLl, by omega, hKL2, by rw [hLs.out, nmL_snoc]; exact hF36.tail.tail⟩
            case measure => have := hkk.out; omega
           refine AllReadyH.cons (by simp only [List.getElem?_toArray, List.getElem?_cons_zero, List.getElem?_cons_succ]; rfl) (fun K hK => ?_) ?_
           ·refine stp (by with_unfolding_all rfl) (wp_fld hF32 (i := 4) rfl uq49 rfl (by with_unfolding_all exact ⟨_, rfl, rfl⟩) rfl ?_)
            refine hK.out _ _ ((lk hF32 5 7 8)) (fun _ => ?_)
            clear hK K
            (try simp only [zP, zQ, zS, zZ, zN])
            refine rdy1 8 (fun K hK => ?_)
            refine stp (by with_unfolding_all rfl) (wp_fappG T_strs hF32 (i := 2) rfl (Nat.le_refl _) (hF32.rdOwn (i := 1) rfl) (strs_one1 _) (by with_unfolding_all exact ⟨_, _, rfl, rfl, rfl⟩) (by unfold maxLen; omega) (by omega) ?_)
            intro v33 w33 hF33 hz33
            (try simp only [zZ, zN] at hF33)
            obtain ⟨A33, c33, rfl, hc33⟩ := hF33.ownParts (i := 2) rfl
            refine hK.out _ _ ((lk hF33 5 7 8)) (fun _ => ?_)
            clear hK K
            (try simp only [zP, zQ, zS, zZ, zN])
            refine tkp 18 (lk hF33 5 7 8) ?_
            (try simp only [zP, zQ, zS, zZ, zN])
            refine rdy1 17 (fun K hK => ?_)
            refine stp (by with_unfolding_all rfl) (wp_fappG T_rvals hF33 (i := 3) rfl (Nat.le_refl _) (hF33.rdOwn (i := 0) rfl) hcio.out (by with_unfolding_all exact ⟨_, _, rfl, rfl, rfl⟩) (by unfold maxLen; omega) (by omega) ?_)
            intro v34 w34 hF34 hz34
            (try simp only [zZ, zN] at hF34)
            obtain ⟨A34, c34, rfl, hc34⟩ := hF34.ownParts (i := 3) rfl
            refine hK.out _ _ ((lk hF34 5 7 8)) (fun _ => ?_)
            clear hK K
            (try simp only [zP, zQ, zS, zZ, zN])
            refine rdy1 19 (fun K hK => ?_)
            refine stp (by with_unfolding_all rfl) (wp_fst hF34 (i := 4) rfl (v := .slice A33 (k + 1) c33) (by with_unfolding_all exact ⟨_, _, rfl, rfl, rfl⟩) (by kernel_rfl) rfl rfl (by rw [vlL_len]; decide) ?_)
            intro w35 hF35 hz35
            (try simp only [zZ, zN] at hF35)
            rw [(vlL_3 (k := 6) (n := 0) (t := ⟨#[]⟩) (a := .slice A1 k c1) (b := .slice B1 k d1))] at hF35
            refine hK.out _ _ ((lk hF35 5 7 8)) (fun _ => ?_)
            clear hK K
            (try simp only [zP, zQ, zS, zZ, zN])
            refine tkp 20 (lk hF35 5 7 8) ?_
            (try simp only [zP, zQ, zS, zZ, zN])
            refine rdy1 21 (fun K hK => ?_)
            refine stp (by with_unfolding_all rfl) (wp_fst hF35 (i := 4) rfl (v := .slice A34 (k + 1) c34) (by with_unfolding_all exact ⟨_, _, rfl, rfl, rfl⟩) (by kernel_rfl) rfl rfl (by rw [vlL_len]; decide) ?_)
            intro w36 hF36 hz36
            (try simp only [zZ, zN] at hF36)
            rw [(vlL_4 (k := 6) (n := 0) (t := ⟨#[]⟩) (a := .slice A33 (k + 1) c33) (b := .slice B1 k d1))] at hF36
            refine hK.out _ _ ((lk hF36 5 7 8)) (fun _ => ?_)
            clear hK K
            (try simp only [zP, zQ, zS, zZ, zN])
            refine wpAnyH_done (by kernel_rfl) ?_ _
            go_wp2_with fail
            go_roundg (nk - (i + 1))
            case rel => exact ⟨i + 1, k + 1, A33, c33, A34, c34, zs ++ ci, by omega, box rfl, by go_num, hc33, hc34, hLl, by omega, hKL2, by rw [hLs.out, nmL_snoc]; exact hF36.tail.tail⟩
            case measure => have := hkk.out; omega
           exact AllReadyH.nil
         exact AllReadyH.nil
       refine AllReadyH.cons (by simp only [List.getElem?_toArray, List.getElem?_cons_zero, List.getElem?_cons_succ]; rfl) (fun K hK => ?_) ?_
       ·as_aux_lemma =>
         refine stp (by with_unfolding_all rfl) (wp_fld hFd (i := 2) rfl uq49 rfl (by with_unfolding_all exact ⟨_, rfl, rfl⟩) rfl ?_)
         refine hK.out _ _ ((lk hFd 3 5 6)) (fun _ => ?_)
         clear hK K
         (try simp only [zP, zQ, zS, zZ, zN])
         refine wpAnyH_ready (rs := [7, 16]) (by kernel_rfl) (by simp) ?_
         refine AllReadyH.cons (by simp only [List.getElem?_toArray, List.getElem?_cons_zero, List.getElem?_cons_succ]; rfl) (fun K hK => ?_) ?_
         ·as_aux_lemma =>
           refine stp (by with_unfolding_all rfl) (wp_fbsl T_strs hFd (vs := [.string ⟨y.1.toArray⟩]) (by with_unfolding_all rfl) (by with_unfolding_all rfl) (by with_unfolding_all rfl) (by decide) (by simp [Value.cells]) ?_)
           intro w31 g31 hF31 hz31
           refine hK.out _ _ ((lk hF31 4 6 7)) (fun _ => ?_)
           clear hK K
           (try simp only [zP, zQ, zS, zZ, zN])
           refine wpAnyH_ready (rs := [8, 16]) (by kernel_rfl) (by simp) ?_
           refine AllReadyH.cons (by simp only [List.getElem?_toArray, List.getElem?_cons_zero, List.getElem?_cons_succ]; rfl) (fun K hK => ?_) ?_
           ·refine stp (by with_unfolding_all rfl) (wp_fappG T_strs hF31 (i := 1) rfl (Nat.le_refl _) (hF31.rdOwn (i := 0) rfl) (strs_one1 _) (by with_unfolding_all exact ⟨_, _, rfl, rfl, rfl⟩) (by unfold maxLen; omega) (by omega) ?_)
            intro v32 w32 hF32 hz32
            (try simp only [zZ, zN] at hF32)
            obtain ⟨A32, c32, rfl, hc32⟩ := hF32.ownParts (i := 1) rfl
            refine hK.out _ _ ((lk hF32 4 6 7)) (fun _ => ?_)
            clear hK K
            (try simp only [zP, zQ, zS, zZ, zN])
            refine tkp 18 (lk hF32 4 6 7) ?_
            (try simp only [zP, zQ, zS, zZ, zN])
            refine rdy1 16 (fun K hK => ?_)
            refine stp (by with_unfolding_all rfl) (wp_fbs1 T_rvals hF32 (by with_unfolding_all rfl) (ds := ci) (by with_unfolding_all rfl) hcil.out (by decide) ?_)
            intro w33 g33 hF33 hz33
            refine hK.out _ _ ((lk hF33 5 7 8)) (fun _ => ?_)
            clear hK K
            (try simp only [zP, zQ, zS, zZ, zN])
            refine rdy1 17 (fun K hK => ?_)
            refine stp (by with_unfolding_all rfl) (wp_fappG T_rvals hF33 (i := 3) rfl (Nat.le_refl _) (hF33.rdOwn (i := 0) rfl) hcio.out (by with_unfolding_all exact ⟨_, _, rfl, rfl, rfl⟩) (by unfold maxLen; omega) (by omega) ?_)
            intro v34 w34 hF34 hz34
            (try simp only [zZ, zN] at hF34)
            obtain ⟨A34, c34, rfl, hc34⟩ := hF34.ownParts (i := 3) rfl
            refine hK.out _ _ ((lk hF34 5 7 8)) (fun _ => ?_)
            clear hK K
            (try simp only [zP, zQ, zS, zZ, zN])
            refine rdy1 19 (fun K hK => ?_)
            refine stp (by with_unfolding_all rfl) (wp_fst hF34 (i := 4) rfl (v := .slice A32 (k + 1) c32) (by with_unfolding_all exact ⟨_, _, rfl, rfl, rfl⟩) (by kernel_rfl) rfl rfl (by rw [vlL_len]; decide) ?_)
            intro w35 hF35 hz35
            (try simp only [zZ, zN] at hF35)
            rw [(vlL_3 (k := 6) (n := 0) (t := ⟨#[]⟩) (a := .slice A1 k c1) (b := .slice B1 k d1))] at hF35
            refine hK.out _ _ ((lk hF35 5 7 8)) (fun _ => ?_)
            clear hK K
            (try simp only [zP, zQ, zS, zZ, zN])
            refine tkp 20 (lk hF35 5 7 8) ?_
            (try simp only [zP, zQ, zS, zZ, zN])
            refine rdy1 21 (fun K hK => ?_)
            refine stp (by with_unfolding_all rfl) (wp_fst hF35 (i := 4) rfl (v := .slice A34 (k + 1) c34) (by with_unfolding_all exact ⟨_, _, rfl, rfl, rfl⟩) (by kernel_rfl) rfl rfl (by rw [vlL_len]; decide) ?_)
            intro w36 hF36 hz36
            (try simp only [zZ, zN] at hF36)
            rw [(vlL_4 (k := 6) (n := 0) (t := ⟨#[]⟩) (a := .slice A32 (k + 1) c32) (b := .slice B1 k d1))] at hF36
            refine hK.out _ _ ((lk hF36 5 7 8)) (fun _ => ?_)
            clear hK K
            (try simp only [zP, zQ, zS, zZ, zN])
            refine wpAnyH_done (by kernel_rfl) ?_ _
            go_wp2_with fail
            go_roundg (nk - (i + 1))
            case rel => exact ⟨i + 1, k + 1, A32, c32, A34, c34, zs ++ ci, by omega, box rfl, by go_num, hc32, hc34, hLl, by omega, hKL2, by rw [hLs.out, nmL_snoc]; exact hF36.tail.tail⟩
            case measure => have := hkk.out; omega
           refine AllReadyH.cons (by simp only [List.getElem?_toArray, List.getElem?_cons_zero, List.getElem?_cons_succ]; rfl) (fun K hK => ?_) ?_
           ·refine stp (by with_unfolding_all rfl) (wp_fbs1 T_rvals hF31 (by with_unfolding_all rfl) (ds := ci) (by with_unfolding_all rfl) hcil.out (by decide) ?_)
            intro w32 g32 hF32 hz32
            refine hK.out _ _ ((lk hF32 5 7 8)) (fun _ => ?_)
            clear hK K
            (try simp only [zP, zQ, zS, zZ, zN])
            refine rdy1 8 (fun K hK => ?_)
            refine stp (by with_unfolding_all rfl) (wp_fappG T_strs hF32 (i := 2) rfl (Nat.le_refl _) (hF32.rdOwn (i := 1) rfl) (strs_one1 _) (by with_unfolding_all exact ⟨_, _, rfl, rfl, rfl⟩) (by unfold maxLen; omega) (by omega) ?_)
            intro v33 w33 hF33 hz33
            (try simp only [zZ, zN] at hF33)
            obtain ⟨A33, c33, rfl, hc33⟩ := hF33.ownParts (i := 2) rfl
            refine hK.out _ _ ((lk hF33 5 7 8)) (fun _ => ?_)
            clear hK K
            (try simp only [zP, zQ, zS, zZ, zN])
            refine tkp 18 (lk hF33 5 7 8) ?_
            (try simp only [zP, zQ, zS, zZ, zN])
            refine rdy1 17 (fun K hK => ?_)
            refine stp (by with_unfolding_all rfl) (wp_fappG T_rvals hF33 (i := 3) rfl (Nat.le_refl _) (hF33.rdOwn (i := 0) rfl) hcio.out (by with_unfolding_all exact ⟨_, _, rfl, rfl, rfl⟩) (by unfold maxLen; omega) (by omega) ?_)
            intro v34 w34 hF34 hz34
            (try simp only [zZ, zN] at hF34)
            obtain ⟨A34, c34, rfl, hc34⟩ := hF34.ownParts (i := 3) rfl
            refine hK.out _ _ ((lk hF34 5 7 8)) (fun _ => ?_)
            clear hK K
            (try simp only [zP, zQ, zS, zZ, zN])
            refine rdy1 19 (fun K hK => ?_)
            refine stp (by with_unfolding_all rfl) (wp_fst hF34 (i := 4) rfl (v := .slice A33 (k + 1) c33) (by with_unfolding_all exact ⟨_, _, rfl, rfl, rfl⟩) (by kernel_rfl) rfl rfl (by rw [vlL_len]; decide) ?_)
            intro w35 hF35 hz35
            (try simp only [zZ, zN] at hF35)
            rw [(vlL_3 (k := 6) (n := 0) (t := ⟨#[]⟩) (a := .slice A1 k c1) (b := .slice B1 k d1))] at hF35
            refine hK.out _ _ ((lk hF35 5 7 8)) (fun _ => ?_)
            clear hK K
            (try simp only [zP, zQ, zS, zZ, zN])
            refine tkp 20 (lk hF35 5 7 8) ?_
            (try simp only [zP, zQ, zS, zZ, zN])
            refine rdy1 21 (fun K hK => ?_)
            refine stp (by with_unfolding_all rfl) (wp_fst hF35 (i := 4) rfl (v := .slice A34 (k + 1) c34) (by with_unfolding_all exact ⟨_, _, rfl, rfl, rfl⟩) (by kernel_rfl) rfl rfl (by rw [vlL_len]; decide) ?_)
            intro w36 hF36 hz36
            (try simp only [zZ, zN] at hF36)
            rw [(vlL_4 (k := 6) (n := 0) (t := ⟨#[]⟩) (a := .slice A33 (k + 1) c33) (b := .slice B1 k d1))] at hF36
            refine hK.out _ _ ((lk hF36 5 7 8)) (fun _ => ?_)
            clear hK K
            (try simp only [zP, zQ, zS, zZ, zN])
            refine wpAnyH_done (by kernel_rfl) ?_ _
            go_wp2_with fail
            go_roundg (nk - (i + 1))
            case rel => exact ⟨i + 1, k + 1, A33, c33, A34, c34, zs ++ ci, by omega, box rfl, by go_num, hc33, hc34, hLl, by omega, hKL2, by rw [hLs.out, nmL_snoc]; exact hF36.tail.tail⟩
            case measure => have := hkk.out; omega
           exact AllReadyH.nil
         refine AllReadyH.cons (by simp only [List.getElem?_toArray, List.getElem?_cons_zero, List.getElem?_cons_succ]; rfl) (fun K hK => ?_) ?_
         ·as_aux_lemma =>
           refine stp (by with_unfolding_all rfl) (wp_fbs1 T_rvals hFd (by with_unfolding_all rfl) (ds := ci) (by with_unfolding_all rfl) hcil.out (by decide) ?_)
           intro w31 g31 hF31 hz31
           refine hK.out _ _ ((lk hF31 4 6 7)) (fun _ => ?_)
           clear hK K
           (try simp only [zP, zQ, zS, zZ, zN])
           refine rdy1 7 (fun K hK => ?_)
           refine stp (by with_unfolding_all rfl) (wp_fbsl T_strs hF31 (vs := [.string ⟨y.1.toArray⟩]) (by with_unfolding_all rfl) (by with_unfolding_all rfl) (by with_unfolding_all rfl) (by decide) (by simp [Value.cells]) ?_)
           intro w32 g32 hF32 hz32
           refine hK.out _ _ ((lk hF32 5 7 8)) (fun _ => ?_)
           clear hK K
           (try simp only [zP, zQ, zS, zZ, zN])
           refine rdy1 8 (fun K hK => ?_)
           refine stp (by with_unfolding_all rfl) (wp_fappG T_strs hF32 (i := 2) rfl (Nat.le_refl _) (hF32.rdOwn (i := 0) rfl) (strs_one1 _) (by with_unfolding_all exact ⟨_, _, rfl, rfl, rfl⟩) (by unfold maxLen; omega) (by omega) ?_)
           intro v33 w33 hF33 hz33
           (try simp only [zZ, zN] at hF33)
           obtain ⟨A33, c33, rfl, hc33⟩ := hF33.ownParts (i := 2) rfl
           refine hK.out _ _ ((lk hF33 5 7 8)) (fun _ => ?_)
           clear hK K
           (try simp only [zP, zQ, zS, zZ, zN])
           refine tkp 18 (lk hF33 5 7 8) ?_
           (try simp only [zP, zQ, zS, zZ, zN])
           refine rdy1 17 (fun K hK => ?_)
           refine stp (by with_unfolding_all rfl) (wp_fappG T_rvals hF33 (i := 3) rfl (Nat.le_refl _) (hF33.rdOwn (i := 1) rfl) hcio.out (by with_unfolding_all exact ⟨_, _, rfl, rfl, rfl⟩) (by unfold maxLen; omega) (by omega) ?_)
           intro v34 w34 hF34 hz34
           (try simp only [zZ, zN] at hF34)
           obtain ⟨A34, c34, rfl, hc34⟩ := hF34.ownParts (i := 3) rfl
           refine hK.out _ _ ((lk hF34 5 7 8)) (fun _ => ?_)
           clear hK K
           (try simp only [zP, zQ, zS, zZ, zN])
           refine rdy1 19 (fun K hK => ?_)
           refine stp (by with_unfolding_all rfl) (wp_fst hF34 (i := 4) rfl (v := .slice A33 (k + 1) c33) (by with_unfolding_all exact ⟨_, _, rfl, rfl, rfl⟩) (by kernel_rfl) rfl rfl (by rw [vlL_len]; decide) ?_)
           intro w35 hF35 hz35
           (try simp only [zZ, zN] at hF35)
           rw [(vlL_3 (k := 6) (n := 0) (t := ⟨#[]⟩) (a := .slice A1 k c1) (b := .slice B1 k d1))] at hF35
           refine hK.out _ _ ((lk hF35 5 7 8)) (fun _ => ?_)
           clear hK K
           (try simp only [zP, zQ, zS, zZ, zN])
           refine tkp 20 (lk hF35 5 7 8) ?_
           (try simp only [zP, zQ, zS, zZ, zN])
           refine rdy1 21 (fun K hK => ?_)
           refine stp (by with_unfolding_all rfl) (wp_fst hF35 (i := 4) rfl (v := .slice A34 (k + 1) c34) (by with_unfolding_all exact ⟨_, _, rfl, rfl, rfl⟩) (by kernel_rfl) rfl rfl (by rw [vlL_len]; decide) ?_)
           intro w36 hF36 hz36
           (try simp only [zZ, zN] at hF36)
           rw [(vlL_4 (k := 6) (n := 0) (t := ⟨#[]⟩) (a := .slice A33 (k + 1) c33) (b := .slice B1 k d1))] at hF36
           refine hK.out _ _ ((lk hF36 5 7 8)) (fun _ => ?_)
           clear hK K
           (try simp only [zP, zQ, zS, zZ, zN])
           refine wpAnyH_done (by kernel_rfl) ?_ _
           go_wp2_with fail
           go_roundg (nk - (i + 1))
           case rel => exact ⟨i + 1, k + 1, A33, c33, A34, c34, zs ++ ci, by omega, box rfl, by go_num, hc33, hc34, hLl, by omega, hKL2, by rw [hLs.out, nmL_snoc]; exact hF36.tail.tail⟩
           case measure => have := hkk.out; omega
         exact AllReadyH.nil
       refine AllReadyH.cons (by simp only [List.getElem?_toArray, List.getElem?_cons_zero, List.getElem?_cons_succ]; rfl) (fun K hK => ?_) ?_
       ·as_aux_lemma =>
         refine stp (by with_unfolding_all rfl) (wp_fbs1 T_rvals hFd (by with_unfolding_all rfl) (ds := ci) (by with_unfolding_all rfl) hcil.out (by decide) ?_)
         intro w31 g31 hF31 hz31
         refine hK.out _ _ ((lk hF31 4 6 7)) (fun _ => ?_)
         clear hK K
         (try simp only [zP, zQ, zS, zZ, zN])
         refine wpAnyH_ready (rs := [7, 10]) (by kernel_rfl) (by simp) ?_
         refine AllReadyH.cons (by simp only [List.getElem?_toArray, List.getElem?_cons_zero, List.getElem?_cons_succ]; rfl) (fun K hK => ?_) ?_
         ·as_aux_lemma =>
           refine stp (by with_unfolding_all rfl) (wp_fbsl T_strs hF31 (vs := [.string ⟨y.1.toArray⟩]) (by with_unfolding_all rfl) (by with_unfolding_all rfl) (by with_unfolding_all rfl) (by decide) (by simp [Value.cells]) ?_)
           intro w32 g32 hF32 hz32
           refine hK.out _ _ ((lk hF32 5 7 8)) (fun _ => ?_)
           clear hK K
           (try simp only [zP, zQ, zS, zZ, zN])
           refine wpAnyH_ready (rs := [8, 10]) (by kernel_rfl) (by simp) ?_
           refine AllReadyH.cons (by simp only [List.getElem?_toArray, List.getElem?_cons_zero, List.getElem?_cons_succ]; rfl) (fun K hK => ?_) ?_
           ·refine stp (by with_unfolding_all rfl) (wp_fappG T_strs hF32 (i := 2) rfl (Nat.le_refl _) (hF32.rdOwn (i := 0) rfl) (strs_one1 _) (by with_unfolding_all exact ⟨_, _, rfl, rfl, rfl⟩) (by unfold maxLen; omega) (by omega) ?_)
            intro v33 w33 hF33 hz33
            (try simp only [zZ, zN] at hF33)
            obtain ⟨A33, c33, rfl, hc33⟩ := hF33.ownParts (i := 2) rfl
            refine hK.out _ _ ((lk hF33 5 7 8)) (fun _ => ?_)
            clear hK K
            (try simp only [zP, zQ, zS, zZ, zN])
            refine rdy1 10 (fun K hK => ?_)
            refine stp (by with_unfolding_all rfl) (wp_fld hF33 (i := 4) rfl uq49 rfl (by with_unfolding_all exact ⟨_, rfl, rfl⟩) rfl ?_)
            refine hK.out _ _ ((lk hF33 5 7 8)) (fun _ => ?_)
            clear hK K
            (try simp only [zP, zQ, zS, zZ, zN])
            refine tkp 18 (lk hF33 5 7 8) ?_
            (try simp only [zP, zQ, zS, zZ, zN])
            refine rdy1 17 (fun K hK => ?_)
            refine stp (by with_unfolding_all rfl) (wp_fappG T_rvals hF33 (i := 3) rfl (Nat.le_refl _) (hF33.rdOwn (i := 1) rfl) hcio.out (by with_unfolding_all exact ⟨_, _, rfl, rfl, rfl⟩) (by unfold maxLen; omega) (by omega) ?_)
            intro v34 w34 hF34 hz34
            (try simp only [zZ, zN] at hF34)
            obtain ⟨A34, c34, rfl, hc34⟩ := hF34.ownParts (i := 3) rfl
            refine hK.out _ _ ((lk hF34 5 7 8)) (fun _ => ?_)
            clear hK K
            (try simp only [zP, zQ, zS, zZ, zN])
            refine rdy1 19 (fun K hK => ?_)
            refine stp (by with_unfolding_all rfl) (wp_fst hF34 (i := 4) rfl (v := .slice A33 (k + 1) c33) (by with_unfolding_all exact ⟨_, _, rfl, rfl, rfl⟩) (by kernel_rfl) rfl rfl (by rw [vlL_len]; decide) ?_)
            intro w35 hF35 hz35
            (try simp only [zZ, zN] at hF35)
            rw [(vlL_3 (k := 6) (n := 0) (t := ⟨#[]⟩) (a := .slice A1 k c1) (b := .slice B1 k d1))] at hF35
            refine hK.out _ _ ((lk hF35 5 7 8)) (fun _ => ?_)
            clear hK K
            (try simp only [zP, zQ, zS, zZ, zN])
            refine tkp 20 (lk hF35 5 7 8) ?_
            (try simp only [zP, zQ, zS, zZ, zN])
            refine rdy1 21 (fun K hK => ?_)
            refine stp (by with_unfolding_all rfl) (wp_fst hF35 (i := 4) rfl (v := .slice A34 (k + 1) c34) (by with_unfolding_all exact ⟨_, _, rfl, rfl, rfl⟩) (by kernel_rfl) rfl rfl (by rw [vlL_len]; decide) ?_)
            intro w36 hF36 hz36
            (try simp only [zZ, zN] at hF36)
            rw [(vlL_4 (k := 6) (n := 0) (t := ⟨#[]⟩) (a := .slice A33 (k + 1) c33) (b := .slice B1 k d1))] at hF36
            refine hK.out _ _ ((lk hF36 5 7 8)) (fun _ => ?_)
            clear hK K
            (try simp only [zP, zQ, zS, zZ, zN])
            refine wpAnyH_done (by kernel_rfl) ?_ _
            go_wp2_with fail
            go_roundg (nk - (i + 1))
            case rel => exact ⟨i + 1, k + 1, A33, c33, A34, c34, zs ++ ci, by omega, box rfl, by go_num, hc33, hc34, hLl, by omega, hKL2, by rw [hLs.out, nmL_snoc]; exact hF36.tail.tail⟩
            case measure => have := hkk.out; omega
           refine AllReadyH.cons (by simp only [List.getElem?_toArray, List.getElem?_cons_zero, List.getElem?_cons_succ]; rfl) (fun K hK => ?_) ?_
           ·refine stp (by with_unfolding_all rfl) (wp_fld hF32 (i := 4) rfl uq49 rfl (by with_unfolding_all exact ⟨_, rfl, rfl⟩) rfl ?_)
            refine hK.out _ _ ((lk hF32 5 7 8)) (fun _ => ?_)
            clear hK K
            (try simp only [zP, zQ, zS, zZ, zN])
            refine rdy1 8 (fun K hK => ?_)
            refine stp (by with_unfolding_all rfl) (wp_fappG T_strs hF32 (i := 2) rfl (Nat.le_refl _) (hF32.rdOwn (i := 0) rfl) (strs_one1 _) (by with_unfolding_all exact ⟨_, _, rfl, rfl, rfl⟩) (by unfold maxLen; omega) (by omega) ?_)
            intro v33 w33 hF33 hz33
            (try simp only [zZ, zN] at hF33)
            obtain ⟨A33, c33, rfl, hc33⟩ := hF33.ownParts (i := 2) rfl
            refine hK.out _ _ ((lk hF33 5 7 8)) (fun _ => ?_)
            clear hK K
            (try simp only [zP, zQ, zS, zZ, zN])
            refine tkp 18 (lk hF33 5 7 8) ?_
            (try simp only [zP, zQ, zS, zZ, zN])
            refine rdy1 17 (fun K hK => ?_)
            refine stp (by with_unfolding_all rfl) (wp_fappG T_rvals hF33 (i := 3) rfl (Nat.le_refl _) (hF33.rdOwn (i := 1) rfl) hcio.out (by with_unfolding_all exact ⟨_, _, rfl, rfl, rfl⟩) (by unfold maxLen; omega) (by omega) ?_)
            intro v34 w34 hF34 hz34
            (try simp only [zZ, zN] at hF34)
            obtain ⟨A34, c34, rfl, hc34⟩ := hF34.ownParts (i := 3) rfl
            refine hK.out _ _ ((lk hF34 5 7 8)) (fun _ => ?_)
            clear hK K
            (try simp only [zP, zQ, zS, zZ, zN])
            refine rdy1 19 (fun K hK => ?_)
            refine stp (by with_unfolding_all rfl) (wp_fst hF34 (i := 4) rfl (v := .slice A33 (k + 1) c33) (by with_unfolding_all exact ⟨_, _, rfl, rfl, rfl⟩) (by kernel_rfl) rfl rfl (by rw [vlL_len]; decide) ?_)
            intro w35 hF35 hz35
            (try simp only [zZ, zN] at hF35)
            rw [(vlL_3 (k := 6) (n := 0) (t := ⟨#[]⟩) (a := .slice A1 k c1) (b := .slice B1 k d1))] at hF35
            refine hK.out _ _ ((lk hF35 5 7 8)) (fun _ => ?_)
            clear hK K
            (try simp only [zP, zQ, zS, zZ, zN])
            refine tkp 20 (lk hF35 5 7 8) ?_
            (try simp only [zP, zQ, zS, zZ, zN])
            refine rdy1 21 (fun K hK => ?_)
            refine stp (by with_unfolding_all rfl) (wp_fst hF35 (i := 4) rfl (v := .slice A34 (k + 1) c34) (by with_unfolding_all exact ⟨_, _, rfl, rfl, rfl⟩) (by kernel_rfl) rfl rfl (by rw [vlL_len]; decide) ?_)
            intro w36 hF36 hz36
            (try simp only [zZ, zN] at hF36)
            rw [(vlL_4 (k := 6) (n := 0) (t := ⟨#[]⟩) (a := .slice A33 (k + 1) c33) (b := .slice B1 k d1))] at hF36
            refine hK.out _ _ ((lk hF36 5 7 8)) (fun _ => ?_)
            clear hK K
            (try simp only [zP, zQ, zS, zZ, zN])
            refine wpAnyH_done (by kernel_rfl) ?_ _
            go_wp2_with fail
            go_roundg (nk - (i + 1))
            case rel => exact ⟨i + 1, k + 1, A33, c33, A34, c34, zs ++ ci, by omega, box rfl, by go_num, hc33, hc34, hLl, by omega, hKL2, by rw [hLs.out, nmL_snoc]; exact hF36.tail.tail⟩
            case measure => have := hkk.out; omega
           exact AllReadyH.nil
         refine AllReadyH.cons (by simp only [List.getElem?_toArray, List.getElem?_cons_zero, List.getElem?_cons_succ]; rfl) (fun K hK => ?_) ?_
         ·as_aux_lemma =>
           refine stp (by with_unfolding_all rfl) (wp_fld hF31 (i := 3) rfl uq49 rfl (by with_unfolding_all exact ⟨_, rfl, rfl⟩) rfl ?_)
           refine hK.out _ _ ((lk hF31 4 6 7)) (fun _ => ?_)
           clear hK K
           (try simp only [zP, zQ, zS, zZ, zN])
           refine rdy1 7 (fun K hK => ?_)
           refine stp (by with_unfolding_all rfl) (wp_fbsl T_strs hF31 (vs := [.string ⟨y.1.toArray⟩]) (by with_unfolding_all rfl) (by with_unfolding_all rfl) (by with_unfolding_all rfl) (by decide) (by simp [Value.cells]) ?_)
           intro w32 g32 hF32 hz32
           refine hK.out _ _ ((lk hF32 5 7 8)) (fun _ => ?_)
           clear hK K
           (try simp only [zP, zQ, zS, zZ, zN])
           refine rdy1 8 (fun K hK => ?_)
           refine stp (by with_unfolding_all rfl) (wp_fappG T_strs hF32 (i := 2) rfl (Nat.le_refl _) (hF32.rdOwn (i := 0) rfl) (strs_one1 _) (by with_unfolding_all exact ⟨_, _, rfl, rfl, rfl⟩) (by unfold maxLen; omega) (by omega) ?_)
           intro v33 w33 hF33 hz33
           (try simp only [zZ, zN] at hF33)
           obtain ⟨A33, c33, rfl, hc33⟩ := hF33.ownParts (i := 2) rfl
           refine hK.out _ _ ((lk hF33 5 7 8)) (fun _ => ?_)
           clear hK K
           (try simp only [zP, zQ, zS, zZ, zN])
           refine tkp 18 (lk hF33 5 7 8) ?_
           (try simp only [zP, zQ, zS, zZ, zN])
           refine rdy1 17 (fun K hK => ?_)
           refine stp (by with_unfolding_all rfl) (wp_fappG T_rvals hF33 (i := 3) rfl (Nat.le_refl _) (hF33.rdOwn (i := 1) rfl) hcio.out (by with_unfolding_all exact ⟨_, _, rfl, rfl, rfl⟩) (by unfold maxLen; omega) (by omega) ?_)
           intro v34 w34 hF34 hz34
           (try simp only [zZ, zN] at hF34)
           obtain ⟨A34, c34, rfl, hc34⟩ := hF34.ownParts (i := 3) rfl
           refine hK.out _ _ ((lk hF34 5 7 8)) (fun _ => ?_)
           clear hK K
           (try simp only [zP, zQ, zS, zZ, zN])
           refine rdy1 19 (fun K hK => ?_)
           refine stp (by with_unfolding_all rfl) (wp_fst hF34 (i := 4) rfl (v := .slice A33 (k + 1) c33) (by with_unfolding_all exact ⟨_, _, rfl, rfl, rfl⟩) (by kernel_rfl) rfl rfl (by rw [vlL_len]; decide) ?_)
           intro w35 hF35 hz35
           (try simp only [zZ, zN] at hF35)
           rw [(vlL_3 (k := 6) (n := 0) (t := ⟨#[]⟩) (a := .slice A1 k c1) (b := .slice B1 k d1))] at hF35
           refine hK.out _ _ ((lk hF35 5 7 8)) (fun _ => ?_)
           clear hK K
           (try simp only [zP, zQ, zS, zZ, zN])
           refine tkp 20 (lk hF35 5 7 8) ?_
           (try simp only [zP, zQ, zS, zZ, zN])
           refine rdy1 21 (fun K hK => ?_)
           refine stp (by with_unfolding_all rfl) (wp_fst hF35 (i := 4) rfl (v := .slice A34 (k + 1) c34) (by with_unfolding_all exact ⟨_, _, rfl, rfl, rfl⟩) (by kernel_rfl) rfl rfl (by rw [vlL_len]; decide) ?_)
           intro w36 hF36 hz36
           (try simp only [zZ, zN] at hF36)
           rw [(vlL_4 (k := 6) (n := 0) (t := ⟨#[]⟩) (a := .slice A33 (k + 1) c33) (b := .slice B1 k d1))] at hF36
           refine hK.out _ _ ((lk hF36 5 7 8)) (fun _ => ?_)
           clear hK K
           (try simp only [zP, zQ, zS, zZ, zN])
           refine wpAnyH_done (by kernel_rfl) ?_ _
           go_wp2_with fail
           go_roundg (nk - (i + 1))
           case rel => exact ⟨i + 1, k + 1, A33, c33, A34, c34, zs ++ ci, by omega, box rfl, by go_num, hc33, hc34, hLl, by omega, hKL2, by rw [hLs.out, nmL_snoc]; exact hF36.tail.tail⟩
           case measure => have := hkk.out; omega
         exact AllReadyH.nil
       exact AllReadyH.nil
     refine AllReadyH.cons (by simp only [List.getElem?_toArray, List.getElem?_cons_zero, List.getElem?_cons_succ]; rfl) (fun K hK => ?_) ?_
     ·as_aux_lemma =>
       refine stp (by with_unfolding_all rfl) (wp_fbsl T_strs hFd (vs := [.string ⟨y.1.toArray⟩]) (by with_unfolding_all rfl) (by with_unfolding_all rfl) (by with_unfolding_all rfl) (by decide) (by simp [Value.cells]) ?_)
       intro w31 g31 hF31 hz31
       refine hK.out _ _ ((lk hF31 4 6 7)) (fun _ => ?_)
       clear hK K
       (try simp only [zP, zQ, zS, zZ, zN])
       refine wpAnyH_ready (rs := [1, 10, 16]) (by kernel_rfl) (by simp) ?_
       refine AllReadyH.cons (by simp only [List.getElem?_toArray, List.getElem?_cons_zero, List.getElem?_cons_succ]; rfl) (fun K hK => ?_) ?_
       ·as_aux_lemma =>
         refine stp (by with_unfolding_all rfl) (wp_fld hF31 (i := 3) rfl uq48 rfl (by with_unfolding_all exact ⟨_, rfl, rfl⟩) rfl ?_)
         refine hK.out _ _ ((lk hF31 4 6 7)) (fun _ => ?_)
         clear hK K
         (try simp only [zP, zQ, zS, zZ, zN])
         refine wpAnyH_ready (rs := [8, 10, 16]) (by kernel_rfl) (by simp) ?_
         refine AllReadyH.cons (by simp only [List.getElem?_toArray, List.getElem?_cons_zero, List.getElem?_cons_succ]; rfl) (fun K hK => ?_) ?_
         ·as_aux_lemma =>
           refine stp (by with_unfolding_all rfl) (wp_fappG T_strs hF31 (i := 1) rfl (Nat.le_refl _) (hF31.rdOwn (i := 0) rfl) (strs_one1 _) (by with_unfolding_all exact ⟨_, _, rfl, rfl, rfl⟩) (by unfold maxLen; omega) (by omega) ?_)
           intro v32 w32 hF32 hz32
           (try simp only [zZ, zN] at hF32)
           obtain ⟨A32, c32, rfl, hc32⟩ := hF32.ownParts (i := 1) rfl
           refine hK.out _ _ ((lk hF32 4 6 7)) (fun _ => ?_)
           clear hK K
           (try simp only [zP, zQ, zS, zZ, zN])
           refine wpAnyH_ready (rs := [10, 16]) (by kernel_rfl) (by simp) ?_
           refine AllReadyH.cons (by simp only [List.getElem?_toArray, List.getElem?_cons_zero, List.getElem?_cons_succ]; rfl) (fun K hK => ?_) ?_
           ·refine stp (by with_unfolding_all rfl) (wp_fld hF32 (i := 3) rfl uq49 rfl (by with_unfolding_all exact ⟨_, rfl, rfl⟩) rfl ?_)
            refine hK.out _ _ ((lk hF32 4 6 7)) (fun _ => ?_)
            clear hK K
            (try simp only [zP, zQ, zS, zZ, zN])
            refine tkp 18 (lk hF32 4 6 7) ?_
            (try simp only [zP, zQ, zS, zZ, zN])
            refine rdy1 16 (fun K hK => ?_)
            refine stp (by with_unfolding_all rfl) (wp_fbs1 T_rvals hF32 (by with_unfolding_all rfl) (ds := ci) (by with_unfolding_all rfl) hcil.out (by decide) ?_)
            intro w33 g33 hF33 hz33
            refine hK.out _ _ ((lk hF33 5 7 8)) (fun _ => ?_)
            clear hK K
            (try simp only [zP, zQ, zS, zZ, zN])
            refine rdy1 17 (fun K hK => ?_)
            refine stp (by with_unfolding_all rfl) (wp_fappG T_rvals hF33 (i := 3) rfl (Nat.le_refl _) (hF33.rdOwn (i := 0) rfl) hcio.out (by with_unfolding_all exact ⟨_, _, rfl, rfl, rfl⟩) (by unfold maxLen; omega) (by omega) ?_)
            intro v34 w34 hF34 hz34
            (try simp only [zZ, zN] at hF34)
            obtain ⟨A34, c34, rfl, hc34⟩ := hF34.ownParts (i := 3) rfl
            refine hK.out _ _ ((lk hF34 5 7 8)) (fun _ => ?_)
            clear hK K
            (try simp only [zP, zQ, zS, zZ, zN])
            refine rdy1 19 (fun K hK => ?_)
            refine stp (by with_unfolding_all rfl) (wp_fst hF34 (i := 4) rfl (v := .slice A32 (k + 1) c32) (by with_unfolding_all exact ⟨_, _, rfl, rfl, rfl⟩) (by kernel_rfl) rfl rfl (by rw [vlL_len]; decide) ?_)
            intro w35 hF35 hz35
            (try simp only [zZ, zN] at hF35)
            rw [(vlL_3 (k := 6) (n := 0) (t := ⟨#[]⟩) (a := .slice A1 k c1) (b := .slice B1 k d1))] at hF35
            refine hK.out _ _ ((lk hF35 5 7 8)) (fun _ => ?_)
            clear hK K
            (try simp only [zP, zQ, zS, zZ, zN])
            refine tkp 20 (lk hF35 5 7 8) ?_
            (try simp only [zP, zQ, zS, zZ, zN])
            refine rdy1 21 (fun K hK => ?_)
            refine stp (by with_unfolding_all rfl) (wp_fst hF35 (i := 4) rfl (v := .slice A34 (k + 1) c34) (by with_unfolding_all exact ⟨_, _, rfl, rfl, rfl⟩) (by kernel_rfl) rfl rfl (by rw [vlL_len]; decide) ?_)
            intro w36 hF36 hz36
            (try simp only [zZ, zN] at hF36)
            rw [(vlL_4 (k := 6) (n := 0) (t := ⟨#[]⟩) (a := .slice A32 (k + 1) c32) (b := .slice B1 k d1))] at hF36
            refine hK.out _ _ ((lk hF36 5 7 8)) (fun _ => ?_)
            clear hK K
            (try simp only [zP, zQ, zS, zZ, zN])
            refine wpAnyH_done (by kernel_rfl) ?_ _
            go_wp2_with fail
            go_roundg (nk - (i + 1))
            case rel => exact ⟨i + 1, k + 1, A32, c32, A34, c34, zs ++ ci, by omega, box rfl, by go_num, hc32, hc34, hLl, by omega, hKL2, by rw [hLs.out, nmL_snoc]; exact hF36.tail.tail⟩
            case measure => have := hkk.out; omega
           refine AllReadyH.cons (by simp only [List.getElem?_toArray, List.getElem?_cons_zero, List.getElem?_cons_succ]; rfl) (fun K hK => ?_) ?_
           ·refine stp (by with_unfolding_all rfl) (wp_fbs1 T_rvals hF32 (by with_unfolding_all rfl) (ds := ci) (by with_unfolding_all rfl) hcil.out (by decide) ?_)
            intro w33 g33 hF33 hz33
            refine hK.out _ _ ((lk hF33 5 7 8)) (fun _ => ?_)
            clear hK K
            (try simp only [zP, zQ, zS, zZ, zN])
            refine rdy1 10 (fun K hK => ?_)
            refine stp (by with_unfolding_all rfl) (wp_fld hF33 (i := 4) rfl uq49 rfl (by with_unfolding_all exact ⟨_, rfl, rfl⟩) rfl ?_)
            refine hK.out _ _ ((lk hF33 5 7 8)) (fun _ => ?_)
            clear hK K
            (try simp only [zP, zQ, zS, zZ, zN])
            refine tkp 18 (lk hF33 5 7 8) ?_
            (try simp only [zP, zQ, zS, zZ, zN])
            refine rdy1 17 (fun K hK => ?_)
            refine stp (by with_unfolding_all rfl) (wp_fappG T_rvals hF33 (i := 3) rfl (Nat.le_refl _) (hF33.rdOwn (i := 0) rfl) hcio.out (by with_unfolding_all exact ⟨_, _, rfl, rfl, rfl⟩) (by unfold maxLen; omega) (by omega) ?_)
            intro v34 w34 hF34 hz34
            (try simp only [zZ, zN] at hF34)
            obtain ⟨A34, c34, rfl, hc34⟩ := hF34.ownParts (i := 3) rfl
            refine hK.out _ _ ((lk hF34 5 7 8)) (fun _ => ?_)
            clear hK K
            (try simp only [zP, zQ, zS, zZ, zN])
            refine rdy1 19 (fun K hK => ?_)
            refine stp (by with_unfolding_all rfl) (wp_fst hF34 (i := 4) rfl (v := .slice A32 (k + 1) c32) (by with_unfolding_all exact ⟨_, _, rfl, rfl, rfl⟩) (by kernel_rfl) rfl rfl (by rw [vlL_len]; decide) ?_)
            intro w35 hF35 hz35
            (try simp only [zZ, zN] at hF35)
            rw [(vlL_3 (k := 6) (n := 0) (t := ⟨#[]⟩) (a := .slice A1 k c1) (b := .slice B1 k d1))] at hF35
            refine hK.out _ _ ((lk hF35 5 7 8)) (fun _ => ?_)
            clear hK K
            (try simp only [zP, zQ, zS, zZ, zN])
            refine tkp 20 (lk hF35 5 7 8) ?_
            (try simp only [zP, zQ, zS, zZ, zN])
            refine rdy1 21 (fun K hK => ?_)
            refine stp (by with_unfolding_all rfl) (wp_fst hF35 (i := 4) rfl (v := .slice A34 (k + 1) c34) (by with_unfolding_all exact ⟨_, _, rfl, rfl, rfl⟩) (by kernel_rfl) rfl rfl (by rw [vlL_len]; decide) ?_)
            intro w36 hF36 hz36
            (try simp only [zZ, zN] at hF36)
            rw [(vlL_4 (k := 6) (n := 0) (t := ⟨#[]⟩) (a := .slice A32 (k + 1) c32) (b := .slice B1 k d1))] at hF36
            refine hK.out _ _ ((lk hF36 5 7 8)) (fun _ => ?_)
            clear hK K
            (try simp only [zP, zQ, zS, zZ, zN])
            refine wpAnyH_done (by kernel_rfl) ?_ _
            go_wp2_with fail
            go_roundg (nk - (i + 1))
            case rel => exact ⟨i + 1, k + 1, A32, c32, A34, c34, zs ++ ci, by omega, box rfl, by go_num, hc32, hc34, hLl, by omega, hKL2, by rw [hLs.out, nmL_snoc]; exact hF36.tail.tail⟩
            case measure => have := hkk.out; omega
           exact AllReadyH.nil
         refine AllReadyH.cons (by simp only [List.getElem?_toArray, List.getElem?_cons_zero, List.getElem?_cons_succ]; rfl) (fun K hK => ?_) ?_
         ·as_aux_lemma =>
           refine stp (by with_unfolding_all rfl) (wp_fld hF31 (i := 3) rfl uq49 rfl (by with_unfolding_all exact ⟨_, rfl, rfl⟩) rfl ?_)
           refine hK.out _ _ ((lk hF31 4 6 7)) (fun _ => ?_)
           clear hK K
           (try simp only [zP, zQ, zS, zZ, zN])
           refine wpAnyH_ready (rs := [8, 16]) (by kernel_rfl) (by simp) ?_
           refine AllReadyH.cons (by simp only [List.getElem?_toArray, List.getElem?_cons_zero, List.getElem?_cons_succ]; rfl) (fun K hK => ?_) ?_
           ·refine stp (by with_unfolding_all rfl) (wp_fappG T_strs hF31 (i := 1) rfl (Nat.le_refl _) (hF31.rdOwn (i := 0) rfl) (strs_one1 _) (by with_unfolding_all exact ⟨_, _, rfl, rfl, rfl⟩) (by unfold maxLen; omega) (by omega) ?_)
            intro v32 w32 hF32 hz32
            (try simp only [zZ, zN] at hF32)
            obtain ⟨A32, c32, rfl, hc32⟩ := hF32.ownParts (i := 1) rfl
            refine hK.out _ _ ((lk hF32 4 6 7)) (fun _ => ?_)
            clear hK K
            (try simp only [zP, zQ, zS, zZ, zN])
            refine tkp 18 (lk hF32 4 6 7) ?_
            (try simp only [zP, zQ, zS, zZ, zN])
            refine rdy1 16 (fun K hK => ?_)
            refine stp (by with_unfolding_all rfl) (wp_fbs1 T_rvals hF32 (by with_unfolding_all rfl) (ds := ci) (by with_unfolding_all rfl) hcil.out (by decide) ?_)
            intro w33 g33 hF33 hz33
            refine hK.out _ _ ((lk hF33 5 7 8)) (fun _ => ?_)
            clear hK K
            (try simp only [zP, zQ, zS, zZ, zN])
            refine rdy1 17 (fun K hK => ?_)
            refine stp (by with_unfolding_all rfl) (wp_fappG T_rvals hF33 (i := 3) rfl (Nat.le_refl _) (hF33.rdOwn (i := 0) rfl) hcio.out (by with_unfolding_all exact ⟨_, _, rfl, rfl, rfl⟩) (by unfold maxLen; omega) (by omega) ?_)
            intro v34 w34 hF34 hz34
            (try simp only [zZ, zN] at hF34)
            obtain ⟨A34, c34, rfl, hc34⟩ := hF34.ownParts (i := 3) rfl
            refine hK.out _ _ ((lk hF34 5 7 8)) (fun _ => ?_)
            clear hK K
            (try simp only [zP, zQ, zS, zZ, zN])
            refine rdy1 19 (fun K hK => ?_)
            refine stp (by with_unfolding_all rfl) (wp_fst hF34 (i := 4) rfl (v := .slice A32 (k + 1) c32) (by with_unfolding_all exact ⟨_, _, rfl, rfl, rfl⟩) (by kernel_rfl) rfl rfl (by rw [vlL_len]; decide) ?_)
            intro w35 hF35 hz35
            (try simp only [zZ, zN] at hF35)
            rw [(vlL_3 (k := 6) (n := 0) (t := ⟨#[]⟩) (a := .slice A1 k c1) (b := .slice B1 k d1))] at hF35
            refine hK.out _ _ ((lk hF35 5 7 8)) (fun _ => ?_)
            clear hK K
            (try simp only [zP, zQ, zS, zZ, zN])
            refine tkp 20 (lk hF35 5 7 8) ?_
            (try simp only [zP, zQ, zS, zZ, zN])
            refine rdy1 21 (fun K hK => ?_)
            refine stp (by with_unfolding_all rfl) (wp_fst hF35 (i := 4) rfl (v := .slice A34 (k + 1) c34) (by with_unfolding_all exact ⟨_, _, rfl, rfl, rfl⟩) (by kernel_rfl) rfl rfl (by rw [vlL_len]; decide) ?_)
            intro w36 hF36 hz36
            (try simp only [zZ, zN] at hF36)
            rw [(vlL_4 (k := 6) (n := 0) (t := ⟨#[]⟩) (a := .slice A32 (k + 1) c32) (b := .slice B1 k d1))] at hF36
            refine hK.out _ _ ((lk hF36 5 7 8)) (fun _ => ?_)
            clear hK K
            (try simp only [zP, zQ, zS, zZ, zN])
            refine wpAnyH_done (by kernel_rfl) ?_ _
            go_wp2_with fail
            go_roundg (nk - (i + 1))
            case rel => exact ⟨i + 1, k + 1, A32, c32, A34, c34, zs ++ ci, by omega, box rfl, by go_num, hc32, hc34, hLl, by omega, hKL2, by rw [hLs.out, nmL_snoc]; exact hF36.tail.tail⟩
            case measure => have := hkk.out; omega
           refine AllReadyH.cons (by simp only [List.getElem?_toArray, List.getElem?_cons_zero, List.getElem?_cons_succ]; rfl) (fun K hK => ?_) ?_
           ·refine stp (by with_unfolding_all rfl) (wp_fbs1 T_rvals hF31 (by with_unfolding_all rfl) (ds := ci) (by with_unfolding_all rfl) hcil.out (by decide) ?_)
            intro w32 g32 hF32 hz32
            refine hK.out _ _ ((lk hF32 5 7 8)) (fun _ => ?_)
            clear hK K
            (try simp only [zP, zQ, zS, zZ, zN])
            refine rdy1 8 (fun K hK => ?_)
            refine stp (by with_unfolding_all rfl) (wp_fappG T_strs hF32 (i := 2) rfl (Nat.le_refl _) (hF32.rdOwn (i := 1) rfl) (strs_one1 _) (by with_unfolding_all exact ⟨_, _, rfl, rfl, rfl⟩) (by unfold maxLen; omega) (by omega) ?_)
            intro v33 w33 hF33 hz33
            (try simp only [zZ, zN] at hF33)
            obtain ⟨A33, c33, rfl, hc33⟩ := hF33.ownParts (i := 2) rfl
            refine hK.out _ _ ((lk hF33 5 7 8)) (fun _ => ?_)
            clear hK K
            (try simp only [zP, zQ, zS, zZ, zN])
            refine tkp 18 (lk hF33 5 7 8) ?_
            (try simp only [zP, zQ, zS, zZ, zN])
            refine rdy1 17 (fun K hK => ?_)
            refine stp (by with_unfolding_all rfl) (wp_fappG T_rvals hF33 (i := 3) rfl (Nat.le_refl _) (hF33.rdOwn (i := 0) rfl) hcio.out (by with_unfolding_all exact ⟨_, _, rfl, rfl, rfl⟩) (by unfold maxLen; omega) (by omega) ?_)
            intro v34 w34 hF34 hz34
            (try simp only [zZ, zN] at hF34)
            obtain ⟨A34, c34, rfl, hc34⟩ := hF34.ownParts (i := 3) rfl
            refine hK.out _ _ ((lk hF34 5 7 8)) (fun _ => ?_)
            clear hK K
            (try simp only [zP, zQ, zS, zZ, zN])
            refine rdy1 19 (fun K hK => ?_)
            refine stp (by with_unfolding_all rfl) (wp_fst hF34 (i := 4) rfl (v := .slice A33 (k + 1) c33) (by with_unfolding_all exact ⟨_, _, rfl, rfl, rfl⟩) (by kernel_rfl) rfl rfl (by rw [vlL_len]; decide) ?_)
            intro w35 hF35 hz35
            (try simp only [zZ, zN] at hF35)
            rw [(vlL_3 (k := 6) (n := 0) (t := ⟨#[]⟩) (a := .slice A1 k c1) (b := .slice B1 k d1))] at hF35
            refine hK.out _ _ ((lk hF35 5 7 8)) (fun _ => ?_)
            clear hK K
            (try simp only [zP, zQ, zS, zZ, zN])
            refine tkp 20 (lk hF35 5 7 8) ?_
            (try simp only [zP, zQ, zS, zZ, zN])
            refine rdy1 21 (fun K hK => ?_)
            refine stp (by with_unfolding_all rfl) (wp_fst hF35 (i := 4) rfl (v := .slice A34 (k + 1) c34) (by with_unfolding_all exact ⟨_, _, rfl, rfl, rfl⟩) (by kernel_rfl) rfl rfl (by rw [vlL_len]; decide) ?_)
            intro w36 hF36 hz36
            (try simp only [zZ, zN] at hF36)
            rw [(vlL_4 (k := 6) (n := 0) (t := ⟨#[]⟩) (a := .slice A33 (k + 1) c33) (b := .slice B1 k d1))] at hF36
            refine hK.out _ _ ((lk hF36 5 7 8)) (fun _ => ?_)
            clear hK K
            (try simp only [zP, zQ, zS, zZ, zN])
            refine wpAnyH_done (by kernel_rfl) ?_ _
            go_wp2_with fail
            go_roundg (nk - (i + 1))
            case rel => exact ⟨i + 1, k + 1, A33, c33, A34, c34, zs ++ ci, by omega, box rfl, by go_num, hc33, hc34, hLl, by omega, hKL2, by rw [hLs.out, nmL_snoc]; exact hF36.tail.tail⟩
            case measure => have := hkk.out; omega
           exact AllReadyH.nil
         refine AllReadyH.cons (by simp only [List.getElem?_toArray, List.getElem?_cons_zero, List.getElem?_cons_succ]; rfl) (fun K hK => ?_) ?_
         ·as_aux_lemma =>
           refine stp (by with_unfolding_all rfl) (wp_fbs1 T_rvals hF31 (by with_unfolding_all rfl) (ds := ci) (by with_unfolding_all rfl) hcil.out (by decide) ?_)
           intro w32 g32 hF32 hz32
           refine hK.out _ _ ((lk hF32 5 7 8)) (fun _ => ?_)
           clear hK K
           (try simp only [zP, zQ, zS, zZ, zN])
           refine wpAnyH_ready (rs := [8, 10]) (by kernel_rfl) (by simp) ?_
           refine AllReadyH.cons (by simp only [List.getElem?_toArray, List.getElem?_cons_zero, List.getElem?_cons_succ]; rfl) (fun K hK => ?_) ?_
           ·refine stp (by with_unfolding_all rfl) (wp_fappG T_strs hF32 (i := 2) rfl (Nat.le_refl _) (hF32.rdOwn (i := 1) rfl) (strs_one1 _) (by with_unfolding_all exact ⟨_, _, rfl, rfl, rfl⟩) (by unfold maxLen; omega) (by omega) ?_)
            intro v33 w33 hF33 hz33
            (try simp only [zZ, zN] at hF33)
            obtain ⟨A33, c33, rfl, hc33⟩ := hF33.ownParts (i := 2) rfl
            refine hK.out _ _ ((lk hF33 5 7 8)) (fun _ => ?_)
            clear hK K
            (try simp only [zP, zQ, zS, zZ, zN])
            refine rdy1 10 (fun K hK => ?_)
            refine stp (by with_unfolding_all rfl) (wp_fld hF33 (i := 4) rfl uq49 rfl (by with_unfolding_all exact ⟨_, rfl, rfl⟩) rfl ?_)
            refine hK.out _ _ ((lk hF33 5 7 8)) (fun _ => ?_)
            clear hK K
            (try simp only [zP, zQ, zS, zZ, zN])
            refine tkp 18 (lk hF33 5 7 8) ?_
            (try simp only [zP, zQ, zS, zZ, zN])
            refine rdy1 17 (fun K hK => ?_)
            refine stp (by with_unfolding_all rfl) (wp_fappG T_rvals hF33 (i := 3) rfl (Nat.le_refl _) (hF33.rdOwn (i := 0) rfl) hcio.out (by with_unfolding_all exact ⟨_, _, rfl, rfl, rfl⟩) (by unfold maxLen; omega) (by omega) ?_)
            intro v34 w34 hF34 hz34
            (try simp only [zZ, zN] at hF34)
            obtain ⟨A34, c34, rfl, hc34⟩ := hF34.ownParts (i := 3) rfl
            refine hK.out _ _ ((lk hF34 5 7 8)) (fun _ => ?_)
            clear hK K
            (try simp only [zP, zQ, zS, zZ, zN])
            refine rdy1 19 (fun K hK => ?_)
            refine stp (by with_unfolding_all rfl) (wp_fst hF34 (i := 4) rfl (v := .slice A33 (k + 1) c33) (by with_unfolding_all exact ⟨_, _, rfl, rfl, rfl⟩) (by kernel_rfl) rfl rfl (by rw [vlL_len]; decide) ?_)
            intro w35 hF35 hz35
            (try simp only [zZ, zN] at hF35)
            rw [(vlL_3 (k := 6) (n := 0) (t := ⟨#[]⟩) (a := .slice A1 k c1) (b := .slice B1 k d1))] at hF35
            refine hK.out _ _ ((lk hF35 5 7 8)) (fun _ => ?_)
            clear hK K
            (try simp only [zP, zQ, zS, zZ, zN])
            refine tkp 20 (lk hF35 5 7 8) ?_
            (try simp only [zP, zQ, zS, zZ, zN])
            refine rdy1 21 (fun K hK => ?_)
            refine stp (by with_unfolding_all rfl) (wp_fst hF35 (i := 4) rfl (v := .slice A34 (k + 1) c34) (by with_unfolding_all exact ⟨_, _, rfl, rfl, rfl⟩) (by kernel_rfl) rfl rfl (by rw [vlL_len]; decide) ?_)
            intro w36 hF36 hz36
            (try simp only [zZ, zN] at hF36)
            rw [(vlL_4 (k := 6) (n := 0) (t := ⟨#[]⟩) (a := .slice A33 (k + 1) c33) (b := .slice B1 k d1))] at hF36
            refine hK.out _ _ ((lk hF36 5 7 8)) (fun _ => ?_)
            clear hK K
            (try simp only [zP, zQ, zS, zZ, zN])
            refine wpAnyH_done (by kernel_rfl) ?_ _
            go_wp2_with fail
            go_roundg (nk - (i + 1))
            case rel => exact ⟨i + 1, k + 1, A33, c33, A34, c34, zs ++ ci, by omega, box rfl, by go_num, hc33, hc34, hLl, by omega, hKL2, by rw [hLs.out, nmL_snoc]; exact hF36.tail.tail⟩
            case measure => have := hkk.out; omega
           refine AllReadyH.cons (by simp only [List.getElem?_toArray, List.getElem?_cons_zero, List.getElem?_cons_succ]; rfl) (fun K hK => ?_) ?_
           ·refine stp (by with_unfolding_all rfl) (wp_fld hF32 (i := 4) rfl uq49 rfl (by with_unfolding_all exact ⟨_, rfl, rfl⟩) rfl ?_)
            refine hK.out _ _ ((lk hF32 5 7 8)) (fun _ => ?_)
            clear hK K
            (try simp only [zP, zQ, zS, zZ, zN])
            refine rdy1 8 (fun K hK => ?_)
            refine stp (by with_unfolding_all rfl) (wp_fappG T_strs hF32 (i := 2) rfl (Nat.le_refl _) (hF32.rdOwn (i := 1) rfl) (strs_one1 _) (by with_unfolding_all exact ⟨_, _, rfl, rfl, rfl⟩) (by unfold maxLen; omega) (by omega) ?_)
            intro v33 w33 hF33 hz33
            (try simp only [zZ, zN] at hF33)
            obtain ⟨A33, c33, rfl, hc33⟩ := hF33.ownParts (i := 2) rfl
            refine hK.out _ _ ((lk hF33 5 7 8)) (fun _ => ?_)
            clear hK K
            (try simp only [zP, zQ, zS, zZ, zN])
            refine tkp 18 (lk hF33 5 7 8) ?_
            (try simp only [zP, zQ, zS, zZ, zN])
            refine rdy1 17 (fun K hK => ?_)
            refine stp (by with_unfolding_all rfl) (wp_fappG T_rvals hF33 (i := 3) rfl (Nat.le_refl _) (hF33.rdOwn (i := 0) rfl) hcio.out (by with_unfolding_all exact ⟨_, _, rfl, rfl, rfl⟩) (by unfold maxLen; omega) (by omega) ?_)
            intro v34 w34 hF34 hz34
            (try simp only [zZ, zN] at hF34)
            obtain ⟨A34, c34, rfl, hc34⟩ := hF34.ownParts (i := 3) rfl
            refine hK.out _ _ ((lk hF34 5 7 8)) (fun _ => ?_)
            clear hK K
            (try simp only [zP, zQ, zS, zZ, zN])
            refine rdy1 19 (fun K hK => ?_)
            refine stp (by with_unfolding_all rfl) (wp_fst hF34 (i := 4) rfl (v := .slice A33 (k + 1) c33) (by with_unfolding_all exact ⟨_, _, rfl, rfl, rfl⟩) (by kernel_rfl) rfl rfl (by rw [vlL_len]; decide) ?_)
            intro w35 hF35 hz35
            (try simp only [zZ, zN] at hF35)
            rw [(vlL_3 (k := 6) (n := 0) (t := ⟨#[]⟩) (a := .slice A1 k c1) (b := .slice B1 k d1))] at hF35
            refine hK.out _ _ ((lk hF35 5 7 8)) (fun _ => ?_)
            clear hK K
            (try simp only [zP, zQ, zS, zZ, zN])
            refine tkp 20 (lk hF35 5 7 8) ?_
            (try simp only [zP, zQ, zS, zZ, zN])
            refine rdy1 21 (fun K hK => ?_)
            refine stp (by with_unfolding_all rfl) (wp_fst hF35 (i := 4) rfl (v := .slice A34 (k + 1) c34) (by with_unfolding_all exact ⟨_, _, rfl, rfl, rfl⟩) (by kernel_rfl) rfl rfl (by rw [vlL_len]; decide) ?_)
            intro w36 hF36 hz36
            (try simp only [zZ, zN] at hF36)
            rw [(vlL_4 (k := 6) (n := 0) (t := ⟨#[]⟩) (a := .slice A33 (k + 1) c33) (b := .slice B1 k d1))] at hF36
            refine hK.out _ _ ((lk hF36 5 7 8)) (fun _ => ?_)
            clear hK K
            (try simp only [zP, zQ, zS, zZ, zN])
            refine wpAnyH_done (by kernel_rfl) ?_ _
            go_wp2_with fail
            go_roundg (nk - (i + 1))
            case rel => exact ⟨i + 1, k + 1, A33, c33, A34, c34, zs ++ ci, by omega, box rfl, by go_num, hc33, hc34, hLl, by omega, hKL2, by rw [hLs.out, nmL_snoc]; exact hF36.tail.tail⟩
            case measure => have := hkk.out; omega
           exact AllReadyH.nil
         exact AllReadyH.nil
       refine AllReadyH.cons (by simp only [List.getElem?_toArray, List.getElem?_cons_zero, List.getElem?_cons_succ]; rfl) (fun K hK => ?_) ?_
       ·as_aux_lemma =>
         refine stp (by with_unfolding_all rfl) (wp_fld hF31 (i := 3) rfl uq49 rfl (by with_unfolding_all exact ⟨_, rfl, rfl⟩) rfl ?_)
         refine hK.out _ _ ((lk hF31 4 6 7)) (fun _ => ?_)
         clear hK K
         (try simp only [zP, zQ, zS, zZ, zN])
         refine wpAnyH_ready (rs := [1, 16]) (by kernel_rfl) (by simp) ?_
         refine AllReadyH.cons (by simp only [List.getElem?_toArray, List.getElem?_cons_zero, List.getElem?_cons_succ]; rfl) (fun K hK => ?_) ?_
         ·as_aux_lemma =>
           refine stp (by with_unfolding_all rfl) (wp_fld hF31 (i := 3) rfl uq48 rfl (by with_unfolding_all exact ⟨_, rfl, rfl⟩) rfl ?_)
           refine hK.out _ _ ((lk hF31 4 6 7)) (fun _ => ?_)
           clear hK K
           (try simp only [zP, zQ, zS, zZ, zN])
           refine wpAnyH_ready (rs := [8, 16]) (by kernel_rfl) (by simp) ?_
           refine AllReadyH.cons (by simp only [List.getElem?_toArray, List.getElem?_cons_zero, List.getElem?_cons_succ]; rfl) (fun K hK => ?_) ?_
           ·refine stp (by with_unfolding_all rfl) (wp_fappG T_strs hF31 (i := 1) rfl (Nat.le_refl _) (hF31.rdOwn (i := 0) rfl) (strs_one1 _) (by with_unfolding_all exact ⟨_, _, rfl, rfl, rfl⟩) (by unfold maxLen; omega) (by omega) ?_)
            intro v32 w32 hF32 hz32
            (try simp only [zZ, zN] at hF32)
            obtain ⟨A32, c32, rfl, hc32⟩ := hF32.ownParts (i := 1) rfl
            refine hK.out _ _ ((lk hF32 4 6 7)) (fun _ => ?_)
            clear hK K
            (try simp only [zP, zQ, zS, zZ, zN])
            refine tkp 18 (lk hF32 4 6 7) ?_
            (try simp only [zP, zQ, zS, zZ, zN])
            refine rdy1 16 (fun K hK => ?_)
            refine stp (by with_unfolding_all rfl) (wp_fbs1 T_rvals hF32 (by with_unfolding_all rfl) (ds := ci) (by with_unfolding_all rfl) hcil.out (by decide) ?_)
            intro w33 g33 hF33 hz33
            refine hK.out _ _ ((lk hF33 5 7 8)) (fun _ => ?_)
            clear hK K
            (try simp only [zP, zQ, zS, zZ, zN])
            refine rdy1 17 (fun K hK => ?_)
            refine stp (by with_unfolding_all rfl) (wp_fappG T_rvals hF33 (i := 3) rfl (Nat.le_refl _) (hF33.rdOwn (i := 0) rfl) hcio.out (by with_unfolding_all exact ⟨_, _, rfl, rfl, rfl⟩) (by unfold maxLen; omega) (by omega) ?_)
            intro v34 w34 hF34 hz34
            (try simp only [zZ, zN] at hF34)
            obtain ⟨A34, c34, rfl, hc34⟩ := hF34.ownParts (i := 3) rfl
            refine hK.out _ _ ((lk hF34 5 7 8)) (fun _ => ?_)
            clear hK K
            (try simp only [zP, zQ, zS, zZ, zN])
            refine rdy1 19 (fun K hK => ?_)
            refine stp (by with_unfolding_all rfl) (wp_fst hF34 (i := 4) rfl (v := .slice A32 (k + 1) c32) (by with_unfolding_all exact ⟨_, _, rfl, rfl, rfl⟩) (by kernel_rfl) rfl rfl (by rw [vlL_len]; decide) ?_)
            intro w35 hF35 hz35
            (try simp only [zZ, zN] at hF35)
            rw [(vlL_3 (k := 6) (n := 0) (t := ⟨#[]⟩) (a := .slice A1 k c1) (b := .slice B1 k d1))] at hF35
            refine hK.out _ _ ((lk hF35 5 7 8)) (fun _ => ?_)
            clear hK K
            (try simp only [zP, zQ, zS, zZ, zN])
            refine tkp 20 (lk hF35 5 7 8) ?_
            (try simp only [zP, zQ, zS, zZ, zN])
            refine rdy1 21 (fun K hK => ?_)
            refine stp (by with_unfolding_all rfl) (wp_fst hF35 (i := 4) rfl (v := .slice A34 (k + 1) c34) (by with_unfolding_all exact ⟨_, _, rfl, rfl, rfl⟩) (by kernel_rfl) rfl rfl (by rw [vlL_len]; decide) ?_)
            intro w36 hF36 hz36
            (try simp only [zZ, zN] at hF36)
            rw [(vlL_4 (k := 6) (n := 0) (t := ⟨#[]⟩) (a := .slice A32 (k + 1) c32) (b := .slice B1 k d1))] at hF36
            refine hK.out _ _ ((lk hF36 5 7 8)) (fun _ => ?_)
            clear hK K
            (try simp only [zP, zQ, zS, zZ, zN])
            refine wpAnyH_done (by kernel_rfl) ?_ _
            go_wp2_with fail
            go_roundg (nk - (i + 1))
            case rel => exact ⟨i + 1, k + 1, A32, c32, A34, c34, zs ++ ci, by omega, box rfl, by go_num, hc32, hc34, hLl, by omega, hKL2, by rw [hLs.out, nmL_snoc]; exact hF36.tail.tail⟩
            case measure => have := hkk.out; omega
           refine AllReadyH.cons (by simp only [List.getElem?_toArray, List.getElem?_cons_zero, List.getElem?_cons_succ]; rfl) (fun K hK => ?_) ?_
           ·refine stp (by with_unfolding_all rfl) (wp_fbs1 T_rvals hF31 (by with_unfolding_all rfl) (ds := ci) (by with_unfolding_all rfl) hcil.out (by decide) ?_)
            intro w32 g32 hF32 hz32
            refine hK.out _ _ ((lk hF32 5 7 8)) (fun _ => ?_)
            clear hK K
            (try simp only [zP, zQ, zS, zZ, zN])
            refine rdy1 8 (fun K hK => ?_)
            refine stp (by with_unfolding_all rfl) (wp_fappG T_strs hF32 (i := 2) rfl (Nat.le_refl _) (hF32.rdOwn (i := 1) rfl) (strs_one1 _) (by with_unfolding_all exact ⟨_, _, rfl, rfl, rfl⟩) (by unfold maxLen; omega) (by omega) ?_)
            intro v33 w33 hF33 hz33
            (try simp only [zZ, zN] at hF33)
            obtain ⟨A33, c33, rfl, hc33⟩ := hF33.ownParts (i := 2) rfl
            refine hK.out _ _ ((lk hF33 5 7 8)) (fun _ => ?_)
            clear hK K
            (try simp only [zP, zQ, zS, zZ, zN])
            refine tkp 18 (lk hF33 5 7 8) ?_
            (try simp only [zP, zQ, zS, zZ, zN])
            refine rdy1 17 (fun K hK => ?_)
            refine stp (by with_unfolding_all rfl) (wp_fappG T_rvals hF33 (i := 3) rfl (Nat.le_refl _) (hF33.rdOwn (i := 0) rfl) hcio.out (by with_unfolding_all exact ⟨_, _, rfl, rfl, rfl⟩) (by unfold maxLen; omega) (by omega) ?_)
            intro v34 w34 hF34 hz34
            (try simp only [zZ, zN] at hF34)
            obtain ⟨A34, c34, rfl, hc34⟩ := hF34.ownParts (i := 3) rfl
            refine hK.out _ _ ((lk hF34 5 7 8)) (fun _ => ?_)
            clear hK K
            (try simp only [zP, zQ, zS, zZ, zN])
            refine rdy1 19 (fun K hK => ?_)
            refine stp (by with_unfolding_all rfl) (wp_fst hF34 (i := 4) rfl (v := .slice A33 (k + 1) c33) (by with_unfolding_all exact ⟨_, _, rfl, rfl, rfl⟩) (by kernel_rfl) rfl rfl (by rw [vlL_len]; decide) ?_)
            intro w35 hF35 hz35
            (try simp only [zZ, zN] at hF35)
            rw [(vlL_3 (k := 6) (n := 0) (t := ⟨#[]⟩) (a := .slice A1 k c1) (b := .slice B1 k d1))] at hF35
            refine hK.out _ _ ((lk hF35 5 7 8)) (fun _ => ?_)
            clear hK K
            (try simp only [zP, zQ, zS, zZ, zN])
            refine tkp 20 (lk hF35 5 7 8) ?_
            (try simp only [zP, zQ, zS, zZ, zN])
            refine rdy1 21 (fun K hK => ?_)
            refine stp (by with_unfolding_all rfl) (wp_fst hF35 (i := 4) rfl (v := .slice A34 (k + 1) c34) (by with_unfolding_all exact ⟨_, _, rfl, rfl, rfl⟩) (by kernel_rfl) rfl rfl (by rw [vlL_len]; decide) ?_)
            intro w36 hF36 hz36
            (try simp only [zZ, zN] at hF36)
            rw [(vlL_4 (k := 6) (n := 0) (t := ⟨#[]⟩) (a := .slice A33 (k + 1) c33) (b := .slice B1 k d1))] at hF36
            refine hK.out _ _ ((lk hF36 5 7 8)) (fun _ => ?_)
            clear hK K
            (try simp only [zP, zQ, zS, zZ, zN])
            refine wpAnyH_done (by kernel_rfl) ?_ _
            go_wp2_with fail
            go_roundg (nk - (i + 1))
            case rel => exact ⟨i + 1, k + 1, A33, c33, A34, c34, zs ++ ci, by omega, box rfl, by go_num, hc33, hc34, hLl, by omega, hKL2, by rw [hLs.out, nmL_snoc]; exact hF36.tail.tail⟩
            case measure => have := hkk.out; omega
           exact AllReadyH.nil
         refine AllReadyH.cons (by simp only [List.getElem?_toArray, List.getElem?_cons_zero, List.getElem?_cons_succ]; rfl) (fun K hK => ?_) ?_
         ·as_aux_lemma =>
           refine stp (by with_unfolding_all rfl) (wp_fbs1 T_rvals hF31 (by with_unfolding_all rfl) (ds := ci) (by with_unfolding_all rfl) hcil.out (by decide) ?_)
           intro w32 g32 hF32 hz32
           refine hK.out _ _ ((lk hF32 5 7 8)) (fun _ => ?_)
           clear hK K
           (try simp only [zP, zQ, zS, zZ, zN])
           refine rdy1 1 (fun K hK => ?_)
           refine stp (by with_unfolding_all rfl) (wp_fld hF32 (i := 4) rfl uq48 rfl (by with_unfolding_all exact ⟨_, rfl, rfl⟩) rfl ?_)
           refine hK.out _ _ ((lk hF32 5 7 8)) (fun _ => ?_)
           clear hK K
           (try simp only [zP, zQ, zS, zZ, zN])
           refine rdy1 8 (fun K hK => ?_)
           refine stp (by with_unfolding_all rfl) (wp_fappG T_strs hF32 (i := 2) rfl (Nat.le_refl _) (hF32.rdOwn (i := 1) rfl) (strs_one1 _) (by with_unfolding_all exact ⟨_, _, rfl, rfl, rfl⟩) (by unfold maxLen; omega) (by omega) ?_)
           intro v33 w33 hF33 hz33
           (try simp only [zZ, zN] at hF33)
           obtain ⟨A33, c33, rfl, hc33⟩ := hF33.ownParts (i := 2) rfl
           refine hK.out _ _ ((lk hF33 5 7 8)) (fun _ => ?_)
           clear hK K
           (try simp only [zP, zQ, zS, zZ, zN])
           refine tkp 18 (lk hF33 5 7 8) ?_
           (try simp only [zP, zQ, zS, zZ, zN])
           refine rdy1 17 (fun K hK => ?_)
           refine stp (by with_unfolding_all rfl) (wp_fappG T_rvals hF33 (i := 3) rfl (Nat.le_refl _) (hF33.rdOwn (i := 0) rfl) hcio.out (by with_unfolding_all exact ⟨_, _, rfl, rfl, rfl⟩) (by unfold maxLen; omega) (by omega) ?_)
           intro v34 w34 hF34 hz34
           (try simp only [zZ, zN] at hF34)
           obtain ⟨A34, c34, rfl, hc34⟩ := hF34.ownParts (i := 3) rfl
           refine hK.out _ _ ((lk hF34 5 7 8)) (fun _ => ?_)
           clear hK K
           (try simp only [zP, zQ, zS, zZ, zN])
           refine rdy1 19 (fun K hK => ?_)
           refine stp (by with_unfolding_all rfl) (wp_fst hF34 (i := 4) rfl (v := .slice A33 (k + 1) c33) (by with_unfolding_all exact ⟨_, _, rfl, rfl, rfl⟩) (by kernel_rfl) rfl rfl (by rw [vlL_len]; decide) ?_)
           intro w35 hF35 hz35
           (try simp only [zZ, zN] at hF35)
           rw [(vlL_3 (k := 6) (n := 0) (t := ⟨#[]⟩) (a := .slice A1 k c1) (b := .slice B1 k d1))] at hF35
           refine hK.out _ _ ((lk hF35 5 7 8)) (fun _ => ?_)
           clear hK K
           (try simp only [zP, zQ, zS, zZ, zN])
           refine tkp 20 (lk hF35 5 7 8) ?_
           (try simp only [zP, zQ, zS, zZ, zN])
           refine rdy1 21 (fun K hK => ?_)
           refine stp (by with_unfolding_all rfl) (wp_fst hF35 (i := 4) rfl (v := .slice A34 (k + 1) c34) (by with_unfolding_all exact ⟨_, _, rfl, rfl, rfl⟩) (by kernel_rfl) rfl rfl (by rw [vlL_len]; decide) ?_)
           intro w36 hF36 hz36
           (try simp only [zZ, zN] at hF36)
           rw [(vlL_4 (k := 6) (n := 0) (t := ⟨#[]⟩) (a := .slice A33 (k + 1) c33) (b := .slice B1 k d1))] at hF36
           refine hK.out _ _ ((lk hF36 5 7 8)) (fun _ => ?_)
           clear hK K
           (try simp only [zP, zQ, zS, zZ, zN])
           refine wpAnyH_done (by kernel_rfl) ?_ _
           go_wp2_with fail
           go_roundg (nk - (i + 1))
           case rel => exact ⟨i + 1, k + 1, A33, c33, A34, c34, zs ++ ci, by omega, box rfl, by go_num, hc33, hc34, hLl, by omega, hKL2, by rw [hLs.out, nmL_snoc]; exact hF36.tail.tail⟩
           case measure => have := hkk.out; omega
         exact AllReadyH.nil
       refine AllReadyH.cons (by simp only [List.getElem?_toArray, List.getElem?_cons_zero, List.getElem?_cons_succ]; rfl) (fun K hK => ?_) ?_
       ·as_aux_lemma =>
         refine stp (by with_unfolding_all rfl) (wp_fbs1 T_rvals hF31 (by with_unfolding_all rfl) (ds := ci) (by with_unfolding_all rfl) hcil.out (by decide) ?_)
         intro w32 g32 hF32 hz32
         refine hK.out _ _ ((lk hF32 5 7 8)) (fun _ => ?_)
         clear hK K
         (try simp only [zP, zQ, zS, zZ, zN])
         refine wpAnyH_ready (rs := [1, 10]) (by kernel_rfl) (by simp) ?_
         refine AllReadyH.cons (by simp only [List.getElem?_toArray, List.getElem?_cons_zero, List.getElem?_cons_succ]; rfl) (fun K hK => ?_) ?_
         ·as_aux_lemma =>
           refine stp (by with_unfolding_all rfl) (wp_fld hF32 (i := 4) rfl uq48 rfl (by with_unfolding_all exact ⟨_, rfl, rfl⟩) rfl ?_)
           refine hK.out _ _ ((lk hF32 5 7 8)) (fun _ => ?_)
           clear hK K
           (try simp only [zP, zQ, zS, zZ, zN])
           refine wpAnyH_ready (rs := [8, 10]) (by kernel_rfl) (by simp) ?_
           refine AllReadyH.cons (by simp only [List.getElem?_toArray, List.getElem?_cons_zero, List.getElem?_cons_succ]; rfl) (fun K hK => ?_) ?_
           ·refine stp (by with_unfolding_all rfl) (wp_fappG T_strs hF32 (i := 2) rfl (Nat.le_refl _) (hF32.rdOwn (i := 1) rfl) (strs_one1 _) (by with_unfolding_all exact ⟨_, _, rfl, rfl, rfl⟩) (by unfold maxLen; omega) (by omega) ?_)
            intro v33 w33 hF33 hz33
            (try simp only [zZ, zN] at hF33)
            obtain ⟨A33, c33, rfl, hc33⟩ := hF33.ownParts (i := 2) rfl
            refine hK.out _ _ ((lk hF33 5 7 8)) (fun _ => ?_)
            clear hK K
            (try simp only [zP, zQ, zS, zZ, zN])
            refine rdy1 10 (fun K hK => ?_)
            refine stp (by with_unfolding_all rfl) (wp_fld hF33 (i := 4) rfl uq49 rfl (by with_unfolding_all exact ⟨_, rfl, rfl⟩) rfl ?_)
            refine hK.out _ _ ((lk hF33 5 7 8)) (fun _ => ?_)
            clear hK K
            (try simp only [zP, zQ, zS, zZ, zN])
            refine tkp 18 (lk hF33 5 7 8) ?_
            (try simp only [zP, zQ, zS, zZ, zN])
            refine rdy1 17 (fun K hK => ?_)
            refine stp (by with_unfolding_all rfl) (wp_fappG T_rvals hF33 (i := 3) rfl (Nat.le_refl _) (hF33.rdOwn (i := 0) rfl) hcio.out (by with_unfolding_all exact ⟨_, _, rfl, rfl, rfl⟩) (by unfold maxLen; omega) (by omega) ?_)
            intro v34 w34 hF34 hz34
            (try simp only [zZ, zN] at hF34)
            obtain ⟨A34, c34, rfl, hc34⟩ := hF34.ownParts (i := 3) rfl
            refine hK.out _ _ ((lk hF34 5 7 8)) (fun _ => ?_)
            clear hK K
            (try simp only [zP, zQ, zS, zZ, zN])
            refine rdy1 19 (fun K hK => ?_)
            refine stp (by with_unfolding_all rfl) (wp_fst hF34 (i := 4) rfl (v := .slice A33 (k + 1) c33) (by with_unfolding_all exact ⟨_, _, rfl, rfl, rfl⟩) (by kernel_rfl) rfl rfl (by rw [vlL_len]; decide) ?_)
            intro w35 hF35 hz35
            (try simp only [zZ, zN] at hF35)
            rw [(vlL_3 (k := 6) (n := 0) (t := ⟨#[]⟩) (a := .slice A1 k c1) (b := .slice B1 k d1))] at hF35
            refine hK.out _ _ ((lk hF35 5 7 8)) (fun _ => ?_)
            clear hK K
            (try simp only [zP, zQ, zS, zZ, zN])
            refine tkp 20 (lk hF35 5 7 8) ?_
            (try simp only [zP, zQ, zS, zZ, zN])
            refine rdy1 21 (fun K hK => ?_)
            refine stp (by with_unfolding_all rfl) (wp_fst hF35 (i := 4) rfl (v := .slice A34 (k + 1) c34) (by with_unfolding_all exact ⟨_, _, rfl, rfl, rfl⟩) (by kernel_rfl) rfl rfl (by rw [vlL_len]; decide) ?_)
            intro w36 hF36 hz36
            (try simp only [zZ, zN] at hF36)
            rw [(vlL_4 (k := 6) (n := 0) (t := ⟨#[]⟩) (a := .slice A33 (k + 1) c33) (b := .slice B1 k d1))] at hF36
            refine hK.out _ _ ((lk hF36 5 7 8)) (fun _ => ?_)
            clear hK K
            (try simp only [zP, zQ, zS, zZ, zN])
            refine wpAnyH_done (by kernel_rfl) ?_ _
            go_wp2_with fail
            go_roundg (nk - (i + 1))
            case rel => exact ⟨i + 1, k + 1, A33, c33, A34, c34, zs ++ ci, by omega, box rfl, by go_num, hc33, hc34, hLl, by omega, hKL2, by rw [hLs.out, nmL_snoc]; exact hF36.tail.tail⟩
            case measure => have := hkk.out; omega
           refine AllReadyH.cons (by simp only [List.getElem?_toArray, List.getElem?_cons_zero, List.getElem?_cons_succ]; rfl) (fun K hK => ?_) ?_
           ·refine stp (by with_unfolding_all rfl) (wp_fld hF32 (i := 4) rfl uq49 rfl (by with_unfolding_all exact ⟨_, rfl, rfl⟩) rfl ?_)
            refine hK.out _ _ ((lk hF32 5 7 8)) (fun _ => ?_)
            clear hK K
            (try simp only [zP, zQ, zS, zZ, zN])
            refine rdy1 8 (fun K hK => ?_)
            refine stp (by with_unfolding_all rfl) (wp_fappG T_strs hF32 (i := 2) rfl (Nat.le_refl _) (hF32.rdOwn (i := 1) rfl) (strs_one1 _) (by with_unfolding_all exact ⟨_, _, rfl, rfl, rfl⟩) (by unfold maxLen; omega) (by omega) ?_)
            intro v33 w33 hF33 hz33
            (try simp only [zZ, zN] at hF33)
            obtain ⟨A33, c33, rfl, hc33⟩ := hF33.ownParts (i := 2) rfl
            refine hK.out _ _ ((lk hF33 5 7 8)) (fun _ => ?_)
            clear hK K
            (try simp only [zP, zQ, zS, zZ, zN])
            refine tkp 18 (lk hF33 5 7 8) ?_
            (try simp only [zP, zQ, zS, zZ, zN])
            refine rdy1 17 (fun K hK => ?_)
            refine stp (by with_unfolding_all rfl) (wp_fappG T_rvals hF33 (i := 3) rfl (Nat.le_refl _) (hF33.rdOwn (i := 0) rfl) hcio.out (by with_unfolding_all exact ⟨_, _, rfl, rfl, rfl⟩) (by unfold maxLen; omega) (by omega) ?_)
            intro v34 w34 hF34 hz34
            (try simp only [zZ, zN] at hF34)
            obtain ⟨A34, c34, rfl, hc34⟩ := hF34.ownParts (i := 3) rfl
            refine hK.out _ _ ((lk hF34 5 7 8)) (fun _ => ?_)
            clear hK K
            (try simp only [zP, zQ, zS, zZ, zN])
            refine rdy1 19 (fun K hK => ?_)
            refine stp (by with_unfolding_all rfl) (wp_fst hF34 (i := 4) rfl (v := .slice A33 (k + 1) c33) (by with_unfolding_all exact ⟨_, _, rfl, rfl, rfl⟩) (by kernel_rfl) rfl rfl (by rw [vlL_len]; decide) ?_)
            intro w35 hF35 hz35
            (try simp only [zZ, zN] at hF35)
            rw [(vlL_3 (k := 6) (n := 0) (t := ⟨#[]⟩) (a := .slice A1 k c1) (b := .slice B1 k d1))] at hF35
            refine hK.out _ _ ((lk hF35 5 7 8)) (fun _ => ?_)
            clear hK K
            (try simp only [zP, zQ, zS, zZ, zN])
            refine tkp 20 (lk hF35 5 7 8) ?_
            (try simp only [zP, zQ, zS, zZ, zN])
            refine rdy1 21 (fun K hK => ?_)
            refine stp (by with_unfolding_all rfl) (wp_fst hF35 (i := 4) rfl (v := .slice A34 (k + 1) c34) (by with_unfolding_all exact ⟨_, _, rfl, rfl, rfl⟩) (by kernel_rfl) rfl rfl (by rw [vlL_len]; decide) ?_)
            intro w36 hF36 hz36
            (try simp only [zZ, zN] at hF36)
            rw [(vlL_4 (k := 6) (n := 0) (t := ⟨#[]⟩) (a := .slice A33 (k + 1) c33) (b := .slice B1 k d1))] at hF36
            refine hK.out _ _ ((lk hF36 5 7 8)) (fun _ => ?_)
            clear hK K
            (try simp only [zP, zQ, zS, zZ, zN])
            refine wpAnyH_done (by kernel_rfl) ?_ _
            go_wp2_with fail
            go_roundg (nk - (i + 1))
            case rel => exact ⟨i + 1, k + 1, A33, c33, A34, c34, zs ++ ci, by omega, box rfl, by go_num, hc33, hc34, hLl, by omega, hKL2, by rw [hLs.out, nmL_snoc]; exact hF36.tail.tail⟩
            case measure => have := hkk.out; omega
           exact AllReadyH.nil
         refine AllReadyH.cons (by simp only [List.getElem?_toArray, List.getElem?_cons_zero, List.getElem?_cons_succ]; rfl) (fun K hK => ?_) ?_
         ·as_aux_lemma =>
           refine stp (by with_unfolding_all rfl) (wp_fld hF32 (i := 4) rfl uq49 rfl (by with_unfolding_all exact ⟨_, rfl, rfl⟩) rfl ?_)
           refine hK.out _ _ ((lk hF32 5 7 8)) (fun _ => ?_)
           clear hK K
           (try simp only [zP, zQ, zS, zZ, zN])
           refine rdy1 1 (fun K hK => ?_)
           refine stp (by with_unfolding_all rfl) (wp_fld hF32 (i := 4) rfl uq48 rfl (by with_unfolding_all exact ⟨_, rfl, rfl⟩) rfl ?_)
           refine hK.out _ _ ((lk hF32 5 7 8)) (fun _ => ?_)
           clear hK K
           (try simp only [zP, zQ, zS, zZ, zN])
           refine rdy1 8 (fun K hK => ?_)
           refine stp (by with_unfolding_all rfl) (wp_fappG T_strs hF32 (i := 2) rfl (Nat.le_refl _) (hF32.rdOwn (i := 1) rfl) (strs_one1 _) (by with_unfolding_all exact ⟨_, _, rfl, rfl, rfl⟩) (by unfold maxLen; omega) (by omega) ?_)
           intro v33 w33 hF33 hz33
           (try simp only [zZ, zN] at hF33)
           obtain ⟨A33, c33, rfl, hc33⟩ := hF33.ownParts (i := 2) rfl
           refine hK.out _ _ ((lk hF33 5 7 8)) (fun _ => ?_)
           clear hK K
           (try simp only [zP, zQ, zS, zZ, zN])
           refine tkp 18 (lk hF33 5 7 8) ?_
           (try simp only [zP, zQ, zS, zZ, zN])
           refine rdy1 17 (fun K hK => ?_)
           refine stp (by with_unfolding_all rfl) (wp_fappG T_rvals hF33 (i := 3) rfl (Nat.le_refl _) (hF33.rdOwn (i := 0) rfl) hcio.out (by with_unfolding_all exact ⟨_, _, rfl, rfl, rfl⟩) (by unfold maxLen; omega) (by omega) ?_)
           intro v34 w34 hF34 hz34
           (try simp only [zZ, zN] at hF34)
           obtain ⟨A34, c34, rfl, hc34⟩ := hF34.ownParts (i := 3) rfl
           refine hK.out _ _ ((lk hF34 5 7 8)) (fun _ => ?_)
           clear hK K
           (try simp only [zP, zQ, zS, zZ, zN])
           refine rdy1 19 (fun K hK => ?_)
           refine stp (by with_unfolding_all rfl) (wp_fst hF34 (i := 4) rfl (v := .slice A33 (k + 1) c33) (by with_unfolding_all exact ⟨_, _, rfl, rfl, rfl⟩) (by kernel_rfl) rfl rfl (by rw [vlL_len]; decide) ?_)
           intro w35 hF35 hz35
           (try simp only [zZ, zN] at hF35)
           rw [(vlL_3 (k := 6) (n := 0) (t := ⟨#[]⟩) (a := .slice A1 k c1) (b := .slice B1 k d1))] at hF35
           refine hK.out _ _ ((lk hF35 5 7 8)) (fun _ => ?_)
           clear hK K
           (try simp only [zP, zQ, zS, zZ, zN])
           refine tkp 20 (lk hF35 5 7 8) ?_
           (try simp only [zP, zQ, zS, zZ, zN])
           refine rdy1 21 (fun K hK => ?_)
           refine stp (by with_unfolding_all rfl) (wp_fst hF35 (i := 4) rfl (v := .slice A34 (k + 1) c34) (by with_unfolding_all exact ⟨_, _, rfl, rfl, rfl⟩) (by kernel_rfl) rfl rfl (by rw [vlL_len]; decide) ?_)
           intro w36 hF36 hz36
           (try simp only [zZ, zN] at hF36)
           rw [(vlL_4 (k := 6) (n := 0) (t := ⟨#[]⟩) (a := .slice A33 (k + 1) c33) (b := .slice B1 k d1))] at hF36
           refine hK.out _ _ ((lk hF36 5 7 8)) (fun _ => ?_)
           clear hK K
           (try simp only [zP, zQ, zS, zZ, zN])
           refine wpAnyH_done (by kernel_rfl) ?_ _
           go_wp2_with fail
           go_roundg (nk - (i + 1))
           case rel => exact ⟨i + 1, k + 1, A33, c33, A34, c34, zs ++ ci, by omega, box rfl, by go_num, hc33, hc34, hLl, by omega, hKL2, by rw [hLs.out, nmL_snoc]; exact hF36.tail.tail⟩
           case measure => have := hkk.out; omega
         exact AllReadyH.nil
       exact AllReadyH.nil
     refine AllReadyH.cons (by simp only [List.getElem?_toArray, List.getElem?_cons_zero, List.getElem?_cons_succ]; rfl) (fun K hK => ?_) ?_
     ·as_aux_lemma =>
       refine stp (by with_unfolding_all rfl) (wp_fld hFd (i := 2) rfl uq49 rfl (by with_unfolding_all exact ⟨_, rfl, rfl⟩) rfl ?_)
       refine hK.out _ _ ((lk hFd 3 5 6)) (fun _ => ?_)
       clear hK K
       (try simp only [zP, zQ, zS, zZ, zN])
       refine wpAnyH_ready (rs := [1, 7, 16]) (by kernel_rfl) (by simp) ?_
       refine AllReadyH.cons (by simp only [List.getElem?_toArray, List.getElem?_cons_zero, List.getElem?_cons_succ]; rfl) (fun K hK => ?_) ?_
       ·as_aux_lemma =>
         refine stp (by with_unfolding_all rfl) (wp_fld hFd (i := 2) rfl uq48 rfl (by with_unfolding_all exact ⟨_, rfl, rfl⟩) rfl ?_)
         refine hK.out _ _ ((lk hFd 3 5 6)) (fun _ => ?_)
         clear hK K
         (try simp only [zP, zQ, zS, zZ, zN])
         refine wpAnyH_ready (rs := [7, 16]) (by kernel_rfl) (by simp) ?_
         refine AllReadyH.cons (by simp only [List.getElem?_toArray, List.getElem?_cons_zero, List.getElem?_cons_succ]; rfl) (fun K hK => ?_) ?_
         ·as_aux_lemma =>
           refine stp (by with_unfolding_all rfl) (wp_fbsl T_strs hFd (vs := [.string ⟨y.1.toArray⟩]) (by with_unfolding_all rfl) (by with_unfolding_all rfl) (by with_unfolding_all rfl) (by decide) (by simp [Value.cells]) ?_)
           intro w31 g31 hF31 hz31
           refine hK.out _ _ ((lk hF31 4 6 7)) (fun _ => ?_)
           clear hK K
           (try simp only [zP, zQ, zS, zZ, zN])
           refine wpAnyH_ready (rs := [8, 16]) (by kernel_rfl) (by simp) ?_
           refine AllReadyH.cons (by simp only [List.getElem?_toArray, List.getElem?_cons_zero, List.getElem?_cons_succ]; rfl) (fun K hK => ?_) ?_
           ·refine stp (by with_unfolding_all rfl) (wp_fappG T_strs hF31 (i := 1) rfl (Nat.le_refl _) (hF31.rdOwn (i := 0) rfl) (strs_one1 _) (by with_unfolding_all exact ⟨_, _, rfl, rfl, rfl⟩) (by unfold maxLen; omega) (by omega) ?_)
            intro v32 w32 hF32 hz32
            (try simp only [zZ, zN] at hF32)
            obtain ⟨A32, c32, rfl, hc32⟩ := hF32.ownParts (i := 1) rfl
            refine hK.out _ _ ((lk hF32 4 6 7)) (fun _ => ?_)
            clear hK K
            (try simp only [zP, zQ, zS, zZ, zN])
            refine tkp 18 (lk hF32 4 6 7) ?_
            (try simp only [zP, zQ, zS, zZ, zN])
            refine rdy1 16 (fun K hK => ?_)
            refine stp (by with_unfolding_all rfl) (wp_fbs1 T_rvals hF32 (by with_unfolding_all rfl) (ds := ci) (by with_unfolding_all rfl) hcil.out (by decide) ?_)
            intro w33 g33 hF33 hz33
            refine hK.out _ _ ((lk hF33 5 7 8)) (fun _ => ?_)
            clear hK K
            (try simp only [zP, zQ, zS, zZ, zN])
            refine rdy1 17 (fun K hK => ?_)
            refine stp (by with_unfolding_all rfl) (wp_fappG T_rvals hF33 (i := 3) rfl (Nat.le_refl _) (hF33.rdOwn (i := 0) rfl) hcio.out (by with_unfolding_all exact ⟨_, _, rfl, rfl, rfl⟩) (by unfold maxLen; omega) (by omega) ?_)
            intro v34 w34 hF34 hz34
            (try simp only [zZ, zN] at hF34)
            obtain ⟨A34, c34, rfl, hc34⟩ := hF34.ownParts (i := 3) rfl
            refine hK.out _ _ ((lk hF34 5 7 8)) (fun _ => ?_)
            clear hK K
            (try simp only [zP, zQ, zS, zZ, zN])
            refine rdy1 19 (fun K hK => ?_)
            refine stp (by with_unfolding_all rfl) (wp_fst hF34 (i := 4) rfl (v := .slice A32 (k + 1) c32) (by with_unfolding_all exact ⟨_, _, rfl, rfl, rfl⟩) (by kernel_rfl) rfl rfl (by rw [vlL_len]; decide) ?_)
            intro w35 hF35 hz35
            (try simp only [zZ, zN] at hF35)
            rw [(vlL_3 (k := 6) (n := 0) (t := ⟨#[]⟩) (a := .slice A1 k c1) (b := .slice B1 k d1))] at hF35
            refine hK.out _ _ ((lk hF35 5 7 8)) (fun _ => ?_)
            clear hK K
            (try simp only [zP, zQ, zS, zZ, zN])
            refine tkp 20 (lk hF35 5 7 8) ?_
            (try simp only [zP, zQ, zS, zZ, zN])
            refine rdy1 21 (fun K hK => ?_)
            refine stp (by with_unfolding_all rfl) (wp_fst hF35 (i := 4) rfl (v := .slice A34 (k + 1) c34) (by with_unfolding_all exact ⟨_, _, rfl, rfl, rfl⟩) (by kernel_rfl) rfl rfl (by rw [vlL_len]; decide) ?_)
            intro w36 hF36 hz36
            (try simp only [zZ, zN] at hF36)
            rw [(vlL_4 (k := 6) (n := 0) (t := ⟨#[]⟩) (a := .slice A32 (k + 1) c32) (b := .slice B1 k d1))] at hF36
            refine hK.out _ _ ((lk hF36 5 7 8)) (fun _ => ?_)
            clear hK K
            (try simp only [zP, zQ, zS, zZ, zN])
            refine wpAnyH_done (by kernel_rfl) ?_ _
            go_wp2_with fail
            go_roundg (nk - (i + 1))
            case rel => exact ⟨i + 1, k + 1, A32, c32, A34, c34, zs ++ ci, by omega, box rfl, by go_num, hc32, hc34, hLl, by omega, hKL2, by rw [hLs.out, nmL_snoc]; exact hF36.tail.tail⟩
            case measure => have := hkk.out; omega
           refine AllReadyH.cons (by simp only [List.getElem?_toArray, List.getElem?_cons_zero, List.getElem?_cons_succ]; rfl) (fun K hK => ?_) ?_
           ·refine stp (by with_unfolding_all rfl) (wp_fbs1 T_rvals hF31 (by with_unfolding_all rfl) (ds := ci) (by with_unfolding_all rfl) hcil.out (by decide) ?_)
            intro w32 g32 hF32 hz32
            refine hK.out _ _ ((lk hF32 5 7 8)) (fun _ => ?_)
            clear hK K
            (try simp only [zP, zQ, zS, zZ, zN])
            refine rdy1 8 (fun K hK => ?_)
            refine stp (by with_unfolding_all rfl) (wp_fappG T_strs hF32 (i := 2) rfl (Nat.le_refl _) (hF32.rdOwn (i := 1) rfl) (strs_one1 _) (by with_unfolding_all exact ⟨_, _, rfl, rfl, rfl⟩) (by unfold maxLen; omega) (by omega) ?_)
            intro v33 w33 hF33 hz33
            (try simp only [zZ, zN] at hF33)
            obtain ⟨A33, c33, rfl, hc33⟩ := hF33.ownParts (i := 2) rfl
            refine hK.out _ _ ((lk hF33 5 7 8)) (fun _ => ?_)
            clear hK K
            (try simp only [zP, zQ, zS, zZ, zN])
            refine tkp 18 (lk hF33 5 7 8) ?_
            (try simp only [zP, zQ, zS, zZ, zN])
            refine rdy1 17 (fun K hK => ?_)
            refine stp (by with_unfolding_all rfl) (wp_fappG T_rvals hF33 (i := 3) rfl (Nat.le_refl _) (hF33.rdOwn (i := 0) rfl) hcio.out (by with_unfolding_all exact ⟨_, _, rfl, rfl, rfl⟩) (by unfold maxLen; omega) (by omega) ?_)
            intro v34 w34 hF34 hz34
            (try simp only [zZ, zN] at hF34)
            obtain ⟨A34, c34, rfl, hc34⟩ := hF34.ownParts (i := 3) rfl
            refine hK.out _ _ ((lk hF34 5 7 8)) (fun _ => ?_)
            clear hK K
            (try simp only [zP, zQ, zS, zZ, zN])
            refine rdy1 19 (fun K hK => ?_)
            refine stp (by with_unfolding_all rfl) (wp_fst hF34 (i := 4) rfl (v := .slice A33 (k + 1) c33) (by with_unfolding_all exact ⟨_, _, rfl, rfl, rfl⟩) (by kernel_rfl) rfl rfl (by rw [vlL_len]; decide) ?_)
            intro w35 hF35 hz35
            (try simp only [zZ, zN] at hF35)
            rw [(vlL_3 (k := 6) (n := 0) (t := ⟨#[]⟩) (a := .slice A1 k c1) (b := .slice B1 k d1))] at hF35
            refine hK.out _ _ ((lk hF35 5 7 8)) (fun _ => ?_)
            clear hK K
            (try simp only [zP, zQ, zS, zZ, zN])
            refine tkp 20 (lk hF35 5 7 8) ?_
            (try simp only [zP, zQ, zS, zZ, zN])
            refine rdy1 21 (fun K hK => ?_)
            refine stp (by with_unfolding_all rfl) (wp_fst hF35 (i := 4) rfl (v := .slice A34 (k + 1) c34) (by with_unfolding_all exact ⟨_, _, rfl, rfl, rfl⟩) (by kernel_rfl) rfl rfl (by rw [vlL_len]; decide) ?_)
            intro w36 hF36 hz36
            (try simp only [zZ, zN] at hF36)
            rw [(vlL_4 (k := 6) (n := 0) (t := ⟨#[]⟩) (a := .slice A33 (k + 1) c33) (b := .slice B1 k d1))] at hF36
            refine hK.out _ _ ((lk hF36 5 7 8)) (fun _ => ?_)
            clear hK K
            (try simp only [zP, zQ, zS, zZ, zN])
            refine wpAnyH_done (by kernel_rfl) ?_ _
            go_wp2_with fail
            go_roundg (nk - (i + 1))
            case rel => exact ⟨i + 1, k + 1, A33, c33, A34, c34, zs ++ ci, by omega, box rfl, by go_num, hc33, hc34, hLl, by omega, hKL2, by rw [hLs.out, nmL_snoc]; exact hF36.tail.tail⟩
            case measure => have := hkk.out; omega
           exact AllReadyH.nil
         refine AllReadyH.cons (by simp only [List.getElem?_toArray, List.getElem?_cons_zero, List.getElem?_cons_succ]; rfl) (fun K hK => ?_) ?_
         ·as_aux_lemma =>
           refine stp (by with_unfolding_all rfl) (wp_fbs1 T_rvals hFd (by with_unfolding_all rfl) (ds := ci) (by with_unfolding_all rfl) hcil.out (by decide) ?_)
           intro w31 g31 hF31 hz31
           refine hK.out _ _ ((lk hF31 4 6 7)) (fun _ => ?_)
           clear hK K
           (try simp only [zP, zQ, zS, zZ, zN])
           refine rdy1 7 (fun K hK => ?_)
           refine stp (by with_unfolding_all rfl) (wp_fbsl T_strs hF31 (vs := [.string ⟨y.1.toArray⟩]) (by with_unfolding_all rfl) (by with_unfolding_all rfl) (by with_unfolding_all rfl) (by decide) (by simp [Value.cells]) ?_)
           intro w32 g32 hF32 hz32
           refine hK.out _ _ ((lk hF32 5 7 8)) (fun _ => ?_)
           clear hK K
           (try simp only [zP, zQ, zS, zZ, zN])
           refine rdy1 8 (fun K hK => ?_)
           refine stp (by with_unfolding_all rfl) (wp_fappG T_strs hF32 (i := 2) rfl (Nat.le_refl _) (hF32.rdOwn (i := 0) rfl) (strs_one1 _) (by with_unfolding_all exact ⟨_, _, rfl, rfl, rfl⟩) (by unfold maxLen; omega) (by omega) ?_)
           intro v33 w33 hF33 hz33
           (try simp only [zZ, zN] at hF33)
           obtain ⟨A33, c33, rfl, hc33⟩ := hF33.ownParts (i := 2) rfl
           refine hK.out _ _ ((lk hF33 5 7 8)) (fun _ => ?_)
           clear hK K
           (try simp only [zP, zQ, zS, zZ, zN])
           refine tkp 18 (lk hF33 5 7 8) ?_
           (try simp only [zP, zQ, zS, zZ, zN])
           refine rdy1 17 (fun K hK => ?_)
           refine stp (by with_unfolding_all rfl) (wp_fappG T_rvals hF33 (i := 3) rfl (Nat.le_refl _) (hF33.rdOwn (i := 1) rfl) hcio.out (by with_unfolding_all exact ⟨_, _, rfl, rfl, rfl⟩) (by unfold maxLen; omega) (by omega) ?_)
           intro v34 w34 hF34 hz34
           (try simp only [zZ, zN] at hF34)
           obtain ⟨A34, c34, rfl, hc34⟩ := hF34.ownParts (i := 3) rfl
           refine hK.out _ _ ((lk hF34 5 7 8)) (fun _ => ?_)
           clear hK K
           (try simp only [zP, zQ, zS, zZ, zN])
           refine rdy1 19 (fun K hK => ?_)
           refine stp (by with_unfolding_all rfl) (wp_fst hF34 (i := 4) rfl (v := .slice A33 (k + 1) c33) (by with_unfolding_all exact ⟨_, _, rfl, rfl, rfl⟩) (by kernel_rfl) rfl rfl (by rw [vlL_len]; decide) ?_)
           intro w35 hF35 hz35
           (try simp only [zZ, zN] at hF35)
           rw [(vlL_3 (k := 6) (n := 0) (t := ⟨#[]⟩) (a := .slice A1 k c1) (b := .slice B1 k d1))] at hF35
           refine hK.out _ _ ((lk hF35 5 7 8)) (fun _ => ?_)
           clear hK K
           (try simp only [zP, zQ, zS, zZ, zN])
           refine tkp 20 (lk hF35 5 7 8) ?_
           (try simp only [zP, zQ, zS, zZ, zN])
           refine rdy1 21 (fun K hK => ?_)
           refine stp (by with_unfolding_all rfl) (wp_fst hF35 (i := 4) rfl (v := .slice A34 (k + 1) c34) (by with_unfolding_all exact ⟨_, _, rfl, rfl, rfl⟩) (by kernel_rfl) rfl rfl (by rw [vlL_len]; decide) ?_)
           intro w36 hF36 hz36
           (try simp only [zZ, zN] at hF36)
           rw [(vlL_4 (k := 6) (n := 0) (t := ⟨#[]⟩) (a := .slice A33 (k + 1) c33) (b := .slice B1 k d1))] at hF36
           refine hK.out _ _ ((lk hF36 5 7 8)) (fun _ => ?_)
           clear hK K
           (try simp only [zP, zQ, zS, zZ, zN])
           refine wpAnyH_done (by kernel_rfl) ?_ _
           go_wp2_with fail
           go_roundg (nk - (i + 1))
           case rel => exact ⟨i + 1, k + 1, A33, c33, A34, c34, zs ++ ci, by omega, box rfl, by go_num, hc33, hc34, hLl, by omega, hKL2, by rw [hLs.out, nmL_snoc]; exact hF36.tail.tail⟩
           case measure => have := hkk.out; omega
         exact AllReadyH.nil
       refine AllReadyH.cons (by simp only [List.getElem?_toArray, List.getElem?_cons_zero, List.getElem?_cons_succ]; rfl) (fun K hK => ?_) ?_
       ·as_aux_lemma =>
         refine stp (by with_unfolding_all rfl) (wp_fbsl T_strs hFd (vs := [.string ⟨y.1.toArray⟩]) (by with_unfolding_all rfl) (by with_unfolding_all rfl) (by with_unfolding_all rfl) (by decide) (by simp [Value.cells]) ?_)
         intro w31 g31 hF31 hz31
         refine hK.out _ _ ((lk hF31 4 6 7)) (fun _ => ?_)
         clear hK K
         (try simp only [zP, zQ, zS, zZ, zN])
         refine wpAnyH_ready (rs := [1, 16]) (by kernel_rfl) (by simp) ?_
         refine AllReadyH.cons (by simp only [List.getElem?_toArray, List.getElem?_cons_zero, List.getElem?_cons_succ]; rfl) (fun K hK => ?_) ?_
         ·as_aux_lemma =>
           refine stp (by with_unfolding_all rfl) (wp_fld hF31 (i := 3) rfl uq48 rfl (by with_unfolding_all exact ⟨_, rfl, rfl⟩) rfl ?_)
           refine hK.out _ _ ((lk hF31 4 6 7)) (fun _ => ?_)
           clear hK K
           (try simp only [zP, zQ, zS, zZ, zN])
           refine wpAnyH_ready (rs := [8, 16]) (by kernel_rfl) (by simp) ?_
           refine AllReadyH.cons (by simp only [List.getElem?_toArray, List.getElem?_cons_zero, List.getElem?_cons_succ]; rfl) (fun K hK => ?_) ?_
           ·refine stp (by with_unfolding_all rfl) (wp_fappG T_strs hF31 (i := 1) rfl (Nat.le_refl _) (hF31.rdOwn (i := 0) rfl) (strs_one1 _) (by with_unfolding_all exact ⟨_, _, rfl, rfl, rfl⟩) (by unfold maxLen; omega) (by omega) ?_)
            intro v32 w32 hF32 hz32
            (try simp only [zZ, zN] at hF32)
            obtain ⟨A32, c32, rfl, hc32⟩ := hF32.ownParts (i := 1) rfl
            refine hK.out _ _ ((lk hF32 4 6 7)) (fun _ => ?_)
            clear hK K
            (try simp only [zP, zQ, zS, zZ, zN])
            refine tkp 18 (lk hF32 4 6 7) ?_
            (try simp only [zP, zQ, zS, zZ, zN])
            refine rdy1 16 (fun K hK => ?_)
            refine stp (by with_unfolding_all rfl) (wp_fbs1 T_rvals hF32 (by with_unfolding_all rfl) (ds := ci) (by with_unfolding_all rfl) hcil.out (by decide) ?_)
            intro w33 g33 hF33 hz33
            refine hK.out _ _ ((lk hF33 5 7 8)) (fun _ => ?_)
            clear hK K
            (try simp only [zP, zQ, zS, zZ, zN])
            refine rdy1 17 (fun K hK => ?_)
            refine stp (by with_unfolding_all rfl) (wp_fappG T_rvals hF33 (i := 3) rfl (Nat.le_refl _) (hF33.rdOwn (i := 0) rfl) hcio.out (by with_unfolding_all exact ⟨_, _, rfl, rfl, rfl⟩) (by unfold maxLen; omega) (by omega) ?_)
            intro v34 w34 hF34 hz34
            (try simp only [zZ, zN] at hF34)
            obtain ⟨A34, c34, rfl, hc34⟩ := hF34.ownParts (i := 3) rfl
            refine hK.out _ _ ((lk hF34 5 7 8)) (fun _ => ?_)
            clear hK K
            (try simp only [zP, zQ, zS, zZ, zN])
            refine rdy1 19 (fun K hK => ?_)
            refine stp (by with_unfolding_all rfl) (wp_fst hF34 (i := 4) rfl (v := .slice A32 (k + 1) c32) (by with_unfolding_all exact ⟨_, _, rfl, rfl, rfl⟩) (by kernel_rfl) rfl rfl (by rw [vlL_len]; decide) ?_)
            intro w35 hF35 hz35
            (try simp only [zZ, zN] at hF35)
            rw [(vlL_3 (k := 6) (n := 0) (t := ⟨#[]⟩) (a := .slice A1 k c1) (b := .slice B1 k d1))] at hF35
            refine hK.out _ _ ((lk hF35 5 7 8)) (fun _ => ?_)
            clear hK K
            (try simp only [zP, zQ, zS, zZ, zN])
            refine tkp 20 (lk hF35 5 7 8) ?_
            (try simp only [zP, zQ, zS, zZ, zN])
            refine rdy1 21 (fun K hK => ?_)
            refine stp (by with_unfolding_all rfl) (wp_fst hF35 (i := 4) rfl (v := .slice A34 (k + 1) c34) (by with_unfolding_all exact ⟨_, _, rfl, rfl, rfl⟩) (by kernel_rfl) rfl rfl (by rw [vlL_len]; decide) ?_)
            intro w36 hF36 hz36
            (try simp only [zZ, zN] at hF36)
            rw [(vlL_4 (k := 6) (n := 0) (t := ⟨#[]⟩) (a := .slice A32 (k + 1) c32) (b := .slice B1 k d1))] at hF36
            refine hK.out _ _ ((lk hF36 5 7 8)) (fun _ => ?_)
            clear hK K
            (try simp only [zP, zQ, zS, zZ, zN])
            refine wpAnyH_done (by kernel_rfl) ?_ _
            go_wp2_with fail
            go_roundg (nk - (i + 1))
            case rel => exact ⟨i + 1, k + 1, A32, c32, A34, c34, zs ++ ci, by omega, box rfl, by go_num, hc32, hc34, hLl, by omega, hKL2, by rw [hLs.out, nmL_snoc]; exact hF36.tail.tail⟩
            case measure => have := hkk.out; omega
           refine AllReadyH.cons (by simp only [List.getElem?_toArray, List.getElem?_cons_zero, List.getElem?_cons_succ]; rfl) (fun K hK => ?_) ?_
           ·refine stp (by with_unfolding_all rfl) (wp_fbs1 T_rvals hF31 (by with_unfolding_all rfl) (ds := ci) (by with_unfolding_all rfl) hcil.out (by decide) ?_)
            intro w32 g32 hF32 hz32
            refine hK.out _ _ ((lk hF32 5 7 8)) (fun _ => ?_)
            clear hK K
            (try simp only [zP, zQ, zS, zZ, zN])
            refine rdy1 8 (fun K hK => ?_)
            refine stp (by with_unfolding_all rfl) (wp_fappG T_strs hF32 (i := 2) rfl (Nat.le_refl _) (hF32.rdOwn (i := 1) rfl) (strs_one1 _) (by with_unfolding_all exact ⟨_, _, rfl, rfl, rfl⟩) (by unfold maxLen; omega) (by omega) ?_)
            intro v33 w33 hF33 hz33
            (try simp only [zZ, zN] at hF33)
            obtain ⟨A33, c33, rfl, hc33⟩ := hF33.ownParts (i := 2) rfl
            refine hK.out _ _ ((lk hF33 5 7 8)) (fun _ => ?_)
            clear hK K
            (try simp only [zP, zQ, zS, zZ, zN])
            refine tkp 18 (lk hF33 5 7 8) ?_
            (try simp only [zP, zQ, zS, zZ, zN])
            refine rdy1 17 (fun K hK => ?_)
            refine stp (by with_unfolding_all rfl) (wp_fappG T_rvals hF33 (i := 3) rfl (Nat.le_refl _) (hF33.rdOwn (i := 0) rfl) hcio.out (by with_unfolding_all exact ⟨_, _, rfl, rfl, rfl⟩) (by unfold maxLen; omega) (by omega) ?_)
            intro v34 w34 hF34 hz34
            (try simp only [zZ, zN] at hF34)
            obtain ⟨A34, c34, rfl, hc34⟩ := hF34.ownParts (i := 3) rfl
            refine hK.out _ _ ((lk hF34 5 7 8)) (fun _ => ?_)
            clear hK K
            (try simp only [zP, zQ, zS, zZ, zN])
            refine rdy1 19 (fun K hK => ?_)
            refine stp (by with_unfolding_all rfl) (wp_fst hF34 (i := 4) rfl (v := .slice A33 (k + 1) c33) (by with_unfolding_all exact ⟨_, _, rfl, rfl, rfl⟩) (by kernel_rfl) rfl rfl (by rw [vlL_len]; decide) ?_)
            intro w35 hF35 hz35
            (try simp only [zZ, zN] at hF35)
            rw [(vlL_3 (k := 6) (n := 0) (t := ⟨#[]⟩) (a := .slice A1 k c1) (b := .slice B1 k d1))] at hF35
            refine hK.out _ _ ((lk hF35 5 7 8)) (fun _ => ?_)
            clear hK K
            (try simp only [zP, zQ, zS, zZ, zN])
            refine tkp 20 (lk hF35 5 7 8) ?_
            (try simp only [zP, zQ, zS, zZ, zN])
            refine rdy1 21 (fun K hK => ?_)
            refine stp (by with_unfolding_all rfl) (wp_fst hF35 (i := 4) rfl (v := .slice A34 (k + 1) c34) (by with_unfolding_all exact ⟨_, _, rfl, rfl, rfl⟩) (by kernel_rfl) rfl rfl (by rw [vlL_len]; decide) ?_)
            intro w36 hF36 hz36
            (try simp only [zZ, zN] at hF36)
            rw [(vlL_4 (k := 6) (n := 0) (t := ⟨#[]⟩) (a := .slice A33 (k + 1) c33) (b := .slice B1 k d1))] at hF36
            refine hK.out _ _ ((lk hF36 5 7 8)) (fun _ => ?_)
            clear hK K
            (try simp only [zP, zQ, zS, zZ, zN])
            refine wpAnyH_done (by kernel_rfl) ?_ _
            go_wp2_with fail
            go_roundg (nk - (i + 1))
            case rel => exact ⟨i + 1, k + 1, A33, c33, A34, c34, zs ++ ci, by omega, box rfl, by go_num, hc33, hc34, hLl, by omega, hKL2, by rw [hLs.out, nmL_snoc]; exact hF36.tail.tail⟩
            case measure => have := hkk.out; omega
           exact AllReadyH.nil
         refine AllReadyH.cons (by simp only [List.getElem?_toArray, List.getElem?_cons_zero, List.getElem?_cons_succ]; rfl) (fun K hK => ?_) ?_
         ·as_aux_lemma =>
           refine stp (by with_unfolding_all rfl) (wp_fbs1 T_rvals hF31 (by with_unfolding_all rfl) (ds := ci) (by with_unfolding_all rfl) hcil.out (by decide) ?_)
           intro w32 g32 hF32 hz32
           refine hK.out _ _ ((lk hF32 5 7 8)) (fun _ => ?_)
           clear hK K
           (try simp only [zP, zQ, zS, zZ, zN])
           refine rdy1 1 (fun K hK => ?_)
           refine stp (by with_unfolding_all rfl) (wp_fld hF32 (i := 4) rfl uq48 rfl (by with_unfolding_all exact ⟨_, rfl, rfl⟩) rfl ?_)
           refine hK.out _ _ ((lk hF32 5 7 8)) (fun _ => ?_)
           clear hK K
           (try simp only [zP, zQ, zS, zZ, zN])
           refine rdy1 8 (fun K hK => ?_)
           refine stp (by with_unfolding_all rfl) (wp_fappG T_strs hF32 (i := 2) rfl (Nat.le_refl _) (hF32.rdOwn (i := 1) rfl) (strs_one1 _) (by with_unfolding_all exact ⟨_, _, rfl, rfl, rfl⟩) (by unfold maxLen; omega) (by omega) ?_)
           intro v33 w33 hF33 hz33
           (try simp only [zZ, zN] at hF33)
           obtain ⟨A33, c33, rfl, hc33⟩ := hF33.ownParts (i := 2) rfl
           refine hK.out _ _ ((lk hF33 5 7 8)) (fun _ => ?_)
           clear hK K
           (try simp only [zP, zQ, zS, zZ, zN])
           refine tkp 18 (lk hF33 5 7 8) ?_
           (try simp only [zP, zQ, zS, zZ, zN])
           refine rdy1 17 (fun K hK => ?_)
           refine stp (by with_unfolding_all rfl) (wp_fappG T_rvals hF33 (i := 3) rfl (Nat.le_refl _) (hF33.rdOwn (i := 0) rfl) hcio.out (by with_unfolding_all exact ⟨_, _, rfl, rfl, rfl⟩) (by unfold maxLen; omega) (by omega) ?_)
           intro v34 w34 hF34 hz34
           (try simp only [zZ, zN] at hF34)
           obtain ⟨A34, c34, rfl, hc34⟩ := hF34.ownParts (i := 3) rfl
           refine hK.out _ _ ((lk hF34 5 7 8)) (fun _ => ?_)
           clear hK K
           (try simp only [zP, zQ, zS, zZ, zN])
           refine rdy1 19 (fun K hK => ?_)
           refine stp (by with_unfolding_all rfl) (wp_fst hF34 (i := 4) rfl (v := .slice A33 (k + 1) c33) (by with_unfolding_all exact ⟨_, _, rfl, rfl, rfl⟩) (by kernel_rfl) rfl rfl (by rw [vlL_len]; decide) ?_)
           intro w35 hF35 hz35
           (try simp only [zZ, zN] at hF35)
           rw [(vlL_3 (k := 6) (n := 0) (t := ⟨#[]⟩) (a := .slice A1 k c1) (b := .slice B1 k d1))] at hF35
           refine hK.out _ _ ((lk hF35 5 7 8)) (fun _ => ?_)
           clear hK K
           (try simp only [zP, zQ, zS, zZ, zN])
           refine tkp 20 (lk hF35 5 7 8) ?_
           (try simp only [zP, zQ, zS, zZ, zN])
           refine rdy1 21 (fun K hK => ?_)
           refine stp (by with_unfolding_all rfl) (wp_fst hF35 (i := 4) rfl (v := .slice A34 (k + 1) c34) (by with_unfolding_all exact ⟨_, _, rfl, rfl, rfl⟩) (by kernel_rfl) rfl rfl (by rw [vlL_len]; decide) ?_)
           intro w36 hF36 hz36
           (try simp only [zZ, zN] at hF36)
           rw [(vlL_4 (k := 6) (n := 0) (t := ⟨#[]⟩) (a := .slice A33 (k + 1) c33) (b := .slice B1 k d1))] at hF36
           refine hK.out _ _ ((lk hF36 5 7 8)) (fun _ => ?_)
           clear hK K
           (try simp only [zP, zQ, zS, zZ, zN])
           refine wpAnyH_done (by kernel_rfl) ?_ _
           go_wp2_with fail
           go_roundg (nk - (i + 1))
           case rel => exact ⟨i + 1, k + 1, A33, c33, A34, c34, zs ++ ci, by omega, box rfl, by go_num, hc33, hc34, hLl, by omega, hKL2, by rw [hLs.out, nmL_snoc]; exact hF36.tail.tail⟩
           case measure => have := hkk.out; omega
         exact AllReadyH.nil
       refine AllReadyH.cons (by simp only [List.getElem?_toArray, List.getElem?_cons_zero, List.getElem?_cons_succ]; rfl) (fun K hK => ?_) ?_
       ·as_aux_lemma =>
         refine stp (by with_unfolding_all rfl) (wp_fbs1 T_rvals hFd (by with_unfolding_all rfl) (ds := ci) (by with_unfolding_all rfl) hcil.out (by decide) ?_)
         intro w31 g31 hF31 hz31
         refine hK.out _ _ ((lk hF31 4 6 7)) (fun _ => ?_)
         clear hK K
         (try simp only [zP, zQ, zS, zZ, zN])
         refine wpAnyH_ready (rs := [1, 7]) (by kernel_rfl) (by simp) ?_
         refine AllReadyH.cons (by simp only [List.getElem?_toArray, List.getElem?_cons_zero, List.getElem?_cons_succ]; rfl) (fun K hK => ?_) ?_
         ·as_aux_lemma =>
           refine stp (by with_unfolding_all rfl) (wp_fld hF31 (i := 3) rfl uq48 rfl (by with_unfolding_all exact ⟨_, rfl, rfl⟩) rfl ?_)
           refine hK.out _ _ ((lk hF31 4 6 7)) (fun _ => ?_)
           clear hK K
           (try simp only [zP, zQ, zS, zZ, zN])
           refine rdy1 7 (fun K hK => ?_)
           refine stp (by with_unfolding_all rfl) (wp_fbsl T_strs hF31 (vs := [.string ⟨y.1.toArray⟩]) (by with_unfolding_all rfl) (by with_unfolding_all rfl) (by with_unfolding_all rfl) (by decide) (by simp [Value.cells]) ?_)
           intro w32 g32 hF32 hz32
           refine hK.out _ _ ((lk hF32 5 7 8)) (fun _ => ?_)
           clear hK K
           (try simp only [zP, zQ, zS, zZ, zN])
           refine rdy1 8 (fun K hK => ?_)
           refine stp (by with_unfolding_all rfl) (wp_fappG T_strs hF32 (i := 2) rfl (Nat.le_refl _) (hF32.rdOwn (i := 0) rfl) (strs_one1 _) (by with_unfolding_all exact ⟨_, _, rfl, rfl, rfl⟩) (by unfold maxLen; omega) (by omega) ?_)
           intro v33 w33 hF33 hz33
           (try simp only [zZ, zN] at hF33)
           obtain ⟨A33, c33, rfl, hc33⟩ := hF33.ownParts (i := 2) rfl
           refine hK.out _ _ ((lk hF33 5 7 8)) (fun _ => ?_)
           clear hK K
           (try simp only [zP, zQ, zS, zZ, zN])
           refine tkp 18 (lk hF33 5 7 8) ?_
           (try simp only [zP, zQ, zS, zZ, zN])
           refine rdy1 17 (fun K hK => ?_)
           refine stp (by with_unfolding_all rfl) (wp_fappG T_rvals hF33 (i := 3) rfl (Nat.le_refl _) (hF33.rdOwn (i := 1) rfl) hcio.out (by with_unfolding_all exact ⟨_, _, rfl, rfl, rfl⟩) (by unfold maxLen; omega) (by omega) ?_)
           intro v34 w34 hF34 hz34
           (try simp only [zZ, zN] at hF34)
           obtain ⟨A34, c34, rfl, hc34⟩ := hF34.ownParts (i := 3) rfl
           refine hK.out _ _ ((lk hF34 5 7 8)) (fun _ => ?_)
           clear hK K
           (try simp only [zP, zQ, zS, zZ, zN])
           refine rdy1 19 (fun K hK => ?_)
           refine stp (by with_unfolding_all rfl) (wp_fst hF34 (i := 4) rfl (v := .slice A33 (k + 1) c33) (by with_unfolding_all exact ⟨_, _, rfl, rfl, rfl⟩) (by kernel_rfl) rfl rfl (by rw [vlL_len]; decide) ?_)
           intro w35 hF35 hz35
           (try simp only [zZ, zN] at hF35)
           rw [(vlL_3 (k := 6) (n := 0) (t := ⟨#[]⟩) (a := .slice A1 k c1) (b := .slice B1 k d1))] at hF35
           refine hK.out _ _ ((lk hF35 5 7 8)) (fun _ => ?_)
           clear hK K
           (try simp only [zP, zQ, zS, zZ, zN])
           refine tkp 20 (lk hF35 5 7 8) ?_
           (try simp only [zP, zQ, zS, zZ, zN])
           refine rdy1 21 (fun K hK => ?_)
           refine stp (by with_unfolding_all rfl) (wp_fst hF35 (i := 4) rfl (v := .slice A34 (k + 1) c34) (by with_unfolding_all exact ⟨_, _, rfl, rfl, rfl⟩) (by kernel_rfl) rfl rfl (by rw [vlL_len]; decide) ?_)
           intro w36 hF36 hz36
           (try simp only [zZ, zN] at hF36)
           rw [(vlL_4 (k := 6) (n := 0) (t := ⟨#[]⟩) (a := .slice A33 (k + 1) c33) (b := .slice B1 k d1))] at hF36
           refine hK.out _ _ ((lk hF36 5 7 8)) (fun _ => ?_)
           clear hK K
           (try simp only [zP, zQ, zS, zZ, zN])
           refine wpAnyH_done (by kernel_rfl) ?_ _
           go_wp2_with fail
           go_roundg (nk - (i + 1))
           case rel => exact ⟨i + 1, k + 1, A33, c33, A34, c34, zs ++ ci, by omega, box rfl, by go_num, hc33, hc34, hLl, by omega, hKL2, by rw [hLs.out, nmL_snoc]; exact hF36.tail.tail⟩
           case measure => have := hkk.out; omega
         refine AllReadyH.cons (by simp only [List.getElem?_toArray, List.getElem?_cons_zero, List.getElem?_cons_succ]; rfl) (fun K hK => ?_) ?_
         ·as_aux_lemma =>
           refine stp (by with_unfolding_all rfl) (wp_fbsl T_strs hF31 (vs := [.string ⟨y.1.toArray⟩]) (by with_unfolding_all rfl) (by with_unfolding_all rfl) (by with_unfolding_all rfl) (by decide) (by simp [Value.cells]) ?_)
           intro w32 g32 hF32 hz32
           refine hK.out _ _ ((lk hF32 5 7 8)) (fun _ => ?_)
           clear hK K
           (try simp only [zP, zQ, zS, zZ, zN])
           refine rdy1 1 (fun K hK => ?_)
           refine stp (by with_unfolding_all rfl) (wp_fld hF32 (i := 4) rfl uq48 rfl (by with_unfolding_all exact ⟨_, rfl, rfl⟩) rfl ?_)
           refine hK.out _ _ ((lk hF32 5 7 8)) (fun _ => ?_)
           clear hK K
           (try simp only [zP, zQ, zS, zZ, zN])
           refine rdy1 8 (fun K hK => ?_)
           refine stp (by with_unfolding_all rfl) (wp_fappG T_strs hF32 (i := 2) rfl (Nat.le_refl _) (hF32.rdOwn (i := 0) rfl) (strs_one1 _) (by with_unfolding_all exact ⟨_, _, rfl, rfl, rfl⟩) (by unfold maxLen; omega) (by omega) ?_)
           intro v33 w33 hF33 hz33
           (try simp only [zZ, zN] at hF33)
           obtain ⟨A33, c33, rfl, hc33⟩ := hF33.ownParts (i := 2) rfl
           refine hK.out _ _ ((lk hF33 5 7 8)) (fun _ => ?_)
           clear hK K
           (try simp only [zP, zQ, zS, zZ, zN])
           refine tkp 18 (lk hF33 5 7 8) ?_
           (try simp only [zP, zQ, zS, zZ, zN])
           refine rdy1 17 (fun K hK => ?_)
           refine stp (by with_unfolding_all rfl) (wp_fappG T_rvals hF33 (i := 3) rfl (Nat.le_refl _) (hF33.rdOwn (i := 1) rfl) hcio.out (by with_unfolding_all exact ⟨_, _, rfl, rfl, rfl⟩) (by unfold maxLen; omega) (by omega) ?_)
           intro v34 w34 hF34 hz34
           (try simp only [zZ, zN] at hF34)
           obtain ⟨A34, c34, rfl, hc34⟩ := hF34.ownParts (i := 3) rfl
           refine hK.out _ _ ((lk hF34 5 7 8)) (fun _ => ?_)
           clear hK K
           (try simp only [zP, zQ, zS, zZ, zN])
           refine rdy1 19 (fun K hK => ?_)
           refine stp (by with_unfolding_all rfl) (wp_fst hF34 (i := 4) rfl (v := .slice A33 (k + 1) c33) (by with_unfolding_all exact ⟨_, _, rfl, rfl, rfl⟩) (by kernel_rfl) rfl rfl (by rw [vlL_len]; decide) ?_)
           intro w35 hF35 hz35
           (try simp only [zZ, zN] at hF35)
           rw [(vlL_3 (k := 6) (n := 0) (t := ⟨#[]⟩) (a := .slice A1 k c1) (b := .slice B1 k d1))] at hF35
           refine hK.out _ _ ((lk hF35 5 7 8)) (fun _ => ?_)
           clear hK K
           (try simp only [zP, zQ, zS, zZ, zN])
           refine tkp 20 (lk hF35 5 7 8) ?_
           (try simp only [zP, zQ, zS, zZ, zN])
           refine rdy1 21 (fun K hK => ?_)
           refine stp (by with_unfolding_all rfl) (wp_fst hF35 (i := 4) rfl (v := .slice A34 (k + 1) c34) (by with_unfolding_all exact ⟨_, _, rfl, rfl, rfl⟩) (by kernel_rfl) rfl rfl (by rw [vlL_len]; decide) ?_)
           intro w36 hF36 hz36
           (try simp only [zZ, zN] at hF36)
           rw [(vlL_4 (k := 6) (n := 0) (t := ⟨#[]⟩) (a := .slice A33 (k + 1) c33) (b := .slice B1 k d1))] at hF36
           refine hK.out _ _ ((lk hF36 5 7 8)) (fun _ => ?_)
           clear hK K
           (try simp only [zP, zQ, zS, zZ, zN])
           refine wpAnyH_done (by kernel_rfl) ?_ _
           go_wp2_with fail
           go_roundg (nk - (i + 1))
           case rel => exact ⟨i + 1, k + 1, A33, c33, A34, c34, zs ++ ci, by omega, box rfl, by go_num, hc33, hc34, hLl, by omega, hKL2, by rw [hLs.out, nmL_snoc]; exact hF36.tail.tail⟩
           case measure => have := hkk.out; omega
         exact AllReadyH.nil
       exact AllReadyH.nil
     refine AllReadyH.cons (by simp only [List.getElem?_toArray, List.getElem?_cons_zero, List.getElem?_cons_succ]; rfl) (fun K hK => ?_) ?_
     ·as_aux_lemma =>
       refine stp (by with_unfolding_all rfl) (wp_fbs1 T_rvals hFd (by with_unfolding_all rfl) (ds := ci) (by with_unfolding_all rfl) hcil.out (by decide) ?_)
       intro w31 g31 hF31 hz31
       refine hK.out _ _ ((lk hF31 4 6 7)) (fun _ => ?_)
       clear hK K
       (try simp only [zP, zQ, zS, zZ, zN])
       refine wpAnyH_ready (rs := [1, 7, 10]) (by kernel_rfl) (by simp) ?_
       refine AllReadyH.cons (by simp only [List.getElem?_toArray, List.getElem?_cons_zero, List.getElem?_cons_succ]; rfl) (fun K hK => ?_) ?_
       ·as_aux_lemma =>
         refine stp (by with_unfolding_all rfl) (wp_fld hF31 (i := 3) rfl uq48 rfl (by with_unfolding_all exact ⟨_, rfl, rfl⟩) rfl ?_)
         refine hK.out _ _ ((lk hF31 4 6 7)) (fun _ => ?_)
         clear hK K
         (try simp only [zP, zQ, zS, zZ, zN])
         refine wpAnyH_ready (rs := [7, 10]) (by kernel_rfl) (by simp) ?_
         refine AllReadyH.cons (by simp only [List.getElem?_toArray, List.getElem?_cons_zero, List.getElem?_cons_succ]; rfl) (fun K hK => ?_) ?_
         ·as_aux_lemma =>
           refine stp (by with_unfolding_all rfl) (wp_fbsl T_strs hF31 (vs := [.string ⟨y.1.toArray⟩]) (by with_unfolding_all rfl) (by with_unfolding_all rfl) (by with_unfolding_all rfl) (by decide) (by simp [Value.cells]) ?_)
           intro w32 g32 hF32 hz32
           refine hK.out _ _ ((lk hF32 5 7 8)) (fun _ => ?_)
           clear hK K
           (try simp only [zP, zQ, zS, zZ, zN])
           refine wpAnyH_ready (rs := [8, 10]) (by kernel_rfl) (by simp) ?_
           refine AllReadyH.cons (by simp only [List.getElem?_toArray, List.getElem?_cons_zero, List.getElem?_cons_succ]; rfl) (fun K hK => ?_) ?_
           ·refine stp (by with_unfolding_all rfl) (wp_fappG T_strs hF32 (i := 2) rfl (Nat.le_refl _) (hF32.rdOwn (i := 0) rfl) (strs_one1 _) (by with_unfolding_all exact ⟨_, _, rfl, rfl, rfl⟩) (by unfold maxLen; omega) (by omega) ?_)
            intro v33 w33 hF33 hz33
            (try simp only [zZ, zN] at hF33)
            obtain ⟨A33, c33, rfl, hc33⟩ := hF33.ownParts (i := 2) rfl
            refine hK.out _ _ ((lk hF33 5 7 8)) (fun _ => ?_)
            clear hK K
            (try simp only [zP, zQ, zS, zZ, zN])
            refine rdy1 10 (fun K hK => ?_)
            refine stp (by with_unfolding_all rfl) (wp_fld hF33 (i := 4) rfl uq49 rfl (by with_unfolding_all exact ⟨_, rfl, rfl⟩) rfl ?_)
            refine hK.out _ _ ((lk hF33 5 7 8)) (fun _ => ?_)
            clear hK K
            (try simp only [zP, zQ, zS, zZ, zN])
            refine tkp 18 (lk hF33 5 7 8) ?_
            (try simp only [zP, zQ, zS, zZ, zN])
            refine rdy1 17 (fun K hK => ?_)
            refine stp (by with_unfolding_all rfl) (wp_fappG T_rvals hF33 (i := 3) rfl (Nat.le_refl _) (hF33.rdOwn (i := 1) rfl) hcio.out (by with_unfolding_all exact ⟨_, _, rfl, rfl, rfl⟩) (by unfold maxLen; omega) (by omega) ?_)
            intro v34 w34 hF34 hz34
            (try simp only [zZ, zN] at hF34)
            obtain ⟨A34, c34, rfl, hc34⟩ := hF34.ownParts (i := 3) rfl
            refine hK.out _ _ ((lk hF34 5 7 8)) (fun _ => ?_)
            clear hK K
            (try simp only [zP, zQ, zS, zZ, zN])
            refine rdy1 19 (fun K hK => ?_)
            refine stp (by with_unfolding_all rfl) (wp_fst hF34 (i := 4) rfl (v := .slice A33 (k + 1) c33) (by with_unfolding_all exact ⟨_, _, rfl, rfl, rfl⟩) (by kernel_rfl) rfl rfl (by rw [vlL_len]; decide) ?_)
            intro w35 hF35 hz35
            (try simp only [zZ, zN] at hF35)
            rw [(vlL_3 (k := 6) (n := 0) (t := ⟨#[]⟩) (a := .slice A1 k c1) (b := .slice B1 k d1))] at hF35
            refine hK.out _ _ ((lk hF35 5 7 8)) (fun _ => ?_)
            clear hK K
            (try simp only [zP, zQ, zS, zZ, zN])
            refine tkp 20 (lk hF35 5 7 8) ?_
            (try simp only [zP, zQ, zS, zZ, zN])
            refine rdy1 21 (fun K hK => ?_)
            refine stp (by with_unfolding_all rfl) (wp_fst hF35 (i := 4) rfl (v := .slice A34 (k + 1) c34) (by with_unfolding_all exact ⟨_, _, rfl, rfl, rfl⟩) (by kernel_rfl) rfl rfl (by rw [vlL_len]; decide) ?_)
            intro w36 hF36 hz36
            (try simp only [zZ, zN] at hF36)
            rw [(vlL_4 (k := 6) (n := 0) (t := ⟨#[]⟩) (a := .slice A33 (k + 1) c33) (b := .slice B1 k d1))] at hF36
            refine hK.out _ _ ((lk hF36 5 7 8)) (fun _ => ?_)
            clear hK K
            (try simp only [zP, zQ, zS, zZ, zN])
            refine wpAnyH_done (by kernel_rfl) ?_ _
            go_wp2_with fail
            go_roundg (nk - (i + 1))
            case rel => exact ⟨i + 1, k + 1, A33, c33, A34, c34, zs ++ ci, by omega, box rfl, by go_num, hc33, hc34, hLl, by omega, hKL2, by rw [hLs.out, nmL_snoc]; exact hF36.tail.tail⟩
            case measure => have := hkk.out; omega
           refine AllReadyH.cons (by simp only [List.getElem?_toArray, List.getElem?_cons_zero, List.getElem?_cons_succ]; rfl) (fun K hK => ?_) ?_
           ·refine stp (by with_unfolding_all rfl) (wp_fld hF32 (i := 4) rfl uq49 rfl (by with_unfolding_all exact ⟨_, rfl, rfl⟩) rfl ?_)
            refine hK.out _ _ ((lk hF32 5 7 8)) (fun _ => ?_)
            clear hK K
            (try simp only [zP, zQ, zS, zZ, zN])
            refine rdy1 8 (fun K hK => ?_)
            refine stp (by with_unfolding_all rfl) (wp_fappG T_strs hF32 (i := 2) rfl (Nat.le_refl _) (hF32.rdOwn (i := 0) rfl) (strs_one1 _) (by with_unfolding_all exact ⟨_, _, rfl, rfl, rfl⟩) (by unfold maxLen; omega) (by omega) ?_)
            intro v33 w33 hF33 hz33
            (try simp only [zZ, zN] at hF33)
            obtain ⟨A33, c33, rfl, hc33⟩ := hF33.ownParts (i := 2) rfl
            refine hK.out _ _ ((lk hF33 5 7 8)) (fun _ => ?_)
            clear hK K
            (try simp only [zP, zQ, zS, zZ, zN])
            refine tkp 18 (lk hF33 5 7 8) ?_
            (try simp only [zP, zQ, zS, zZ, zN])
            refine rdy1 17 (fun K hK => ?_)
            refine stp (by with_unfolding_all rfl) (wp_fappG T_rvals hF33 (i := 3) rfl (Nat.le_refl _) (hF33.rdOwn (i := 1) rfl) hcio.out (by with_unfolding_all exact ⟨_, _, rfl, rfl, rfl⟩) (by unfold maxLen; omega) (by omega) ?_)
            intro v34 w34 hF34 hz34
            (try simp only [zZ, zN] at hF34)
            obtain ⟨A34, c34, rfl, hc34⟩ := hF34.ownParts (i := 3) rfl
            refine hK.out _ _ ((lk hF34 5 7 8)) (fun _ => ?_)
            clear hK K
            (try simp only [zP, zQ, zS, zZ, zN])
            refine rdy1 19 (fun K hK => ?_)
            refine stp (by with_unfolding_all rfl) (wp_fst hF34 (i := 4) rfl (v := .slice A33 (k + 1) c33) (by with_unfolding_all exact ⟨_, _, rfl, rfl, rfl⟩) (by kernel_rfl) rfl rfl (by rw [vlL_len]; decide) ?_)
            intro w35 hF35 hz35
            (try simp only [zZ, zN] at hF35)
            rw [(vlL_3 (k := 6) (n := 0) (t := ⟨#[]⟩) (a := .slice A1 k c1) (b := .slice B1 k d1))] at hF35
            refine hK.out _ _ ((lk hF35 5 7 8)) (fun _ => ?_)
            clear hK K
            (try simp only [zP, zQ, zS, zZ, zN])
            refine tkp 20 (lk hF35 5 7 8) ?_
            (try simp only [zP, zQ, zS, zZ, zN])
            refine rdy1 21 (fun K hK => ?_)
            refine stp (by with_unfolding_all rfl) (wp_fst hF35 (i := 4) rfl (v := .slice A34 (k + 1) c34) (by with_unfolding_all exact ⟨_, _, rfl, rfl, rfl⟩) (by kernel_rfl) rfl rfl (by rw [vlL_len]; decide) ?_)
            intro w36 hF36 hz36
            (try simp only [zZ, zN] at hF36)
            rw [(vlL_4 (k := 6) (n := 0) (t := ⟨#[]⟩) (a := .slice A33 (k + 1) c33) (b := .slice B1 k d1))] at hF36
            refine hK.out _ _ ((lk hF36 5 7 8)) (fun _ => ?_)
            clear hK K
            (try simp only [zP, zQ, zS, zZ, zN])
            refine wpAnyH_done (by kernel_rfl) ?_ _
            go_wp2_with fail
            go_roundg (nk - (i + 1))
            case rel => exact ⟨i + 1, k + 1, A33, c33, A34, c34, zs ++ ci, by omega, box rfl, by go_num, hc33, hc34, hLl, by omega, hKL2, by rw [hLs.out, nmL_snoc]; exact hF36.tail.tail⟩
            case measure => have := hkk.out; omega
           exact AllReadyH.nil
         refine AllReadyH.cons (by simp only [List.getElem?_toArray, List.getElem?_cons_zero, List.getElem?_cons_succ]; rfl) (fun K hK => ?_) ?_
         ·as_aux_lemma =>
           refine stp (by with_unfolding_all rfl) (wp_fld hF31 (i := 3) rfl uq49 rfl (by with_unfolding_all exact ⟨_, rfl, rfl⟩) rfl ?_)
           refine hK.out _ _ ((lk hF31 4 6 7)) (fun _ => ?_)
           clear hK K
           (try simp only [zP, zQ, zS, zZ, zN])
           refine rdy1 7 (fun K hK => ?_)
           refine stp (by with_unfolding_all rfl) (wp_fbsl T_strs hF31 (vs := [.string ⟨y.1.toArray⟩]) (by with_unfolding_all rfl) (by with_unfolding_all rfl) (by with_unfolding_all rfl) (by decide) (by simp [Value.cells]) ?_)
           intro w32 g32 hF32 hz32
           refine hK.out _ _ ((lk hF32 5 7 8)) (fun _ => ?_)
           clear hK K
           (try simp only [zP, zQ, zS, zZ, zN])
           refine rdy1 8 (fun K hK => ?_)
           refine stp (by with_unfolding_all rfl) (wp_fappG T_strs hF32 (i := 2) rfl (Nat.le_refl _) (hF32.rdOwn (i := 0) rfl) (strs_one1 _) (by with_unfolding_all exact ⟨_, _, rfl, rfl, rfl⟩) (by unfold maxLen; omega) (by omega) ?_)
           intro v33 w33 hF33 hz33
           (try simp only [zZ, zN] at hF33)
           obtain ⟨A33, c33, rfl, hc33⟩ := hF33.ownParts (i := 2) rfl
           refine hK.out _ _ ((lk hF33 5 7 8)) (fun _ => ?_)
           clear hK K
           (try simp only [zP, zQ, zS, zZ, zN])
           refine tkp 18 (lk hF33 5 7 8) ?_
           (try simp only [zP, zQ, zS, zZ, zN])
           refine rdy1 17 (fun K hK => ?_)
           refine stp (by with_unfolding_all rfl) (wp_fappG T_rvals hF33 (i := 3) rfl (Nat.le_refl _) (hF33.rdOwn (i := 1) rfl) hcio.out (by with_unfolding_all exact ⟨_, _, rfl, rfl, rfl⟩) (by unfold maxLen; omega) (by omega) ?_)
           intro v34 w34 hF34 hz34
           (try simp only [zZ, zN] at hF34)
           obtain ⟨A34, c34, rfl, hc34⟩ := hF34.ownParts (i := 3) rfl
           refine hK.out _ _ ((lk hF34 5 7 8)) (fun _ => ?_)
           clear hK K
           (try simp only [zP, zQ, zS, zZ, zN])
           refine rdy1 19 (fun K hK => ?_)
           refine stp (by with_unfolding_all rfl) (wp_fst hF34 (i := 4) rfl (v := .slice A33 (k + 1) c33) (by with_unfolding_all exact ⟨_, _, rfl, rfl, rfl⟩) (by kernel_rfl) rfl rfl (by rw [vlL_len]; decide) ?_)
           intro w35 hF35 hz35
           (try simp only [zZ, zN] at hF35)
           rw [(vlL_3 (k := 6) (n := 0) (t := ⟨#[]⟩) (a := .slice A1 k c1) (b := .slice B1 k d1))] at hF35
           refine hK.out _ _ ((lk hF35 5 7 8)) (fun _ => ?_)
           clear hK K
           (try simp only [zP, zQ, zS, zZ, zN])
           refine tkp 20 (lk hF35 5 7 8) ?_
           (try simp only [zP, zQ, zS, zZ, zN])
           refine rdy1 21 (fun K hK => ?_)
           refine stp (by with_unfolding_all rfl) (wp_fst hF35 (i := 4) rfl (v := .slice A34 (k + 1) c34) (by with_unfolding_all exact ⟨_, _, rfl, rfl, rfl⟩) (by kernel_rfl) rfl rfl (by rw [vlL_len]; decide) ?_)
           intro w36 hF36 hz36
           (try simp only [zZ, zN] at hF36)
           rw [(vlL_4 (k := 6) (n := 0) (t := ⟨#[]⟩) (a := .slice A33 (k + 1) c33) (b := .slice B1 k d1))] at hF36
           refine hK.out _ _ ((lk hF36 5 7 8)) (fun _ => ?_)
           clear hK K
           (try simp only [zP, zQ, zS, zZ, zN])
           refine wpAnyH_done (by kernel_rfl) ?_ _
           go_wp2_with fail
           go_roundg (nk - (i + 1))
           case rel => exact ⟨i + 1, k + 1, A33, c33, A34, c34, zs ++ ci, by omega, box rfl, by go_num, hc33, hc34, hLl, by omega, hKL2, by rw [hLs.out, nmL_snoc]; exact hF36.tail.tail⟩
           case measure => have := hkk.out; omega
         exact AllReadyH.nil
       refine AllReadyH.cons (by simp only [List.getElem?_toArray, List.getElem?_cons_zero, List.getElem?_cons_succ]; rfl) (fun K hK => ?_) ?_
       ·as_aux_lemma =>
         refine stp (by with_unfolding_all rfl) (wp_fbsl T_strs hF31 (vs := [.string ⟨y.1.toArray⟩]) (by with_unfolding_all rfl) (by with_unfolding_all rfl) (by with_unfolding_all rfl) (by decide) (by simp [Value.cells]) ?_)
         intro w32 g32 hF32 hz32
         refine hK.out _ _ ((lk hF32 5 7 8)) (fun _ => ?_)
         clear hK K
         (try simp only [zP, zQ, zS, zZ, zN])
         refine wpAnyH_ready (rs := [1, 10]) (by kernel_rfl) (by simp) ?_
         refine AllReadyH.cons (by simp only [List.getElem?_toArray, List.getElem?_cons_zero, List.getElem?_cons_succ]; rfl) (fun K hK => ?_) ?_
         ·as_aux_lemma =>
           refine stp (by with_unfolding_all rfl) (wp_fld hF32 (i := 4) rfl uq48 rfl (by with_unfolding_all exact ⟨_, rfl, rfl⟩) rfl ?_)
           refine hK.out _ _ ((lk hF32 5 7 8)) (fun _ => ?_)
           clear hK K
           (try simp only [zP, zQ, zS, zZ, zN])
           refine wpAnyH_ready (rs := [8, 10]) (by kernel_rfl) (by simp) ?_
           refine AllReadyH.cons (by simp only [List.getElem?_toArray, List.getElem?_cons_zero, List.getElem?_cons_succ]; rfl) (fun K hK => ?_) ?_
           ·refine stp (by with_unfolding_all rfl) (wp_fappG T_strs hF32 (i := 2) rfl (Nat.le_refl _) (hF32.rdOwn (i := 0) rfl) (strs_one1 _) (by with_unfolding_all exact ⟨_, _, rfl, rfl, rfl⟩) (by unfold maxLen; omega) (by omega) ?_)
            intro v33 w33 hF33 hz33
            (try simp only [zZ, zN] at hF33)
            obtain ⟨A33, c33, rfl, hc33⟩ := hF33.ownParts (i := 2) rfl
            refine hK.out _ _ ((lk hF33 5 7 8)) (fun _ => ?_)
            clear hK K
            (try simp only [zP, zQ, zS, zZ, zN])
            refine rdy1 10 (fun K hK => ?_)
            refine stp (by with_unfolding_all rfl) (wp_fld hF33 (i := 4) rfl uq49 rfl (by with_unfolding_all exact ⟨_, rfl, rfl⟩) rfl ?_)
            refine hK.out _ _ ((lk hF33 5 7 8)) (fun _ => ?_)
            clear hK K
            (try simp only [zP, zQ, zS, zZ, zN])
            refine tkp 18 (lk hF33 5 7 8) ?_
            (try simp only [zP, zQ, zS, zZ, zN])
            refine rdy1 17 (fun K hK => ?_)
            refine stp (by with_unfolding_all rfl) (wp_fappG T_rvals hF33 (i := 3) rfl (Nat.le_refl _) (hF33.rdOwn (i := 1) rfl) hcio.out (by with_unfolding_all exact ⟨_, _, rfl, rfl, rfl⟩) (by unfold maxLen; omega) (by omega) ?_)
            intro v34 w34 hF34 hz34
            (try simp only [zZ, zN] at hF34)
            obtain ⟨A34, c34, rfl, hc34⟩ := hF34.ownParts (i := 3) rfl
            refine hK.out _ _ ((lk hF34 5 7 8)) (fun _ => ?_)
            clear hK K
            (try simp only [zP, zQ, zS, zZ, zN])
            refine rdy1 19 (fun K hK => ?_)
            refine stp (by with_unfolding_all rfl) (wp_fst hF34 (i := 4) rfl (v := .slice A33 (k + 1) c33) (by with_unfolding_all exact ⟨_, _, rfl, rfl, rfl⟩) (by kernel_rfl) rfl rfl (by rw [vlL_len]; decide) ?_)
            intro w35 hF35 hz35
            (try simp only [zZ, zN] at hF35)
            rw [(vlL_3 (k := 6) (n := 0) (t := ⟨#[]⟩) (a := .slice A1 k c1) (b := .slice B1 k d1))] at hF35
            refine hK.out _ _ ((lk hF35 5 7 8)) (fun _ => ?_)
            clear hK K
            (try simp only [zP, zQ, zS, zZ, zN])
            refine tkp 20 (lk hF35 5 7 8) ?_
            (try simp only [zP, zQ, zS, zZ, zN])
            refine rdy1 21 (fun K hK => ?_)
            refine stp (by with_unfolding_all rfl) (wp_fst hF35 (i := 4) rfl (v := .slice A34 (k + 1) c34) (by with_unfolding_all exact ⟨_, _, rfl, rfl, rfl⟩) (by kernel_rfl) rfl rfl (by rw [vlL_len]; decide) ?_)
            intro w36 hF36 hz36
            (try simp only [zZ, zN] at hF36)
            rw [(vlL_4 (k := 6) (n := 0) (t := ⟨#[]⟩) (a := .slice A33 (k + 1) c33) (b := .slice B1 k d1))] at hF36
            refine hK.out _ _ ((lk hF36 5 7 8)) (fun _ => ?_)
            clear hK K
            (try simp only [zP, zQ, zS, zZ, zN])
            refine wpAnyH_done (by kernel_rfl) ?_ _
            go_wp2_with fail
            go_roundg (nk - (i + 1))
            case rel => exact ⟨i + 1, k + 1, A33, c33, A34, c34, zs ++ ci, by omega, box rfl, by go_num, hc33, hc34, hLl, by omega, hKL2, by rw [hLs.out, nmL_snoc]; exact hF36.tail.tail⟩
            case measure => have := hkk.out; omega
           refine AllReadyH.cons (by simp only [List.getElem?_toArray, List.getElem?_cons_zero, List.getElem?_cons_succ]; rfl) (fun K hK => ?_) ?_
           ·refine stp (by with_unfolding_all rfl) (wp_fld hF32 (i := 4) rfl uq49 rfl (by with_unfolding_all exact ⟨_, rfl, rfl⟩) rfl ?_)
            refine hK.out _ _ ((lk hF32 5 7 8)) (fun _ => ?_)
            clear hK K
            (try simp only [zP, zQ, zS, zZ, zN])
            refine rdy1 8 (fun K hK => ?_)
            refine stp (by with_unfolding_all rfl) (wp_fappG T_strs hF32 (i := 2) rfl (Nat.le_refl _) (hF32.rdOwn (i := 0) rfl) (strs_one1 _) (by with_unfolding_all exact ⟨_, _, rfl, rfl, rfl⟩) (by unfold maxLen; omega) (by omega) ?_)
            intro v33 w33 hF33 hz33
            (try simp only [zZ, zN] at hF33)
            obtain ⟨A33, c33, rfl, hc33⟩ := hF33.ownParts (i := 2) rfl
            refine hK.out _ _ ((lk hF33 5 7 8)) (fun _ => ?_)
            clear hK K
            (try simp only [zP, zQ, zS, zZ, zN])
            refine tkp 18 (lk hF33 5 7 8) ?_
            (try simp only [zP, zQ, zS, zZ, zN])
            refine rdy1 17 (fun K hK => ?_)
            refine stp (by with_unfolding_all rfl) (wp_fappG T_rvals hF33 (i := 3) rfl (Nat.le_refl _) (hF33.rdOwn (i := 1) rfl) hcio.out (by with_unfolding_all exact ⟨_, _, rfl, rfl, rfl⟩) (by unfold maxLen; omega) (by omega) ?_)
            intro v34 w34 hF34 hz34
            (try simp only [zZ, zN] at hF34)
            obtain ⟨A34, c34, rfl, hc34⟩ := hF34.ownParts (i := 3) rfl
            refine hK.out _ _ ((lk hF34 5 7 8)) (fun _ => ?_)
            clear hK K
            (try simp only [zP, zQ, zS, zZ, zN])
            refine rdy1 19 (fun K hK => ?_)
            refine stp (by with_unfolding_all rfl) (wp_fst hF34 (i := 4) rfl (v := .slice A33 (k + 1) c33) (by with_unfolding_all exact ⟨_, _, rfl, rfl, rfl⟩) (by kernel_rfl) rfl rfl (by rw [vlL_len]; decide) ?_)
            intro w35 hF35 hz35
            (try simp only [zZ, zN] at hF35)
            rw [(vlL_3 (k := 6) (n := 0) (t := ⟨#[]⟩) (a := .slice A1 k c1) (b := .slice B1 k d1))] at hF35
            refine hK.out _ _ ((lk hF35 5 7 8)) (fun _ => ?_)
            clear hK K
            (try simp only [zP, zQ, zS, zZ, zN])
            refine tkp 20 (lk hF35 5 7 8) ?_
            (try simp only [zP, zQ, zS, zZ, zN])
            refine rdy1 21 (fun K hK => ?_)
            refine stp (by with_unfolding_all rfl) (wp_fst hF35 (i := 4) rfl (v := .slice A34 (k + 1) c34) (by with_unfolding_all exact ⟨_, _, rfl, rfl, rfl⟩) (by kernel_rfl) rfl rfl (by rw [vlL_len]; decide) ?_)
            intro w36 hF36 hz36
            (try simp only [zZ, zN] at hF36)
            rw [(vlL_4 (k := 6) (n := 0) (t := ⟨#[]⟩) (a := .slice A33 (k + 1) c33) (b := .slice B1 k d1))] at hF36
            refine hK.out _ _ ((lk hF36 5 7 8)) (fun _ => ?_)
            clear hK K
            (try simp only [zP, zQ, zS, zZ, zN])
            refine wpAnyH_done (by kernel_rfl) ?_ _
            go_wp2_with fail
            go_roundg (nk - (i + 1))
            case rel => exact ⟨i + 1, k + 1, A33, c33, A34, c34, zs ++ ci, by omega, box rfl, by go_num, hc33, hc34, hLl, by omega, hKL2, by rw [hLs.out, nmL_snoc]; exact hF36.tail.tail⟩
            case measure => have := hkk.out; omega
           exact AllReadyH.nil
         refine AllReadyH.cons (by simp only [List.getElem?_toArray, List.getElem?_cons_zero, List.getElem?_cons_succ]; rfl) (fun K hK => ?_) ?_
         ·as_aux_lemma =>
           refine stp (by with_unfolding_all rfl) (wp_fld hF32 (i := 4) rfl uq49 rfl (by with_unfolding_all exact ⟨_, rfl, rfl⟩) rfl ?_)
           refine hK.out _ _ ((lk hF32 5 7 8)) (fun _ => ?_)
           clear hK K
           (try simp only [zP, zQ, zS, zZ, zN])
           refine rdy1 1 (fun K hK => ?_)
           refine stp (by with_unfolding_all rfl) (wp_fld hF32 (i := 4) rfl uq48 rfl (by with_unfolding_all exact ⟨_, rfl, rfl⟩) rfl ?_)
           refine hK.out _ _ ((lk hF32 5 7 8)) (fun _ => ?_)
           clear hK K
           (try simp only [zP, zQ, zS, zZ, zN])
           refine rdy1 8 (fun K hK => ?_)
           refine stp (by with_unfolding_all rfl) (wp_fappG T_strs hF32 (i := 2) rfl (Nat.le_refl _) (hF32.rdOwn (i := 0) rfl) (strs_one1 _) (by with_unfolding_all exact ⟨_, _, rfl, rfl, rfl⟩) (by unfold maxLen; omega) (by omega) ?_)
           intro v33 w33 hF33 hz33
           (try simp only [zZ, zN] at hF33)
           obtain ⟨A33, c33, rfl, hc33⟩ := hF33.ownParts (i := 2) rfl
           refine hK.out _ _ ((lk hF33 5 7 8)) (fun _ => ?_)
           clear hK K
           (try simp only [zP, zQ, zS, zZ, zN])
           refine tkp 18 (lk hF33 5 7 8) ?_
           (try simp only [zP, zQ, zS, zZ, zN])
           refine rdy1 17 (fun K hK => ?_)
           refine stp (by with_unfolding_all rfl) (wp_fappG T_rvals hF33 (i := 3) rfl (Nat.le_refl _) (hF33.rdOwn (i := 1) rfl) hcio.out (by with_unfolding_all exact ⟨_, _, rfl, rfl, rfl⟩) (by unfold maxLen; omega) (by omega) ?_)
           intro v34 w34 hF34 hz34
           (try simp only [zZ, zN] at hF34)
           obtain ⟨A34, c34, rfl, hc34⟩ := hF34.ownParts (i := 3) rfl
           refine hK.out _ _ ((lk hF34 5 7 8)) (fun _ => ?_)
           clear hK K
           (try simp only [zP, zQ, zS, zZ, zN])
           refine rdy1 19 (fun K hK => ?_)
           refine stp (by with_unfolding_all rfl) (wp_fst hF34 (i := 4) rfl (v := .slice A33 (k + 1) c33) (by with_unfolding_all exact ⟨_, _, rfl, rfl, rfl⟩) (by kernel_rfl) rfl rfl (by rw [vlL_len]; decide) ?_)
           intro w35 hF35 hz35
           (try simp only [zZ, zN] at hF35)
           rw [(vlL_3 (k := 6) (n := 0) (t := ⟨#[]⟩) (a := .slice A1 k c1) (b := .slice B1 k d1))] at hF35
           refine hK.out _ _ ((lk hF35 5 7 8)) (fun _ => ?_)
           clear hK K
           (try simp only [zP, zQ, zS, zZ, zN])
           refine tkp 20 (lk hF35 5 7 8) ?_
           (try simp only [zP, zQ, zS, zZ, zN])
           refine rdy1 21 (fun K hK => ?_)
           refine stp (by with_unfolding_all rfl) (wp_fst hF35 (i := 4) rfl (v := .slice A34 (k + 1) c34) (by with_unfolding_all exact ⟨_, _, rfl, rfl, rfl⟩) (by kernel_rfl) rfl rfl (by rw [vlL_len]; decide) ?_)
           intro w36 hF36 hz36
           (try simp only [zZ, zN] at hF36)
           rw [(vlL_4 (k := 6) (n := 0) (t := ⟨#[]⟩) (a := .slice A33 (k + 1) c33) (b := .slice B1 k d1))] at hF36
           refine hK.out _ _ ((lk hF36 5 7 8)) (fun _ => ?_)
           clear hK K
           (try simp only [zP, zQ, zS, zZ, zN])
           refine wpAnyH_done (by kernel_rfl) ?_ _
           go_wp2_with fail
           go_roundg (nk - (i + 1))
           case rel => exact ⟨i + 1, k + 1, A33, c33, A34, c34, zs ++ ci, by omega, box rfl, by go_num, hc33, hc34, hLl, by omega, hKL2, by rw [hLs.out, nmL_snoc]; exact hF36.tail.tail⟩
           case measure => have := hkk.out; omega
         exact AllReadyH.nil
       refine AllReadyH.cons (by simp only [List.getElem?_toArray, List.getElem?_cons_zero, List.getElem?_cons_succ]; rfl) (fun K hK => ?_) ?_
       ·as_aux_lemma =>
         refine stp (by with_unfolding_all rfl) (wp_fld hF31 (i := 3) rfl uq49 rfl (by with_unfolding_all exact ⟨_, rfl, rfl⟩) rfl ?_)
         refine hK.out _ _ ((lk hF31 4 6 7)) (fun _ => ?_)
         clear hK K
         (try simp only [zP, zQ, zS, zZ, zN])
         refine wpAnyH_ready (rs := [1, 7]) (by kernel_rfl) (by simp) ?_
         refine AllReadyH.cons (by simp only [List.getElem?_toArray, List.getElem?_cons_zero, List.getElem?_cons_succ]; rfl) (fun K hK => ?_) ?_
         ·as_aux_lemma =>
           refine stp (by with_unfolding_all rfl) (wp_fld hF31 (i := 3) rfl uq48 rfl (by with_unfolding_all exact ⟨_, rfl, rfl⟩) rfl ?_)
           refine hK.out _ _ ((lk hF31 4 6 7)) (fun _ => ?_)
           clear hK K
           (try simp only [zP, zQ, zS, zZ, zN])
           refine rdy1 7 (fun K hK => ?_)
           refine stp (by with_unfolding_all rfl) (wp_fbsl T_strs hF31 (vs := [.string ⟨y.1.toArray⟩]) (by with_unfolding_all rfl) (by with_unfolding_all rfl) (by with_unfolding_all rfl) (by decide) (by simp [Value.cells]) ?_)
           intro w32 g32 hF32 hz32
           refine hK.out _ _ ((lk hF32 5 7 8)) (fun _ => ?_)
           clear hK K
           (try simp only [zP, zQ, zS, zZ, zN])
           refine rdy1 8 (fun K hK => ?_)
           refine stp (by with_unfolding_all rfl) (wp_fappG T_strs hF32 (i := 2) rfl (Nat.le_refl _) (hF32.rdOwn (i := 0) rfl) (strs_one1 _) (by with_unfolding_all exact ⟨_, _, rfl, rfl, rfl⟩) (by unfold maxLen; omega) (by omega) ?_)
           intro v33 w33 hF33 hz33
           (try simp only [zZ, zN] at hF33)
           obtain ⟨A33, c33, rfl, hc33⟩ := hF33.ownParts (i := 2) rfl
           refine hK.out _ _ ((lk hF33 5 7 8)) (fun _ => ?_)
           clear hK K
           (try simp only [zP, zQ, zS, zZ, zN])
           refine tkp 18 (lk hF33 5 7 8) ?_
           (try simp only [zP, zQ, zS, zZ, zN])
           refine rdy1 17 (fun K hK => ?_)
           refine stp (by with_unfolding_all rfl) (wp_fappG T_rvals hF33 (i := 3) rfl (Nat.le_refl _) (hF33.rdOwn (i := 1) rfl) hcio.out (by with_unfolding_all exact ⟨_, _, rfl, rfl, rfl⟩) (by unfold maxLen; omega) (by omega) ?_)
           intro v34 w34 hF34 hz34
           (try simp only [zZ, zN] at hF34)
           obtain ⟨A34, c34, rfl, hc34⟩ := hF34.ownParts (i := 3) rfl
           refine hK.out _ _ ((lk hF34 5 7 8)) (fun _ => ?_)
           clear hK K
           (try simp only [zP, zQ, zS, zZ, zN])
           refine rdy1 19 (fun K hK => ?_)
           refine stp (by with_unfolding_all rfl) (wp_fst hF34 (i := 4) rfl (v := .slice A33 (k + 1) c33) (by with_unfolding_all exact ⟨_, _, rfl, rfl, rfl⟩) (by kernel_rfl) rfl rfl (by rw [vlL_len]; decide) ?_)
           intro w35 hF35 hz35
           (try simp only [zZ, zN] at hF35)
           rw [(vlL_3 (k := 6) (n := 0) (t := ⟨#[]⟩) (a := .slice A1 k c1) (b := .slice B1 k d1))] at hF35
           refine hK.out _ _ ((lk hF35 5 7 8)) (fun _ => ?_)
           clear hK K
           (try simp only [zP, zQ, zS, zZ, zN])
           refine tkp 20 (lk hF35 5 7 8) ?_
           (try simp only [zP, zQ, zS, zZ, zN])
           refine rdy1 21 (fun K hK => ?_)
           refine stp (by with_unfolding_all rfl) (wp_fst hF35 (i := 4) rfl (v := .slice A34 (k + 1) c34) (by with_unfolding_all exact ⟨_, _, rfl, rfl, rfl⟩) (by kernel_rfl) rfl rfl (by rw [vlL_len]; decide) ?_)
           intro w36 hF36 hz36
           (try simp only [zZ, zN] at hF36)
           rw [(vlL_4 (k := 6) (n := 0) (t := ⟨#[]⟩) (a := .slice A33 (k + 1) c33) (b := .slice B1 k d1))] at hF36
           refine hK.out _ _ ((lk hF36 5 7 8)) (fun _ => ?_)
           clear hK K
           (try simp only [zP, zQ, zS, zZ, zN])
           refine wpAnyH_done (by kernel_rfl) ?_ _
           go_wp2_with fail
           go_roundg (nk - (i + 1))
           case rel => exact ⟨i + 1, k + 1, A33, c33, A34, c34, zs ++ ci, by omega, box rfl, by go_num, hc33, hc34, hLl, by omega, hKL2, by rw [hLs.out, nmL_snoc]; exact hF36.tail.tail⟩
           case measure => have := hkk.out; omega
         refine AllReadyH.cons (by simp only [List.getElem?_toArray, List.getElem?_cons_zero, List.getElem?_cons_succ]; rfl) (fun K hK => ?_) ?_
         ·as_aux_lemma =>
           refine stp (by with_unfolding_all rfl) (wp_fbsl T_strs hF31 (vs := [.string ⟨y.1.toArray⟩]) (by with_unfolding_all rfl) (by with_unfolding_all rfl) (by with_unfolding_all rfl) (by decide) (by simp [Value.cells]) ?_)
           intro w32 g32 hF32 hz32
           refine hK.out _ _ ((lk hF32 5 7 8)) (fun _ => ?_)
           clear hK K
           (try simp only [zP, zQ, zS, zZ, zN])
           refine rdy1 1 (fun K hK => ?_)
           refine stp (by with_unfolding_all rfl) (wp_fld hF32 (i := 4) rfl uq48 rfl (by with_unfolding_all exact ⟨_, rfl, rfl⟩) rfl ?_)
           refine hK.out _ _ ((lk hF32 5 7 8)) (fun _ => ?_)
           clear hK K
           (try simp only [zP, zQ, zS, zZ, zN])
           refine rdy1 8 (fun K hK => ?_)
           refine stp (by with_unfolding_all rfl) (wp_fappG T_strs hF32 (i := 2) rfl (Nat.le_refl _) (hF32.rdOwn (i := 0) rfl) (strs_one1 _) (by with_unfolding_all exact ⟨_, _, rfl, rfl, rfl⟩) (by unfold maxLen; omega) (by omega) ?_)
           intro v33 w33 hF33 hz33
           (try simp only [zZ, zN] at hF33)
           obtain ⟨A33, c33, rfl, hc33⟩ := hF33.ownParts (i := 2) rfl
           refine hK.out _ _ ((lk hF33 5 7 8)) (fun _ => ?_)
           clear hK K
           (try simp only [zP, zQ, zS, zZ, zN])
           refine tkp 18 (lk hF33 5 7 8) ?_
           (try simp only [zP, zQ, zS, zZ, zN])
           refine rdy1 17 (fun K hK => ?_)
           refine stp (by with_unfolding_all rfl) (wp_fappG T_rvals hF33 (i := 3) rfl (Nat.le_refl _) (hF33.rdOwn (i := 1) rfl) hcio.out (by with_unfolding_all exact ⟨_, _, rfl, rfl, rfl⟩) (by unfold maxLen; omega) (by omega) ?_)
           intro v34 w34 hF34 hz34
           (try simp only [zZ, zN] at hF34)
           obtain ⟨A34, c34, rfl, hc34⟩ := hF34.ownParts (i := 3) rfl
           refine hK.out _ _ ((lk hF34 5 7 8)) (fun _ => ?_)
           clear hK K
           (try simp only [zP, zQ, zS, zZ, zN])
           refine rdy1 19 (fun K hK => ?_)
           refine stp (by with_unfolding_all rfl) (wp_fst hF34 (i := 4) rfl (v := .slice A33 (k + 1) c33) (by with_unfolding_all exact ⟨_, _, rfl, rfl, rfl⟩) (by kernel_rfl) rfl rfl (by rw [vlL_len]; decide) ?_)
           intro w35 hF35 hz35
           (try simp only [zZ, zN] at hF35)
           rw [(vlL_3 (k := 6) (n := 0) (t := ⟨#[]⟩) (a := .slice A1 k c1) (b := .slice B1 k d1))] at hF35
           refine hK.out _ _ ((lk hF35 5 7 8)) (fun _ => ?_)
           clear hK K
           (try simp only [zP, zQ, zS, zZ, zN])
           refine tkp 20 (lk hF35 5 7 8) ?_
           (try simp only [zP, zQ, zS, zZ, zN])
           refine rdy1 21 (fun K hK => ?_)
           refine stp (by with_unfolding_all rfl) (wp_fst hF35 (i := 4) rfl (v := .slice A34 (k + 1) c34) (by with_unfolding_all exact ⟨_, _, rfl, rfl, rfl⟩) (by kernel_rfl) rfl rfl (by rw [vlL_len]; decide) ?_)
           intro w36 hF36 hz36
           (try simp only [zZ, zN] at hF36)
           rw [(vlL_4 (k := 6) (n := 0) (t := ⟨#[]⟩) (a := .slice A33 (k + 1) c33) (b := .slice B1 k d1))] at hF36
           refine hK.out _ _ ((lk hF36 5 7 8)) (fun _ => ?_)
           clear hK K
           (try simp only [zP, zQ, zS, zZ, zN])
           refine wpAnyH_done (by kernel_rfl) ?_ _
           go_wp2_with fail
           go_roundg (nk - (i + 1))
           case rel => exact ⟨i + 1, k + 1, A33, c33, A34, c34, zs ++ ci, by omega, box rfl, by go_num, hc33, hc34, hLl, by omega, hKL2, by rw [hLs.out, nmL_snoc]; exact hF36.tail.tail⟩
           case measure => have := hkk.out; omega
         exact AllReadyH.nil
       exact AllReadyH.nil
     exact AllReadyH.nil
   ·obtain rfl : nk = i := by omega
    have hW := hwL2.out
    have hvr : Box (VRd wr (· < wr.heap.size) (jO (lessL M a nk)) (vlL 6 0 ⟨#[]⟩ (.slice A1 k c1) (.slice B1 k d1))) := box (by
     unfold jO VRd
     exact ⟨A1, k, c1, B1, k, d1, zs, hkc, hkd, rfl, hF.rdOwn (i := 0) rfl, hF.rdOwn (i := 1) rfl, hKL.out.rdL hF (by intro e he; simp [he])⟩)
    have hwr := box (rwrite_any (jO (lessL M a nk)) _ wr hvr.out hW.sm hW.tx hW.tot hW.fl)
    obtain ⟨⟨l, f⟩, hR⟩ : ∃ R, R = jWrite (jO (lessL M a nk)) := ⟨_, rfl⟩
    rw [← hR] at hwr
    simp only [] at hwr
    have hln : l.length ≤ 65536 := jWrite_lenL hR.symm
    obtain ⟨P, hP'⟩ : ∃ P, P = mParse l := ⟨_, rfl⟩
    obtain ⟨pc, hpc'⟩ : ∃ pc, pc = mCode P := ⟨_, rfl⟩
    have hpc0 : f = 0 → pc = if tm = true then 0 else 80 := fun h => by
     subst h
     rw [hpc', hP']
     exact hml2.out l hR.symm
    replace hR := box hR
    have hpp := box (hps.out l)
    rw [← hP'] at hpp
    replace hP' := box hP'
    have hpcb := box hpc'
    replace hpc0 := box hpc0
    clear hW hvr hml2 hwL2 hkl hKL hkk hpc'
    go_wp2_with (first | (with_reducible refine lsx (wp_fldA2 hF uq51 rfl (by with_unfolding_all exact ⟨_, rfl, rfl⟩) (ds := (vlL 6 0 ⟨#[]⟩ (.slice A1 k c1) (.slice B1 k d1))) (by rw [vlL_len]; kernel_rfl) (take_all _) ?_)))
    refine hwr.out.mono ?_
    rintro e w7 ⟨rfl, hb7⟩
    have hF7 := hF.call hb7
    clear hwr hF
    go_wp2_with (first | ((with_reducible refine lsx (wp_fs2b T_u8 uq5 uq9 hF7 (by with_unfolding_all exact ⟨_, rfl, rfl⟩) ?_)); intro w8 g8 c8 hF8 hz8 hc8))
    (try rw [str_mk_size] at hc8)
    (try rw [str_mk_size] at hF8)
    refine (hpp.out (some ⟨g8, 0, none⟩) l.length c8 w8 hF8.below hc8 (by omega) (hF8.rd (i := 0) rfl)).mono ?_
    rintro e w9 ⟨cs5, es5, rfl, hD5', h9⟩
    rw [← hpcb.out]
    have hF9 := hF8.joinR h9
    simp only [List.cons_append] at hF9
    have hvl5 := box hD5'.len
    have hvo5 := box hD5'.ones
    clear hpp h9 hF8 hF7 hD5'
    go_upto_region 15 with (first | ((with_reducible refine lsx (wp_falloc hF9 (cs := doc0) (z := .agg (List.toArray (doc0))) rfl (by kernel_rfl) (by with_unfolding_all rfl) ?_)); intro w13 g13 hF13 hz13) | ((with_reducible refine lsx (wp_fstA0 hF13 (by with_unfolding_all exact ⟨_, _, rfl, rfl, rfl⟩) (by rw [hvl5.out]; kernel_rfl) hvo5.out (by rw [hvl5.out]; decide) (spl_all (by rw [hvl5.out, doc0_len])) ?_)); intro w14 hF14 hz14))
    have hB14 : Fr [] w w14 (.blk g5 51 (vlL 6 0 ⟨#[]⟩ (.slice A nk c) (.slice B nk d)) :: .blk g1 40 cs :: .own b0 9 1 (.slice A nk c) nk (nmL M) :: .own b0 51 5 (.slice B nk d) nk ys :: TE) := hF14.sub ((((((((List.sublist_append_left _ _).cons_cons _).cons_cons _).cons_cons _).cons_cons _).cons _).cons _).cons _ |>.cons _ |>.cons _)
    clear hF9 hF13
    go_cut [15] (fun s15 wx => s15 = .bool tm ∧ Fr [] w wx (.blk g5 51 (vlL 6 0 ⟨#[]⟩ (.slice A nk c) (.slice B nk d)) :: .blk g1 40 cs :: .own b0 9 1 (.slice A nk c) nk (nmL M) :: .own b0 51 5 (.slice B nk d) nk ys :: TE))
    case first =>
     cases q0 : (gn == kType) with
     | true =>
      have p0 : (gn == [97, 114, 116, 105, 102, 97, 99, 116, 84, 121, 112, 101]) = true := q0
      have ht : tm = true := by rw [htm.out]; unfold tMay; rw [q0]; rfl
      replace ht := box ht
      clear q0
      go_wp2_with fail
      go_meet
      exact ⟨by rw [ht.out], hB14⟩
     | false =>
      have p0 : (gn == [97, 114, 116, 105, 102, 97, 99, 116, 84, 121, 112, 101]) = false := q0
      cases q1 : (gn == kSubject) with
      | true =>
       have p1 : (gn == [115, 117, 98, 106, 101, 99, 116]) = true := q1
       have ht : tm = true := by rw [htm.out]; unfold tMay; rw [q0, q1]; rfl
       replace ht := box ht
       clear q0 q1
       go_wp2_with fail
       go_meet
       exact ⟨by rw [ht.out], hB14⟩
      | false =>
       have p1 : (gn == [115, 117, 98, 106, 101, 99, 116]) = false := q1
       cases q2 : (gn == kNotes) with
       | true =>
        have p2 : (gn == [97, 110, 110, 111, 116, 97, 116, 105, 111, 110, 115]) = true := q2
        have ht : tm = true := by rw [htm.out]; unfold tMay; rw [q0, q1, q2]; rfl
        replace ht := box ht
        clear q0 q1 q2
        go_wp2_with fail
        go_meet
        exact ⟨by rw [ht.out], hB14⟩
       | false =>
        have p2 : (gn == [97, 110, 110, 111, 116, 97, 116, 105, 111, 110, 115]) = false := q2
        have ht : tm = false := by rw [htm.out]; unfold tMay; rw [q0, q1, q2]; rfl
        replace ht := box ht
        clear q0 q1 q2
        go_wp2_with fail
        go_meet
        exact ⟨by rw [ht.out], hB14⟩
    case rest =>
     obtain ⟨rfl, hF⟩ := hcut
     clear hF14 hB14
     go_step
     go_step
     (try simp only [zP, zQ, zS, zZ, zN])
     go_cut [] (fun wx => Fr [] w wx (.blk g5 51 (vlL 6 0 ⟨#[]⟩ (.slice A nk c) (.slice B nk d)) :: .blk g1 40 cs :: .own b0 9 1 (.slice A nk c) nk (nmL M) :: .own b0 51 5 (.slice B nk d) nk ys :: TE))
     case first =>
      by_cases hf : f = 0
      ·subst hf
       have hpc1 := hpc0.out rfl
       cases tm with
       | true =>
        rw [if_pos rfl] at hpc1
        subst hpc1
        go_wp2_with fail
        go_meet
        exact hF
       | false =>
        rw [if_neg (by decide)] at hpc1
        subst hpc1
        go_wp2_with fail
        go_meet
        exact hF
      ·have hf0 : ((f : Int) == 0) = false := by rw [beq_eq_false_iff_ne]; omega
       replace hf := box hf
       go_wp2_with fail
       go_meet
       exact hF
     case rest =>
      clear hF
      go_wp2_with (first | ((with_reducible refine lsx (wp_fbsl T_strs hcut (vs := [.string ⟨[115, 99, 104, 101, 109, 97, 86, 101, 114, 115, 105, 111, 110].toArray⟩, .string ⟨[109, 101, 100, 105, 97, 84, 121, 112, 101].toArray⟩, .string ⟨[97, 114, 116, 105, 102, 97, 99, 116, 84, 121, 112, 101].toArray⟩, .string ⟨[99, 111, 110, 102, 105, 103].toArray⟩, .string ⟨[108, 97, 121, 101, 114, 115].toArray⟩, .string ⟨[109, 97, 110, 105, 102, 101, 115, 116, 115].toArray⟩, .string ⟨[115, 117, 98, 106, 101, 99, 116].toArray⟩, .string ⟨[97, 110, 110, 111, 116, 97, 116, 105, 111, 110, 115].toArray⟩]) (by with_unfolding_all rfl) (by with_unfolding_all rfl) (by with_unfolding_all rfl) (by decide) (by simp [Value.cells]) ?_)); intro w60 g60 hF60 hz60))
      go_loopg [116] 8 (fun gk iv wr => ∃ i : Nat, i ≤ 8 ∧ Box (gk = 8 - i) ∧ iv = .int .i64 (i : Int) ∧ Box (∀ j, j < i → tNames[j]? ≠ some key) ∧ Fr [] w wr (.own w.heap.size 9 1 (.slice (some ⟨g60, 0, none⟩) 8 8) 8 tWords :: .blk g5 51 (vlL 6 0 ⟨#[]⟩ (.slice A nk c) (.slice B nk d)) :: .blk g1 40 cs :: .own b0 9 1 (.slice A nk c) nk (nmL M) :: .own b0 51 5 (.slice B nk d) nk ys :: TE))
      case atStart => exact ⟨0, by omega, box rfl, rfl, box (fun j hj => absurd hj (by omega)), hF60⟩
      case round =>
       clear hF60
       obtain ⟨i, hi8, hgi, rfl, hno, hF⟩ := hrel
       have hkk : Box (_ = 8 - i) := hgi
       clear hgi
       by_cases hlt8 : i < 8
       ·obtain ⟨nm, hnm⟩ : ∃ nm, tNames[i]? = some nm := tNames_some hlt8
        have hwi := box (tWords_at hnm)
        by_cases hkn : key = nm
        ·have hq : (key == nm) = true := by rw [beq_iff_eq]; exact hkn
         replace hkn := box hkn
         clear hnm
         go_wp2_with (first | (with_reducible refine lsx (wp_indexAddr T_strs hF.rdOwn0 (by with_unfolding_all exact ⟨_, _, _, _, rfl, rfl, rfl⟩) (by omega) (by omega) ?_)) | (with_reducible refine lsx (wp_load1C hF.rdOwn0 hwi uq9 rfl (by with_unfolding_all exact ⟨_, rfl, rfl⟩) (by first | (simp; done) | (simp; omega) | omega) ?_)))
         go_ret
         exact ⟨rfl, hF.below⟩
        ·have hq : (key == nm) = false := by rw [beq_eq_false_iff_ne]; exact hkn
         have hno2 : Box (∀ j, j < i + 1 → tNames[j]? ≠ some key) := box (fun j hj => by
          by_cases hji : j = i
          ·rw [hji, hnm]
           exact fun h => hkn (Option.some.inj h).symm
          ·exact hno.out j (by omega))
         replace hkn := box hkn
         clear hnm
         go_wp2_with (first | (with_reducible refine lsx (wp_indexAddr T_strs hF.rdOwn0 (by with_unfolding_all exact ⟨_, _, _, _, rfl, rfl, rfl⟩) (by omega) (by omega) ?_)) | (with_reducible refine lsx (wp_load1C hF.rdOwn0 hwi uq9 rfl (by with_unfolding_all exact ⟨_, rfl, rfl⟩) (by first | (simp; done) | (simp; omega) | omega) ?_)))
         go_roundg (8 - (i + 1))
         case rel => exact ⟨i + 1, by omega, box rfl, by go_num, hno2, hF⟩
         case measure => have := hkk.out; omega
       ·obtain rfl : i = 8 := by omega
        have hnot := box (tNames_not hno.out)
        clear hno hkk
        have hF20 := hF.tail
        clear hF
        go_upto_region 24 with fail
        go_cut [18] (fun u18 wx => ∃ (g : Nat) (A2 : Option Addr) (c2 : Nat) (B2 : Option Addr) (d2 : Nat), u18 = .pointer (some ⟨g, 0, none⟩) ∧ Box (VRd wx (· < wx.heap.size) (jO ((key, .null) :: M)) (vlL 6 0 ⟨#[]⟩ (.slice A2 (1 + nk) c2) (.slice B2 (1 + nk) d2))) ∧ Fr [] w wx [.blk g 51 (vlL 6 0 ⟨#[]⟩ (.slice A2 (1 + nk) c2) (.slice B2 (1 + nk) d2))])
        case first =>
         have hFd := hF20.drew
         clear hF20
         refine wp_region_held (S := fun w' => w'.heap[g5]? = some (.cells (List.toArray (vlL 6 0 ⟨#[]⟩ (.slice A nk c) (.slice B nk d))) 51 (0, 0))) (by kernel_rfl) ?_
         change wpAnyH _ _ _ _ _ _ _ _ (World.drew _)
         refine tkp 0 (hFd.blk (i := 0) rfl) ?_
         (try simp only [zP, zQ, zS, zZ, zN])
         refine tkp 2 (hFd.blk (i := 0) rfl) ?_
         (try simp only [zP, zQ, zS, zZ, zN])
         refine tky 3 (y := yi_fld (by with_unfolding_all rfl) (fun _ h => h) uq48 rfl (by with_unfolding_all exact ⟨_, rfl, rfl⟩) rfl) (s := (hFd.blk (i := 0) rfl)) (h := ?_)
         (try simp only [zP, zQ, zS, zZ, zN])
         refine tky 5 (y := yi_build (cs := vl0) (by with_unfolding_all rfl) uq51 (z := .agg (List.toArray vl0)) (by kernel_rfl) (pl := vlP) (by kernel_rfl) rfl (vs := []) (by with_unfolding_all rfl) (by with_unfolding_all rfl)) (s := (hFd.blk (i := 0) rfl)) (h := ?_)
         (try simp only [zP, zQ, zS, zZ, zN])
         refine tkp 7 (hFd.blk (i := 0) rfl) ?_
         (try simp only [zP, zQ, zS, zZ, zN])
         refine tky 8 (y := yi_fld (by with_unfolding_all rfl) (fun _ h => h) uq49 rfl (by with_unfolding_all exact ⟨_, rfl, rfl⟩) rfl) (s := (hFd.blk (i := 0) rfl)) (h := ?_)
         (try simp only [zP, zQ, zS, zZ, zN])
         refine wpAnyH_ready (rs := [1, 6, 11]) (by kernel_rfl) (by simp) ?_
         refine AllReadyH.cons (by simp only [List.getElem?_toArray, List.getElem?_cons_zero, List.getElem?_cons_succ]; rfl) (fun K hK => ?_) ?_
         ·as_aux_lemma =>
           refine stp (by with_unfolding_all rfl) (wp_fbsl T_strs hFd (vs := [.string ⟨key.toArray⟩]) (by with_unfolding_all rfl) (by with_unfolding_all rfl) (by with_unfolding_all rfl) (by decide) (by simp [Value.cells]) ?_)
           intro w71 g71 hF71 hz71
           refine hK.out _ _ ((hF71.blk (i := 1) rfl)) (fun _ => ?_)
           clear hK K
           (try simp only [zP, zQ, zS, zZ, zN])
           refine wpAnyH_ready (rs := [4, 6, 11]) (by kernel_rfl) (by simp) ?_
           refine AllReadyH.cons (by simp only [List.getElem?_toArray, List.getElem?_cons_zero, List.getElem?_cons_succ]; rfl) (fun K hK => ?_) ?_
           ·as_aux_lemma =>
             refine stp (by with_unfolding_all rfl) (wp_fappG T_strs hF71 (i := 0) rfl (Nat.le_refl _) (hF71.rdOwn (i := 3) rfl) (nmL_one M) (by with_unfolding_all exact ⟨_, _, rfl, rfl, rfl⟩) (by unfold maxLen; omega) (by omega) ?_)
             intro v72 w72 hF72 hz72
             (try simp only [zZ, zN] at hF72)
             obtain ⟨A72, c72, rfl, hc72⟩ := hF72.ownParts (i := 0) rfl
             refine hK.out _ _ ((hF72.blk (i := 1) rfl)) (fun _ => ?_)
             clear hK K
             (try simp only [zP, zQ, zS, zZ, zN])
             refine wpAnyH_ready (rs := [6, 11]) (by kernel_rfl) (by simp) ?_
             refine AllReadyH.cons (by simp only [List.getElem?_toArray, List.getElem?_cons_zero, List.getElem?_cons_succ]; rfl) (fun K hK => ?_) ?_
             ·refine stp (by with_unfolding_all rfl) (wp_fbs1 T_rvals hF72 (by with_unfolding_all rfl) (ds := vl0) (by with_unfolding_all rfl) rfl (by decide) ?_)
              intro w73 g73 hF73 hz73
              refine hK.out _ _ ((hF73.blk (i := 2) rfl)) (fun _ => ?_)
              clear hK K
              (try simp only [zP, zQ, zS, zZ, zN])
              refine wpAnyH_ready (rs := [9, 11]) (by kernel_rfl) (by simp) ?_
              refine AllReadyH.cons (by simp only [List.getElem?_toArray, List.getElem?_cons_zero, List.getElem?_cons_succ]; rfl) (fun K hK => ?_) ?_
              ·refine stp (by with_unfolding_all rfl) (wp_fappG T_rvals hF73 (i := 0) rfl (Nat.le_refl _) (hF73.rdOwn (i := 5) rfl) hyso.out (by with_unfolding_all exact ⟨_, _, rfl, rfl, rfl⟩) (by unfold maxLen; omega) (by omega) ?_)
               intro v74 w74 hF74 hz74
               (try simp only [zZ, zN] at hF74)
               obtain ⟨A74, c74, rfl, hc74⟩ := hF74.ownParts (i := 0) rfl
               refine hK.out _ _ ((hF74.blk (i := 2) rfl)) (fun _ => ?_)
               clear hK K
               (try simp only [zP, zQ, zS, zZ, zN])
               refine tky 10 (y := yi_build (cs := (vlL 6 0 ⟨#[]⟩ (.slice A72 (1 + nk) c72) (.slice A74 (1 + nk) c74))) (by with_unfolding_all rfl) uq51 (z := .agg (List.toArray vl0)) (by kernel_rfl) (pl := vlP) (by kernel_rfl) rfl (vs := [(0, .int .i64 6), (3, .slice A72 (1 + nk) c72), (4, .slice A74 (1 + nk) c74)]) (by with_unfolding_all rfl) (by with_unfolding_all rfl)) (s := (hF74.blk (i := 2) rfl)) (h := ?_)
               (try simp only [zP, zQ, zS, zZ, zN])
               refine rdy1 11 (fun K hK => ?_)
               refine stp (by with_unfolding_all rfl) (wp_falloc hF74 (cs := vl0) (z := .agg (List.toArray (vl0))) rfl (by kernel_rfl) (by with_unfolding_all rfl) ?_)
               intro w75 g75 hF75 hz75
               refine hK.out _ _ ((hF75.blk (i := 3) rfl)) (fun _ => ?_)
               clear hK K
               (try simp only [zP, zQ, zS, zZ, zN])
               refine rdy1 12 (fun K hK => ?_)
               refine stp (by with_unfolding_all rfl) (wp_fstA hF75 (i := 0) rfl (ds := (vlL 6 0 ⟨#[]⟩ (.slice A72 (1 + nk) c72) (.slice A74 (1 + nk) c74))) (by with_unfolding_all exact ⟨_, _, rfl, rfl, rfl⟩) (by rw [vlL_len]; kernel_rfl) vlL_one vlL_fit ?_)
               intro w76 hF76 hz76
               (try simp only [zZ, zN] at hF76)
               rw [(vlL_spl (k' := 6) : spl vl0 0 (vlL 6 0 ⟨#[]⟩ (.slice A72 (1 + nk) c72) (.slice A74 (1 + nk) c74)) = (vlL 6 0 ⟨#[]⟩ (.slice A72 (1 + nk) c72) (.slice A74 (1 + nk) c74)))] at hF76
               refine hK.out _ _ ((hF76.blk (i := 3) rfl)) (fun _ => ?_)
               clear hK K
               (try simp only [zP, zQ, zS, zZ, zN])
               refine wpAnyH_done (by kernel_rfl) ?_ _
               go_wp2_with fail
               go_meet
               have hn24 := hF76.rdOwn (i := 2) rfl
               have hk24 := hF76.rdOwn (i := 1) rfl
               have hv24 := box (lacks_vrd (key := key) hlk.out hc72 hc74 hn24 hk24 (hKM.out.rdL hF76 (by intro e he; simp [he])))
               exact ⟨g75, _, _, _, _, rfl, hv24, hF76.sub (List.singleton_sublist.2 (by simp))⟩
              refine AllReadyH.cons (by simp only [List.getElem?_toArray, List.getElem?_cons_zero, List.getElem?_cons_succ]; rfl) (fun K hK => ?_) ?_
              ·refine stp (by with_unfolding_all rfl) (wp_falloc hF73 (cs := vl0) (z := .agg (List.toArray (vl0))) rfl (by kernel_rfl) (by with_unfolding_all rfl) ?_)
               intro w74 g74 hF74 hz74
               refine hK.out _ _ ((hF74.blk (i := 3) rfl)) (fun _ => ?_)
               clear hK K
               (try simp only [zP, zQ, zS, zZ, zN])
               refine rdy1 9 (fun K hK => ?_)
               refine stp (by with_unfolding_all rfl) (wp_fappG T_rvals hF74 (i := 1) rfl (Nat.le_refl _) (hF74.rdOwn (i := 6) rfl) hyso.out (by with_unfolding_all exact ⟨_, _, rfl, rfl, rfl⟩) (by unfold maxLen; omega) (by omega) ?_)
               intro v75 w75 hF75 hz75
               (try simp only [zZ, zN] at hF75)
               obtain ⟨A75, c75, rfl, hc75⟩ := hF75.ownParts (i := 1) rfl
               refine hK.out _ _ ((hF75.blk (i := 3) rfl)) (fun _ => ?_)
               clear hK K
               (try simp only [zP, zQ, zS, zZ, zN])
               refine tky 10 (y := yi_build (cs := (vlL 6 0 ⟨#[]⟩ (.slice A72 (1 + nk) c72) (.slice A75 (1 + nk) c75))) (by with_unfolding_all rfl) uq51 (z := .agg (List.toArray vl0)) (by kernel_rfl) (pl := vlP) (by kernel_rfl) rfl (vs := [(0, .int .i64 6), (3, .slice A72 (1 + nk) c72), (4, .slice A75 (1 + nk) c75)]) (by with_unfolding_all rfl) (by with_unfolding_all rfl)) (s := (hF75.blk (i := 3) rfl)) (h := ?_)
               (try simp only [zP, zQ, zS, zZ, zN])
               refine rdy1 12 (fun K hK => ?_)
               refine stp (by with_unfolding_all rfl) (wp_fstA hF75 (i := 0) rfl (ds := (vlL 6 0 ⟨#[]⟩ (.slice A72 (1 + nk) c72) (.slice A75 (1 + nk) c75))) (by with_unfolding_all exact ⟨_, _, rfl, rfl, rfl⟩) (by rw [vlL_len]; kernel_rfl) vlL_one vlL_fit ?_)
               intro w76 hF76 hz76
               (try simp only [zZ, zN] at hF76)
               rw [(vlL_spl (k' := 6) : spl vl0 0 (vlL 6 0 ⟨#[]⟩ (.slice A72 (1 + nk) c72) (.slice A75 (1 + nk) c75)) = (vlL 6 0 ⟨#[]⟩ (.slice A72 (1 + nk) c72) (.slice A75 (1 + nk) c75)))] at hF76
               refine hK.out _ _ ((hF76.blk (i := 3) rfl)) (fun _ => ?_)
               clear hK K
               (try simp only [zP, zQ, zS, zZ, zN])
               refine wpAnyH_done (by kernel_rfl) ?_ _
               go_wp2_with fail
               go_meet
               have hn24 := hF76.rdOwn (i := 2) rfl
               have hk24 := hF76.rdOwn (i := 1) rfl
               have hv24 := box (lacks_vrd (key := key) hlk.out hc72 hc75 hn24 hk24 (hKM.out.rdL hF76 (by intro e he; simp [he])))
               exact ⟨g74, _, _, _, _, rfl, hv24, hF76.sub (List.singleton_sublist.2 (by simp))⟩
              exact AllReadyH.nil
             refine AllReadyH.cons (by simp only [List.getElem?_toArray, List.getElem?_cons_zero, List.getElem?_cons_succ]; rfl) (fun K hK => ?_) ?_
             ·refine stp (by with_unfolding_all rfl) (wp_falloc hF72 (cs := vl0) (z := .agg (List.toArray (vl0))) rfl (by kernel_rfl) (by with_unfolding_all rfl) ?_)
              intro w73 g73 hF73 hz73
              refine hK.out _ _ ((hF73.blk (i := 2) rfl)) (fun _ => ?_)
              clear hK K
              (try simp only [zP, zQ, zS, zZ, zN])
              refine rdy1 6 (fun K hK => ?_)
              refine stp (by with_unfolding_all rfl) (wp_fbs1 T_rvals hF73 (by with_unfolding_all rfl) (ds := vl0) (by with_unfolding_all rfl) rfl (by decide) ?_)
              intro w74 g74 hF74 hz74
              refine hK.out _ _ ((hF74.blk (i := 3) rfl)) (fun _ => ?_)
              clear hK K
              (try simp only [zP, zQ, zS, zZ, zN])
              refine rdy1 9 (fun K hK => ?_)
              refine stp (by with_unfolding_all rfl) (wp_fappG T_rvals hF74 (i := 0) rfl (Nat.le_refl _) (hF74.rdOwn (i := 6) rfl) hyso.out (by with_unfolding_all exact ⟨_, _, rfl, rfl, rfl⟩) (by unfold maxLen; omega) (by omega) ?_)
              intro v75 w75 hF75 hz75
              (try simp only [zZ, zN] at hF75)
              obtain ⟨A75, c75, rfl, hc75⟩ := hF75.ownParts (i := 0) rfl
              refine hK.out _ _ ((hF75.blk (i := 3) rfl)) (fun _ => ?_)
              clear hK K
              (try simp only [zP, zQ, zS, zZ, zN])
              refine tky 10 (y := yi_build (cs := (vlL 6 0 ⟨#[]⟩ (.slice A72 (1 + nk) c72) (.slice A75 (1 + nk) c75))) (by with_unfolding_all rfl) uq51 (z := .agg (List.toArray vl0)) (by kernel_rfl) (pl := vlP) (by kernel_rfl) rfl (vs := [(0, .int .i64 6), (3, .slice A72 (1 + nk) c72), (4, .slice A75 (1 + nk) c75)]) (by with_unfolding_all rfl) (by with_unfolding_all rfl)) (s := (hF75.blk (i := 3) rfl)) (h := ?_)
              (try simp only [zP, zQ, zS, zZ, zN])
              refine rdy1 12 (fun K hK => ?_)
              refine stp (by with_unfolding_all rfl) (wp_fstA hF75 (i := 1) rfl (ds := (vlL 6 0 ⟨#[]⟩ (.slice A72 (1 + nk) c72) (.slice A75 (1 + nk) c75))) (by with_unfolding_all exact ⟨_, _, rfl, rfl, rfl⟩) (by rw [vlL_len]; kernel_rfl) vlL_one vlL_fit ?_)
              intro w76 hF76 hz76
              (try simp only [zZ, zN] at hF76)
              rw [(vlL_spl (k' := 6) : spl vl0 0 (vlL 6 0 ⟨#[]⟩ (.slice A72 (1 + nk) c72) (.slice A75 (1 + nk) c75)) = (vlL 6 0 ⟨#[]⟩ (.slice A72 (1 + nk) c72) (.slice A75 (1 + nk) c75)))] at hF76
              refine hK.out _ _ ((hF76.blk (i := 3) rfl)) (fun _ => ?_)
              clear hK K
              (try simp only [zP, zQ, zS, zZ, zN])
              refine wpAnyH_done (by kernel_rfl) ?_ _
              go_wp2_with fail
              go_meet
              have hn24 := hF76.rdOwn (i := 2) rfl
              have hk24 := hF76.rdOwn (i := 0) rfl
              have hv24 := box (lacks_vrd (key := key) hlk.out hc72 hc75 hn24 hk24 (hKM.out.rdL hF76 (by intro e he; simp [he])))
              exact ⟨g73, _, _, _, _, rfl, hv24, hF76.sub (List.singleton_sublist.2 (by simp))⟩
             exact AllReadyH.nil
           refine AllReadyH.cons (by simp only [List.getElem?_toArray, List.getElem?_cons_zero, List.getElem?_cons_succ]; rfl) (fun K hK => ?_) ?_
           ·as_aux_lemma =>
             refine stp (by with_unfolding_all rfl) (wp_fbs1 T_rvals hF71 (by with_unfolding_all rfl) (ds := vl0) (by with_unfolding_all rfl) rfl (by decide) ?_)
             intro w72 g72 hF72 hz72
             refine hK.out _ _ ((hF72.blk (i := 2) rfl)) (fun _ => ?_)
             clear hK K
             (try simp only [zP, zQ, zS, zZ, zN])
             refine wpAnyH_ready (rs := [4, 11]) (by kernel_rfl) (by simp) ?_
             refine AllReadyH.cons (by simp only [List.getElem?_toArray, List.getElem?_cons_zero, List.getElem?_cons_succ]; rfl) (fun K hK => ?_) ?_
             ·refine stp (by with_unfolding_all rfl) (wp_fappG T_strs hF72 (i := 1) rfl (Nat.le_refl _) (hF72.rdOwn (i := 4) rfl) (nmL_one M) (by with_unfolding_all exact ⟨_, _, rfl, rfl, rfl⟩) (by unfold maxLen; omega) (by omega) ?_)
              intro v73 w73 hF73 hz73
              (try simp only [zZ, zN] at hF73)
              obtain ⟨A73, c73, rfl, hc73⟩ := hF73.ownParts (i := 1) rfl
              refine hK.out _ _ ((hF73.blk (i := 2) rfl)) (fun _ => ?_)
              clear hK K
              (try simp only [zP, zQ, zS, zZ, zN])
              refine wpAnyH_ready (rs := [9, 11]) (by kernel_rfl) (by simp) ?_
              refine AllReadyH.cons (by simp only [List.getElem?_toArray, List.getElem?_cons_zero, List.getElem?_cons_succ]; rfl) (fun K hK => ?_) ?_
              ·refine stp (by with_unfolding_all rfl) (wp_fappG T_rvals hF73 (i := 0) rfl (Nat.le_refl _) (hF73.rdOwn (i := 5) rfl) hyso.out (by with_unfolding_all exact ⟨_, _, rfl, rfl, rfl⟩) (by unfold maxLen; omega) (by omega) ?_)
               intro v74 w74 hF74 hz74
               (try simp only [zZ, zN] at hF74)
               obtain ⟨A74, c74, rfl, hc74⟩ := hF74.ownParts (i := 0) rfl
               refine hK.out _ _ ((hF74.blk (i := 2) rfl)) (fun _ => ?_)
               clear hK K
               (try simp only [zP, zQ, zS, zZ, zN])
               refine tky 10 (y := yi_build (cs := (vlL 6 0 ⟨#[]⟩ (.slice A73 (1 + nk) c73) (.slice A74 (1 + nk) c74))) (by with_unfolding_all rfl) uq51 (z := .agg (List.toArray vl0)) (by kernel_rfl) (pl := vlP) (by kernel_rfl) rfl (vs := [(0, .int .i64 6), (3, .slice A73 (1 + nk) c73), (4, .slice A74 (1 + nk) c74)]) (by with_unfolding_all rfl) (by with_unfolding_all rfl)) (s := (hF74.blk (i := 2) rfl)) (h := ?_)
               (try simp only [zP, zQ, zS, zZ, zN])
               refine rdy1 11 (fun K hK => ?_)
               refine stp (by with_unfolding_all rfl) (wp_falloc hF74 (cs := vl0) (z := .agg (List.toArray (vl0))) rfl (by kernel_rfl) (by with_unfolding_all rfl) ?_)
               intro w75 g75 hF75 hz75
               refine hK.out _ _ ((hF75.blk (i := 3) rfl)) (fun _ => ?_)
               clear hK K
               (try simp only [zP, zQ, zS, zZ, zN])
               refine rdy1 12 (fun K hK => ?_)
               refine stp (by with_unfolding_all rfl) (wp_fstA hF75 (i := 0) rfl (ds := (vlL 6 0 ⟨#[]⟩ (.slice A73 (1 + nk) c73) (.slice A74 (1 + nk) c74))) (by with_unfolding_all exact ⟨_, _, rfl, rfl, rfl⟩) (by rw [vlL_len]; kernel_rfl) vlL_one vlL_fit ?_)
               intro w76 hF76 hz76
               (try simp only [zZ, zN] at hF76)
               rw [(vlL_spl (k' := 6) : spl vl0 0 (vlL 6 0 ⟨#[]⟩ (.slice A73 (1 + nk) c73) (.slice A74 (1 + nk) c74)) = (vlL 6 0 ⟨#[]⟩ (.slice A73 (1 + nk) c73) (.slice A74 (1 + nk) c74)))] at hF76
               refine hK.out _ _ ((hF76.blk (i := 3) rfl)) (fun _ => ?_)
               clear hK K
               (try simp only [zP, zQ, zS, zZ, zN])
               refine wpAnyH_done (by kernel_rfl) ?_ _
               go_wp2_with fail
               go_meet
               have hn24 := hF76.rdOwn (i := 2) rfl
               have hk24 := hF76.rdOwn (i := 1) rfl
               have hv24 := box (lacks_vrd (key := key) hlk.out hc73 hc74 hn24 hk24 (hKM.out.rdL hF76 (by intro e he; simp [he])))
               exact ⟨g75, _, _, _, _, rfl, hv24, hF76.sub (List.singleton_sublist.2 (by simp))⟩
              refine AllReadyH.cons (by simp only [List.getElem?_toArray, List.getElem?_cons_zero, List.getElem?_cons_succ]; rfl) (fun K hK => ?_) ?_
              ·refine stp (by with_unfolding_all rfl) (wp_falloc hF73 (cs := vl0) (z := .agg (List.toArray (vl0))) rfl (by kernel_rfl) (by with_unfolding_all rfl) ?_)
               intro w74 g74 hF74 hz74
               refine hK.out _ _ ((hF74.blk (i := 3) rfl)) (fun _ => ?_)
               clear hK K
               (try simp only [zP, zQ, zS, zZ, zN])
               refine rdy1 9 (fun K hK => ?_)
               refine stp (by with_unfolding_all rfl) (wp_fappG T_rvals hF74 (i := 1) rfl (Nat.le_refl _) (hF74.rdOwn (i := 6) rfl) hyso.out (by with_unfolding_all exact ⟨_, _, rfl, rfl, rfl⟩) (by unfold maxLen; omega) (by omega) ?_)
               intro v75 w75 hF75 hz75
               (try simp only [zZ, zN] at hF75)
               obtain ⟨A75, c75, rfl, hc75⟩ := hF75.ownParts (i := 1) rfl
               refine hK.out _ _ ((hF75.blk (i := 3) rfl)) (fun _ => ?_)
               clear hK K
               (try simp only [zP, zQ, zS, zZ, zN])
               refine tky 10 (y := yi_build (cs := (vlL 6 0 ⟨#[]⟩ (.slice A73 (1 + nk) c73) (.slice A75 (1 + nk) c75))) (by with_unfolding_all rfl) uq51 (z := .agg (List.toArray vl0)) (by kernel_rfl) (pl := vlP) (by kernel_rfl) rfl (vs := [(0, .int .i64 6), (3, .slice A73 (1 + nk) c73), (4, .slice A75 (1 + nk) c75)]) (by with_unfolding_all rfl) (by with_unfolding_all rfl)) (s := (hF75.blk (i := 3) rfl)) (h := ?_)
               (try simp only [zP, zQ, zS, zZ, zN])
               refine rdy1 12 (fun K hK => ?_)
               refine stp (by with_unfolding_all rfl) (wp_fstA hF75 (i := 0) rfl (ds := (vlL 6 0 ⟨#[]⟩ (.slice A73 (1 + nk) c73) (.slice A75 (1 + nk) c75))) (by with_unfolding_all exact ⟨_, _, rfl, rfl, rfl⟩) (by rw [vlL_len]; kernel_rfl) vlL_one vlL_fit ?_)
               intro w76 hF76 hz76
               (try simp only [zZ, zN] at hF76)
               rw [(vlL_spl (k' := 6) : spl vl0 0 (vlL 6 0 ⟨#[]⟩ (.slice A73 (1 + nk) c73) (.slice A75 (1 + nk) c75)) = (vlL 6 0 ⟨#[]⟩ (.slice A73 (1 + nk) c73) (.slice A75 (1 + nk) c75)))] at hF76
               refine hK.out _ _ ((hF76.blk (i := 3) rfl)) (fun _ => ?_)
               clear hK K
               (try simp only [zP, zQ, zS, zZ, zN])
               refine wpAnyH_done (by kernel_rfl) ?_ _
               go_wp2_with fail
               go_meet
               have hn24 := hF76.rdOwn (i := 2) rfl
               have hk24 := hF76.rdOwn (i := 1) rfl
               have hv24 := box (lacks_vrd (key := key) hlk.out hc73 hc75 hn24 hk24 (hKM.out.rdL hF76 (by intro e he; simp [he])))
               exact ⟨g74, _, _, _, _, rfl, hv24, hF76.sub (List.singleton_sublist.2 (by simp))⟩
              exact AllReadyH.nil
             refine AllReadyH.cons (by simp only [List.getElem?_toArray, List.getElem?_cons_zero, List.getElem?_cons_succ]; rfl) (fun K hK => ?_) ?_
             ·refine stp (by with_unfolding_all rfl) (wp_falloc hF72 (cs := vl0) (z := .agg (List.toArray (vl0))) rfl (by kernel_rfl) (by with_unfolding_all rfl) ?_)
              intro w73 g73 hF73 hz73
              refine hK.out _ _ ((hF73.blk (i := 3) rfl)) (fun _ => ?_)
              clear hK K
              (try simp only [zP, zQ, zS, zZ, zN])
              refine rdy1 4 (fun K hK => ?_)
              refine stp (by with_unfolding_all rfl) (wp_fappG T_strs hF73 (i := 2) rfl (Nat.le_refl _) (hF73.rdOwn (i := 5) rfl) (nmL_one M) (by with_unfolding_all exact ⟨_, _, rfl, rfl, rfl⟩) (by unfold maxLen; omega) (by omega) ?_)
              intro v74 w74 hF74 hz74
              (try simp only [zZ, zN] at hF74)
              obtain ⟨A74, c74, rfl, hc74⟩ := hF74.ownParts (i := 2) rfl
              refine hK.out _ _ ((hF74.blk (i := 3) rfl)) (fun _ => ?_)
              clear hK K
              (try simp only [zP, zQ, zS, zZ, zN])
              refine rdy1 9 (fun K hK => ?_)
              refine stp (by with_unfolding_all rfl) (wp_fappG T_rvals hF74 (i := 1) rfl (Nat.le_refl _) (hF74.rdOwn (i := 6) rfl) hyso.out (by with_unfolding_all exact ⟨_, _, rfl, rfl, rfl⟩) (by unfold maxLen; omega) (by omega) ?_)
              intro v75 w75 hF75 hz75
              (try simp only [zZ, zN] at hF75)
              obtain ⟨A75, c75, rfl, hc75⟩ := hF75.ownParts (i := 1) rfl
              refine hK.out _ _ ((hF75.blk (i := 3) rfl)) (fun _ => ?_)
              clear hK K
              (try simp only [zP, zQ, zS, zZ, zN])
              refine tky 10 (y := yi_build (cs := (vlL 6 0 ⟨#[]⟩ (.slice A74 (1 + nk) c74) (.slice A75 (1 + nk) c75))) (by with_unfolding_all rfl) uq51 (z := .agg (List.toArray vl0)) (by kernel_rfl) (pl := vlP) (by kernel_rfl) rfl (vs := [(0, .int .i64 6), (3, .slice A74 (1 + nk) c74), (4, .slice A75 (1 + nk) c75)]) (by with_unfolding_all rfl) (by with_unfolding_all rfl)) (s := (hF75.blk (i := 3) rfl)) (h := ?_)
              (try simp only [zP, zQ, zS, zZ, zN])
              refine rdy1 12 (fun K hK => ?_)
              refine stp (by with_unfolding_all rfl) (wp_fstA hF75 (i := 0) rfl (ds := (vlL 6 0 ⟨#[]⟩ (.slice A74 (1 + nk) c74) (.slice A75 (1 + nk) c75))) (by with_unfolding_all exact ⟨_, _, rfl, rfl, rfl⟩) (by rw [vlL_len]; kernel_rfl) vlL_one vlL_fit ?_)
              intro w76 hF76 hz76
              (try simp only [zZ, zN] at hF76)
              rw [(vlL_spl (k' := 6) : spl vl0 0 (vlL 6 0 ⟨#[]⟩ (.slice A74 (1 + nk) c74) (.slice A75 (1 + nk) c75)) = (vlL 6 0 ⟨#[]⟩ (.slice A74 (1 + nk) c74) (.slice A75 (1 + nk) c75)))] at hF76
              refine hK.out _ _ ((hF76.blk (i := 3) rfl)) (fun _ => ?_)
              clear hK K
              (try simp only [zP, zQ, zS, zZ, zN])
              refine wpAnyH_done (by kernel_rfl) ?_ _
              go_wp2_with fail
              go_meet
              have hn24 := hF76.rdOwn (i := 2) rfl
              have hk24 := hF76.rdOwn (i := 1) rfl
              have hv24 := box (lacks_vrd (key := key) hlk.out hc74 hc75 hn24 hk24 (hKM.out.rdL hF76 (by intro e he; simp [he])))
              exact ⟨g73, _, _, _, _, rfl, hv24, hF76.sub (List.singleton_sublist.2 (by simp))⟩
             exact AllReadyH.nil
           refine AllReadyH.cons (by simp only [List.getElem?_toArray, List.getElem?_cons_zero, List.getElem?_cons_succ]; rfl) (fun K hK => ?_) ?_
           ·as_aux_lemma =>
             refine stp (by with_unfolding_all rfl) (wp_falloc hF71 (cs := vl0) (z := .agg (List.toArray (vl0))) rfl (by kernel_rfl) (by with_unfolding_all rfl) ?_)
             intro w72 g72 hF72 hz72
             refine hK.out _ _ ((hF72.blk (i := 2) rfl)) (fun _ => ?_)
             clear hK K
             (try simp only [zP, zQ, zS, zZ, zN])
             refine wpAnyH_ready (rs := [4, 6]) (by kernel_rfl) (by simp) ?_
             refine AllReadyH.cons (by simp only [List.getElem?_toArray, List.getElem?_cons_zero, List.getElem?_cons_succ]; rfl) (fun K hK => ?_) ?_
             ·refine stp (by with_unfolding_all rfl) (wp_fappG T_strs hF72 (i := 1) rfl (Nat.le_refl _) (hF72.rdOwn (i := 4) rfl) (nmL_one M) (by with_unfolding_all exact ⟨_, _, rfl, rfl, rfl⟩) (by unfold maxLen; omega) (by omega) ?_)
              intro v73 w73 hF73 hz73
              (try simp only [zZ, zN] at hF73)
              obtain ⟨A73, c73, rfl, hc73⟩ := hF73.ownParts (i := 1) rfl
              refine hK.out _ _ ((hF73.blk (i := 2) rfl)) (fun _ => ?_)
              clear hK K
              (try simp only [zP, zQ, zS, zZ, zN])
              refine rdy1 6 (fun K hK => ?_)
              refine stp (by with_unfolding_all rfl) (wp_fbs1 T_rvals hF73 (by with_unfolding_all rfl) (ds := vl0) (by with_unfolding_all rfl) rfl (by decide) ?_)
              intro w74 g74 hF74 hz74
              refine hK.out _ _ ((hF74.blk (i := 3) rfl)) (fun _ => ?_)
              clear hK K
              (try simp only [zP, zQ, zS, zZ, zN])
              refine rdy1 9 (fun K hK => ?_)
              refine stp (by with_unfolding_all rfl) (wp_fappG T_rvals hF74 (i := 0) rfl (Nat.le_refl _) (hF74.rdOwn (i := 6) rfl) hyso.out (by with_unfolding_all exact ⟨_, _, rfl, rfl, rfl⟩) (by unfold maxLen; omega) (by omega) ?_)
              intro v75 w75 hF75 hz75
              (try simp only [zZ, zN] at hF75)
              obtain ⟨A75, c75, rfl, hc75⟩ := hF75.ownParts (i := 0) rfl
              refine hK.out _ _ ((hF75.blk (i := 3) rfl)) (fun _ => ?_)
              clear hK K
              (try simp only [zP, zQ, zS, zZ, zN])
              refine tky 10 (y := yi_build (cs := (vlL 6 0 ⟨#[]⟩ (.slice A73 (1 + nk) c73) (.slice A75 (1 + nk) c75))) (by with_unfolding_all rfl) uq51 (z := .agg (List.toArray vl0)) (by kernel_rfl) (pl := vlP) (by kernel_rfl) rfl (vs := [(0, .int .i64 6), (3, .slice A73 (1 + nk) c73), (4, .slice A75 (1 + nk) c75)]) (by with_unfolding_all rfl) (by with_unfolding_all rfl)) (s := (hF75.blk (i := 3) rfl)) (h := ?_)
              (try simp only [zP, zQ, zS, zZ, zN])
              refine rdy1 12 (fun K hK => ?_)
              refine stp (by with_unfolding_all rfl) (wp_fstA hF75 (i := 1) rfl (ds := (vlL 6 0 ⟨#[]⟩ (.slice A73 (1 + nk) c73) (.slice A75 (1 + nk) c75))) (by with_unfolding_all exact ⟨_, _, rfl, rfl, rfl⟩) (by rw [vlL_len]; kernel_rfl) vlL_one vlL_fit ?_)
              intro w76 hF76 hz76
              (try simp only [zZ, zN] at hF76)
              rw [(vlL_spl (k' := 6) : spl vl0 0 (vlL 6 0 ⟨#[]⟩ (.slice A73 (1 + nk) c73) (.slice A75 (1 + nk) c75)) = (vlL 6 0 ⟨#[]⟩ (.slice A73 (1 + nk) c73) (.slice A75 (1 + nk) c75)))] at hF76
              refine hK.out _ _ ((hF76.blk (i := 3) rfl)) (fun _ => ?_)
              clear hK K
              (try simp only [zP, zQ, zS, zZ, zN])
              refine wpAnyH_done (by kernel_rfl) ?_ _
              go_wp2_with fail
              go_meet
              have hn24 := hF76.rdOwn (i := 2) rfl
              have hk24 := hF76.rdOwn (i := 0) rfl
              have hv24 := box (lacks_vrd (key := key) hlk.out hc73 hc75 hn24 hk24 (hKM.out.rdL hF76 (by intro e he; simp [he])))
              exact ⟨g72, _, _, _, _, rfl, hv24, hF76.sub (List.singleton_sublist.2 (by simp))⟩
             refine AllReadyH.cons (by simp only [List.getElem?_toArray, List.getElem?_cons_zero, List.getElem?_cons_succ]; rfl) (fun K hK => ?_) ?_
             ·refine stp (by with_unfolding_all rfl) (wp_fbs1 T_rvals hF72 (by with_unfolding_all rfl) (ds := vl0) (by with_unfolding_all rfl) rfl (by decide) ?_)
              intro w73 g73 hF73 hz73
              refine hK.out _ _ ((hF73.blk (i := 3) rfl)) (fun _ => ?_)
              clear hK K
              (try simp only [zP, zQ, zS, zZ, zN])
              refine rdy1 4 (fun K hK => ?_)
              refine stp (by with_unfolding_all rfl) (wp_fappG T_strs hF73 (i := 2) rfl (Nat.le_refl _) (hF73.rdOwn (i := 5) rfl) (nmL_one M) (by with_unfolding_all exact ⟨_, _, rfl, rfl, rfl⟩) (by unfold maxLen; omega) (by omega) ?_)
              intro v74 w74 hF74 hz74
              (try simp only [zZ, zN] at hF74)
              obtain ⟨A74, c74, rfl, hc74⟩ := hF74.ownParts (i := 2) rfl
              refine hK.out _ _ ((hF74.blk (i := 3) rfl)) (fun _ => ?_)
              clear hK K
              (try simp only [zP, zQ, zS, zZ, zN])
              refine rdy1 9 (fun K hK => ?_)
              refine stp (by with_unfolding_all rfl) (wp_fappG T_rvals hF74 (i := 0) rfl (Nat.le_refl _) (hF74.rdOwn (i := 6) rfl) hyso.out (by with_unfolding_all exact ⟨_, _, rfl, rfl, rfl⟩) (by unfold maxLen; omega) (by omega) ?_)
              intro v75 w75 hF75 hz75
              (try simp only [zZ, zN] at hF75)
              obtain ⟨A75, c75, rfl, hc75⟩ := hF75.ownParts (i := 0) rfl
              refine hK.out _ _ ((hF75.blk (i := 3) rfl)) (fun _ => ?_)
              clear hK K
              (try simp only [zP, zQ, zS, zZ, zN])
              refine tky 10 (y := yi_build (cs := (vlL 6 0 ⟨#[]⟩ (.slice A74 (1 + nk) c74) (.slice A75 (1 + nk) c75))) (by with_unfolding_all rfl) uq51 (z := .agg (List.toArray vl0)) (by kernel_rfl) (pl := vlP) (by kernel_rfl) rfl (vs := [(0, .int .i64 6), (3, .slice A74 (1 + nk) c74), (4, .slice A75 (1 + nk) c75)]) (by with_unfolding_all rfl) (by with_unfolding_all rfl)) (s := (hF75.blk (i := 3) rfl)) (h := ?_)
              (try simp only [zP, zQ, zS, zZ, zN])
              refine rdy1 12 (fun K hK => ?_)
              refine stp (by with_unfolding_all rfl) (wp_fstA hF75 (i := 1) rfl (ds := (vlL 6 0 ⟨#[]⟩ (.slice A74 (1 + nk) c74) (.slice A75 (1 + nk) c75))) (by with_unfolding_all exact ⟨_, _, rfl, rfl, rfl⟩) (by rw [vlL_len]; kernel_rfl) vlL_one vlL_fit ?_)
              intro w76 hF76 hz76
              (try simp only [zZ, zN] at hF76)
              rw [(vlL_spl (k' := 6) : spl vl0 0 (vlL 6 0 ⟨#[]⟩ (.slice A74 (1 + nk) c74) (.slice A75 (1 + nk) c75)) = (vlL 6 0 ⟨#[]⟩ (.slice A74 (1 + nk) c74) (.slice A75 (1 + nk) c75)))] at hF76
              refine hK.out _ _ ((hF76.blk (i := 3) rfl)) (fun _ => ?_)
              clear hK K
              (try simp only [zP, zQ, zS, zZ, zN])
              refine wpAnyH_done (by kernel_rfl) ?_ _
              go_wp2_with fail
              go_meet
              have hn24 := hF76.rdOwn (i := 2) rfl
              have hk24 := hF76.rdOwn (i := 0) rfl
              have hv24 := box (lacks_vrd (key := key) hlk.out hc74 hc75 hn24 hk24 (hKM.out.rdL hF76 (by intro e he; simp [he])))
              exact ⟨g72, _, _, _, _, rfl, hv24, hF76.sub (List.singleton_sublist.2 (by simp))⟩
             exact AllReadyH.nil
           exact AllReadyH.nil
         refine AllReadyH.cons (by simp only [List.getElem?_toArray, List.getElem?_cons_zero, List.getElem?_cons_succ]; rfl) (fun K hK => ?_) ?_
         ·as_aux_lemma =>
           refine stp (by with_unfolding_all rfl) (wp_fbs1 T_rvals hFd (by with_unfolding_all rfl) (ds := vl0) (by with_unfolding_all rfl) rfl (by decide) ?_)
           intro w71 g71 hF71 hz71
           refine hK.out _ _ ((hF71.blk (i := 1) rfl)) (fun _ => ?_)
           clear hK K
           (try simp only [zP, zQ, zS, zZ, zN])
           refine wpAnyH_ready (rs := [1, 11]) (by kernel_rfl) (by simp) ?_
           refine AllReadyH.cons (by simp only [List.getElem?_toArray, List.getElem?_cons_zero, List.getElem?_cons_succ]; rfl) (fun K hK => ?_) ?_
           ·as_aux_lemma =>
             refine stp (by with_unfolding_all rfl) (wp_fbsl T_strs hF71 (vs := [.string ⟨key.toArray⟩]) (by with_unfolding_all rfl) (by with_unfolding_all rfl) (by with_unfolding_all rfl) (by decide) (by simp [Value.cells]) ?_)
             intro w72 g72 hF72 hz72
             refine hK.out _ _ ((hF72.blk (i := 2) rfl)) (fun _ => ?_)
             clear hK K
             (try simp only [zP, zQ, zS, zZ, zN])
             refine wpAnyH_ready (rs := [4, 11]) (by kernel_rfl) (by simp) ?_
             refine AllReadyH.cons (by simp only [List.getElem?_toArray, List.getElem?_cons_zero, List.getElem?_cons_succ]; rfl) (fun K hK => ?_) ?_
             ·refine stp (by with_unfolding_all rfl) (wp_fappG T_strs hF72 (i := 0) rfl (Nat.le_refl _) (hF72.rdOwn (i := 4) rfl) (nmL_one M) (by with_unfolding_all exact ⟨_, _, rfl, rfl, rfl⟩) (by unfold maxLen; omega) (by omega) ?_)
              intro v73 w73 hF73 hz73
              (try simp only [zZ, zN] at hF73)
              obtain ⟨A73, c73, rfl, hc73⟩ := hF73.ownParts (i := 0) rfl
              refine hK.out _ _ ((hF73.blk (i := 2) rfl)) (fun _ => ?_)
              clear hK K
              (try simp only [zP, zQ, zS, zZ, zN])
              refine wpAnyH_ready (rs := [9, 11]) (by kernel_rfl) (by simp) ?_
              refine AllReadyH.cons (by simp only [List.getElem?_toArray, List.getElem?_cons_zero, List.getElem?_cons_succ]; rfl) (fun K hK => ?_) ?_
              ·refine stp (by with_unfolding_all rfl) (wp_fappG T_rvals hF73 (i := 1) rfl (Nat.le_refl _) (hF73.rdOwn (i := 5) rfl) hyso.out (by with_unfolding_all exact ⟨_, _, rfl, rfl, rfl⟩) (by unfold maxLen; omega) (by omega) ?_)
               intro v74 w74 hF74 hz74
               (try simp only [zZ, zN] at hF74)
               obtain ⟨A74, c74, rfl, hc74⟩ := hF74.ownParts (i := 1) rfl
               refine hK.out _ _ ((hF74.blk (i := 2) rfl)) (fun _ => ?_)
               clear hK K
               (try simp only [zP, zQ, zS, zZ, zN])
               refine tky 10 (y := yi_build (cs := (vlL 6 0 ⟨#[]⟩ (.slice A73 (1 + nk) c73) (.slice A74 (1 + nk) c74))) (by with_unfolding_all rfl) uq51 (z := .agg (List.toArray vl0)) (by kernel_rfl) (pl := vlP) (by kernel_rfl) rfl (vs := [(0, .int .i64 6), (3, .slice A73 (1 + nk) c73), (4, .slice A74 (1 + nk) c74)]) (by with_unfolding_all rfl) (by with_unfolding_all rfl)) (s := (hF74.blk (i := 2) rfl)) (h := ?_)
               (try simp only [zP, zQ, zS, zZ, zN])
               refine rdy1 11 (fun K hK => ?_)
               refine stp (by with_unfolding_all rfl) (wp_falloc hF74 (cs := vl0) (z := .agg (List.toArray (vl0))) rfl (by kernel_rfl) (by with_unfolding_all rfl) ?_)
               intro w75 g75 hF75 hz75
               refine hK.out _ _ ((hF75.blk (i := 3) rfl)) (fun _ => ?_)
               clear hK K
               (try simp only [zP, zQ, zS, zZ, zN])
               refine rdy1 12 (fun K hK => ?_)
               refine stp (by with_unfolding_all rfl) (wp_fstA hF75 (i := 0) rfl (ds := (vlL 6 0 ⟨#[]⟩ (.slice A73 (1 + nk) c73) (.slice A74 (1 + nk) c74))) (by with_unfolding_all exact ⟨_, _, rfl, rfl, rfl⟩) (by rw [vlL_len]; kernel_rfl) vlL_one vlL_fit ?_)
               intro w76 hF76 hz76
               (try simp only [zZ, zN] at hF76)
               rw [(vlL_spl (k' := 6) : spl vl0 0 (vlL 6 0 ⟨#[]⟩ (.slice A73 (1 + nk) c73) (.slice A74 (1 + nk) c74)) = (vlL 6 0 ⟨#[]⟩ (.slice A73 (1 + nk) c73) (.slice A74 (1 + nk) c74)))] at hF76
               refine hK.out _ _ ((hF76.blk (i := 3) rfl)) (fun _ => ?_)
               clear hK K
               (try simp only [zP, zQ, zS, zZ, zN])
               refine wpAnyH_done (by kernel_rfl) ?_ _
               go_wp2_with fail
               go_meet
               have hn24 := hF76.rdOwn (i := 1) rfl
               have hk24 := hF76.rdOwn (i := 2) rfl
               have hv24 := box (lacks_vrd (key := key) hlk.out hc73 hc74 hn24 hk24 (hKM.out.rdL hF76 (by intro e he; simp [he])))
               exact ⟨g75, _, _, _, _, rfl, hv24, hF76.sub (List.singleton_sublist.2 (by simp))⟩
              refine AllReadyH.cons (by simp only [List.getElem?_toArray, List.getElem?_cons_zero, List.getElem?_cons_succ]; rfl) (fun K hK => ?_) ?_
              ·refine stp (by with_unfolding_all rfl) (wp_falloc hF73 (cs := vl0) (z := .agg (List.toArray (vl0))) rfl (by kernel_rfl) (by with_unfolding_all rfl) ?_)
               intro w74 g74 hF74 hz74
               refine hK.out _ _ ((hF74.blk (i := 3) rfl)) (fun _ => ?_)
               clear hK K
               (try simp only [zP, zQ, zS, zZ, zN])
               refine rdy1 9 (fun K hK => ?_)
               refine stp (by with_unfolding_all rfl) (wp_fappG T_rvals hF74 (i := 2) rfl (Nat.le_refl _) (hF74.rdOwn (i := 6) rfl) hyso.out (by with_unfolding_all exact ⟨_, _, rfl, rfl, rfl⟩) (by unfold maxLen; omega) (by omega) ?_)
               intro v75 w75 hF75 hz75
               (try simp only [zZ, zN] at hF75)
               obtain ⟨A75, c75, rfl, hc75⟩ := hF75.ownParts (i := 2) rfl
               refine hK.out _ _ ((hF75.blk (i := 3) rfl)) (fun _ => ?_)
               clear hK K
               (try simp only [zP, zQ, zS, zZ, zN])
               refine tky 10 (y := yi_build (cs := (vlL 6 0 ⟨#[]⟩ (.slice A73 (1 + nk) c73) (.slice A75 (1 + nk) c75))) (by with_unfolding_all rfl) uq51 (z := .agg (List.toArray vl0)) (by kernel_rfl) (pl := vlP) (by kernel_rfl) rfl (vs := [(0, .int .i64 6), (3, .slice A73 (1 + nk) c73), (4, .slice A75 (1 + nk) c75)]) (by with_unfolding_all rfl) (by with_unfolding_all rfl)) (s := (hF75.blk (i := 3) rfl)) (h := ?_)
               (try simp only [zP, zQ, zS, zZ, zN])
               refine rdy1 12 (fun K hK => ?_)
               refine stp (by with_unfolding_all rfl) (wp_fstA hF75 (i := 0) rfl (ds := (vlL 6 0 ⟨#[]⟩ (.slice A73 (1 + nk) c73) (.slice A75 (1 + nk) c75))) (by with_unfolding_all exact ⟨_, _, rfl, rfl, rfl⟩) (by rw [vlL_len]; kernel_rfl) vlL_one vlL_fit ?_)
               intro w76 hF76 hz76
               (try simp only [zZ, zN] at hF76)
               rw [(vlL_spl (k' := 6) : spl vl0 0 (vlL 6 0 ⟨#[]⟩ (.slice A73 (1 + nk) c73) (.slice A75 (1 + nk) c75)) = (vlL 6 0 ⟨#[]⟩ (.slice A73 (1 + nk) c73) (.slice A75 (1 + nk) c75)))] at hF76
               refine hK.out _ _ ((hF76.blk (i := 3) rfl)) (fun _ => ?_)
               clear hK K
               (try simp only [zP, zQ, zS, zZ, zN])
               refine wpAnyH_done (by kernel_rfl) ?_ _
               go_wp2_with fail
               go_meet
               have hn24 := hF76.rdOwn (i := 1) rfl
               have hk24 := hF76.rdOwn (i := 2) rfl
               have hv24 := box (lacks_vrd (key := key) hlk.out hc73 hc75 hn24 hk24 (hKM.out.rdL hF76 (by intro e he; simp [he])))
               exact ⟨g74, _, _, _, _, rfl, hv24, hF76.sub (List.singleton_sublist.2 (by simp))⟩
              exact AllReadyH.nil
             refine AllReadyH.cons (by simp only [List.getElem?_toArray, List.getElem?_cons_zero, List.getElem?_cons_succ]; rfl) (fun K hK => ?_) ?_
             ·refine stp (by with_unfolding_all rfl) (wp_falloc hF72 (cs := vl0) (z := .agg (List.toArray (vl0))) rfl (by kernel_rfl) (by with_unfolding_all rfl) ?_)
              intro w73 g73 hF73 hz73
              refine hK.out _ _ ((hF73.blk (i := 3) rfl)) (fun _ => ?_)
              clear hK K
              (try simp only [zP, zQ, zS, zZ, zN])
              refine rdy1 4 (fun K hK => ?_)
              refine stp (by with_unfolding_all rfl) (wp_fappG T_strs hF73 (i := 1) rfl (Nat.le_refl _) (hF73.rdOwn (i := 5) rfl) (nmL_one M) (by with_unfolding_all exact ⟨_, _, rfl, rfl, rfl⟩) (by unfold maxLen; omega) (by omega) ?_)
              intro v74 w74 hF74 hz74
              (try simp only [zZ, zN] at hF74)
              obtain ⟨A74, c74, rfl, hc74⟩ := hF74.ownParts (i := 1) rfl
              refine hK.out _ _ ((hF74.blk (i := 3) rfl)) (fun _ => ?_)
              clear hK K
              (try simp only [zP, zQ, zS, zZ, zN])
              refine rdy1 9 (fun K hK => ?_)
              refine stp (by with_unfolding_all rfl) (wp_fappG T_rvals hF74 (i := 2) rfl (Nat.le_refl _) (hF74.rdOwn (i := 6) rfl) hyso.out (by with_unfolding_all exact ⟨_, _, rfl, rfl, rfl⟩) (by unfold maxLen; omega) (by omega) ?_)
              intro v75 w75 hF75 hz75
              (try simp only [zZ, zN] at hF75)
              obtain ⟨A75, c75, rfl, hc75⟩ := hF75.ownParts (i := 2) rfl
              refine hK.out _ _ ((hF75.blk (i := 3) rfl)) (fun _ => ?_)
              clear hK K
              (try simp only [zP, zQ, zS, zZ, zN])
              refine tky 10 (y := yi_build (cs := (vlL 6 0 ⟨#[]⟩ (.slice A74 (1 + nk) c74) (.slice A75 (1 + nk) c75))) (by with_unfolding_all rfl) uq51 (z := .agg (List.toArray vl0)) (by kernel_rfl) (pl := vlP) (by kernel_rfl) rfl (vs := [(0, .int .i64 6), (3, .slice A74 (1 + nk) c74), (4, .slice A75 (1 + nk) c75)]) (by with_unfolding_all rfl) (by with_unfolding_all rfl)) (s := (hF75.blk (i := 3) rfl)) (h := ?_)
              (try simp only [zP, zQ, zS, zZ, zN])
              refine rdy1 12 (fun K hK => ?_)
              refine stp (by with_unfolding_all rfl) (wp_fstA hF75 (i := 0) rfl (ds := (vlL 6 0 ⟨#[]⟩ (.slice A74 (1 + nk) c74) (.slice A75 (1 + nk) c75))) (by with_unfolding_all exact ⟨_, _, rfl, rfl, rfl⟩) (by rw [vlL_len]; kernel_rfl) vlL_one vlL_fit ?_)
              intro w76 hF76 hz76
              (try simp only [zZ, zN] at hF76)
              rw [(vlL_spl (k' := 6) : spl vl0 0 (vlL 6 0 ⟨#[]⟩ (.slice A74 (1 + nk) c74) (.slice A75 (1 + nk) c75)) = (vlL 6 0 ⟨#[]⟩ (.slice A74 (1 + nk) c74) (.slice A75 (1 + nk) c75)))] at hF76
              refine hK.out _ _ ((hF76.blk (i := 3) rfl)) (fun _ => ?_)
              clear hK K
              (try simp only [zP, zQ, zS, zZ, zN])
              refine wpAnyH_done (by kernel_rfl) ?_ _
              go_wp2_with fail
              go_meet
              have hn24 := hF76.rdOwn (i := 1) rfl
              have hk24 := hF76.rdOwn (i := 2) rfl
              have hv24 := box (lacks_vrd (key := key) hlk.out hc74 hc75 hn24 hk24 (hKM.out.rdL hF76 (by intro e he; simp [he])))
              exact ⟨g73, _, _, _, _, rfl, hv24, hF76.sub (List.singleton_sublist.2 (by simp))⟩
             exact AllReadyH.nil
           refine AllReadyH.cons (by simp only [List.getElem?_toArray, List.getElem?_cons_zero, List.getElem?_cons_succ]; rfl) (fun K hK => ?_) ?_
           ·as_aux_lemma =>
             refine stp (by with_unfolding_all rfl) (wp_falloc hF71 (cs := vl0) (z := .agg (List.toArray (vl0))) rfl (by kernel_rfl) (by with_unfolding_all rfl) ?_)
             intro w72 g72 hF72 hz72
             refine hK.out _ _ ((hF72.blk (i := 2) rfl)) (fun _ => ?_)
             clear hK K
             (try simp only [zP, zQ, zS, zZ, zN])
             refine rdy1 1 (fun K hK => ?_)
             refine stp (by with_unfolding_all rfl) (wp_fbsl T_strs hF72 (vs := [.string ⟨key.toArray⟩]) (by with_unfolding_all rfl) (by with_unfolding_all rfl) (by with_unfolding_all rfl) (by decide) (by simp [Value.cells]) ?_)
             intro w73 g73 hF73 hz73
             refine hK.out _ _ ((hF73.blk (i := 3) rfl)) (fun _ => ?_)
             clear hK K
             (try simp only [zP, zQ, zS, zZ, zN])
             refine rdy1 4 (fun K hK => ?_)
             refine stp (by with_unfolding_all rfl) (wp_fappG T_strs hF73 (i := 0) rfl (Nat.le_refl _) (hF73.rdOwn (i := 5) rfl) (nmL_one M) (by with_unfolding_all exact ⟨_, _, rfl, rfl, rfl⟩) (by unfold maxLen; omega) (by omega) ?_)
             intro v74 w74 hF74 hz74
             (try simp only [zZ, zN] at hF74)
             obtain ⟨A74, c74, rfl, hc74⟩ := hF74.ownParts (i := 0) rfl
             refine hK.out _ _ ((hF74.blk (i := 3) rfl)) (fun _ => ?_)
             clear hK K
             (try simp only [zP, zQ, zS, zZ, zN])
             refine rdy1 9 (fun K hK => ?_)
             refine stp (by with_unfolding_all rfl) (wp_fappG T_rvals hF74 (i := 2) rfl (Nat.le_refl _) (hF74.rdOwn (i := 6) rfl) hyso.out (by with_unfolding_all exact ⟨_, _, rfl, rfl, rfl⟩) (by unfold maxLen; omega) (by omega) ?_)
             intro v75 w75 hF75 hz75
             (try simp only [zZ, zN] at hF75)
             obtain ⟨A75, c75, rfl, hc75⟩ := hF75.ownParts (i := 2) rfl
             refine hK.out _ _ ((hF75.blk (i := 3) rfl)) (fun _ => ?_)
             clear hK K
             (try simp only [zP, zQ, zS, zZ, zN])
             refine tky 10 (y := yi_build (cs := (vlL 6 0 ⟨#[]⟩ (.slice A74 (1 + nk) c74) (.slice A75 (1 + nk) c75))) (by with_unfolding_all rfl) uq51 (z := .agg (List.toArray vl0)) (by kernel_rfl) (pl := vlP) (by kernel_rfl) rfl (vs := [(0, .int .i64 6), (3, .slice A74 (1 + nk) c74), (4, .slice A75 (1 + nk) c75)]) (by with_unfolding_all rfl) (by with_unfolding_all rfl)) (s := (hF75.blk (i := 3) rfl)) (h := ?_)
             (try simp only [zP, zQ, zS, zZ, zN])
             refine rdy1 12 (fun K hK => ?_)
             refine stp (by with_unfolding_all rfl) (wp_fstA hF75 (i := 1) rfl (ds := (vlL 6 0 ⟨#[]⟩ (.slice A74 (1 + nk) c74) (.slice A75 (1 + nk) c75))) (by with_unfolding_all exact ⟨_, _, rfl, rfl, rfl⟩) (by rw [vlL_len]; kernel_rfl) vlL_one vlL_fit ?_)
             intro w76 hF76 hz76
             (try simp only [zZ, zN] at hF76)
             rw [(vlL_spl (k' := 6) : spl vl0 0 (vlL 6 0 ⟨#[]⟩ (.slice A74 (1 + nk) c74) (.slice A75 (1 + nk) c75)) = (vlL 6 0 ⟨#[]⟩ (.slice A74 (1 + nk) c74) (.slice A75 (1 + nk) c75)))] at hF76
             refine hK.out _ _ ((hF76.blk (i := 3) rfl)) (fun _ => ?_)
             clear hK K
             (try simp only [zP, zQ, zS, zZ, zN])
             refine wpAnyH_done (by kernel_rfl) ?_ _
             go_wp2_with fail
             go_meet
             have hn24 := hF76.rdOwn (i := 0) rfl
             have hk24 := hF76.rdOwn (i := 2) rfl
             have hv24 := box (lacks_vrd (key := key) hlk.out hc74 hc75 hn24 hk24 (hKM.out.rdL hF76 (by intro e he; simp [he])))
             exact ⟨g72, _, _, _, _, rfl, hv24, hF76.sub (List.singleton_sublist.2 (by simp))⟩
           exact AllReadyH.nil
         refine AllReadyH.cons (by simp only [List.getElem?_toArray, List.getElem?_cons_zero, List.getElem?_cons_succ]; rfl) (fun K hK => ?_) ?_
         ·as_aux_lemma =>
           refine stp (by with_unfolding_all rfl) (wp_falloc hFd (cs := vl0) (z := .agg (List.toArray (vl0))) rfl (by kernel_rfl) (by with_unfolding_all rfl) ?_)
           intro w71 g71 hF71 hz71
           refine hK.out _ _ ((hF71.blk (i := 1) rfl)) (fun _ => ?_)
           clear hK K
           (try simp only [zP, zQ, zS, zZ, zN])
           refine wpAnyH_ready (rs := [1, 6]) (by kernel_rfl) (by simp) ?_
           refine AllReadyH.cons (by simp only [List.getElem?_toArray, List.getElem?_cons_zero, List.getElem?_cons_succ]; rfl) (fun K hK => ?_) ?_
           ·as_aux_lemma =>
             refine stp (by with_unfolding_all rfl) (wp_fbsl T_strs hF71 (vs := [.string ⟨key.toArray⟩]) (by with_unfolding_all rfl) (by with_unfolding_all rfl) (by with_unfolding_all rfl) (by decide) (by simp [Value.cells]) ?_)
             intro w72 g72 hF72 hz72
             refine hK.out _ _ ((hF72.blk (i := 2) rfl)) (fun _ => ?_)
             clear hK K
             (try simp only [zP, zQ, zS, zZ, zN])
             refine wpAnyH_ready (rs := [4, 6]) (by kernel_rfl) (by simp) ?_
             refine AllReadyH.cons (by simp only [List.getElem?_toArray, List.getElem?_cons_zero, List.getElem?_cons_succ]; rfl) (fun K hK => ?_) ?_
             ·refine stp (by with_unfolding_all rfl) (wp_fappG T_strs hF72 (i := 0) rfl (Nat.le_refl _) (hF72.rdOwn (i := 4) rfl) (nmL_one M) (by with_unfolding_all exact ⟨_, _, rfl, rfl, rfl⟩) (by unfold maxLen; omega) (by omega) ?_)
              intro v73 w73 hF73 hz73
              (try simp only [zZ, zN] at hF73)
              obtain ⟨A73, c73, rfl, hc73⟩ := hF73.ownParts (i := 0) rfl
              refine hK.out _ _ ((hF73.blk (i := 2) rfl)) (fun _ => ?_)
              clear hK K
              (try simp only [zP, zQ, zS, zZ, zN])
              refine rdy1 6 (fun K hK => ?_)
              refine stp (by with_unfolding_all rfl) (wp_fbs1 T_rvals hF73 (by with_unfolding_all rfl) (ds := vl0) (by with_unfolding_all rfl) rfl (by decide) ?_)
              intro w74 g74 hF74 hz74
              refine hK.out _ _ ((hF74.blk (i := 3) rfl)) (fun _ => ?_)
              clear hK K
              (try simp only [zP, zQ, zS, zZ, zN])
              refine rdy1 9 (fun K hK => ?_)
              refine stp (by with_unfolding_all rfl) (wp_fappG T_rvals hF74 (i := 0) rfl (Nat.le_refl _) (hF74.rdOwn (i := 6) rfl) hyso.out (by with_unfolding_all exact ⟨_, _, rfl, rfl, rfl⟩) (by unfold maxLen; omega) (by omega) ?_)
              intro v75 w75 hF75 hz75
              (try simp only [zZ, zN] at hF75)
              obtain ⟨A75, c75, rfl, hc75⟩ := hF75.ownParts (i := 0) rfl
              refine hK.out _ _ ((hF75.blk (i := 3) rfl)) (fun _ => ?_)
              clear hK K
              (try simp only [zP, zQ, zS, zZ, zN])
              refine tky 10 (y := yi_build (cs := (vlL 6 0 ⟨#[]⟩ (.slice A73 (1 + nk) c73) (.slice A75 (1 + nk) c75))) (by with_unfolding_all rfl) uq51 (z := .agg (List.toArray vl0)) (by kernel_rfl) (pl := vlP) (by kernel_rfl) rfl (vs := [(0, .int .i64 6), (3, .slice A73 (1 + nk) c73), (4, .slice A75 (1 + nk) c75)]) (by with_unfolding_all rfl) (by with_unfolding_all rfl)) (s := (hF75.blk (i := 3) rfl)) (h := ?_)
              (try simp only [zP, zQ, zS, zZ, zN])
              refine rdy1 12 (fun K hK => ?_)
              refine stp (by with_unfolding_all rfl) (wp_fstA hF75 (i := 2) rfl (ds := (vlL 6 0 ⟨#[]⟩ (.slice A73 (1 + nk) c73) (.slice A75 (1 + nk) c75))) (by with_unfolding_all exact ⟨_, _, rfl, rfl, rfl⟩) (by rw [vlL_len]; kernel_rfl) vlL_one vlL_fit ?_)
              intro w76 hF76 hz76
              (try simp only [zZ, zN] at hF76)
              rw [(vlL_spl (k' := 6) : spl vl0 0 (vlL 6 0 ⟨#[]⟩ (.slice A73 (1 + nk) c73) (.slice A75 (1 + nk) c75)) = (vlL 6 0 ⟨#[]⟩ (.slice A73 (1 + nk) c73) (.slice A75 (1 + nk) c75)))] at hF76
              refine hK.out _ _ ((hF76.blk (i := 3) rfl)) (fun _ => ?_)
              clear hK K
              (try simp only [zP, zQ, zS, zZ, zN])
              refine wpAnyH_done (by kernel_rfl) ?_ _
              go_wp2_with fail
              go_meet
              have hn24 := hF76.rdOwn (i := 1) rfl
              have hk24 := hF76.rdOwn (i := 0) rfl
              have hv24 := box (lacks_vrd (key := key) hlk.out hc73 hc75 hn24 hk24 (hKM.out.rdL hF76 (by intro e he; simp [he])))
              exact ⟨g71, _, _, _, _, rfl, hv24, hF76.sub (List.singleton_sublist.2 (by simp))⟩
             refine AllReadyH.cons (by simp only [List.getElem?_toArray, List.getElem?_cons_zero, List.getElem?_cons_succ]; rfl) (fun K hK => ?_) ?_
             ·refine stp (by with_unfolding_all rfl) (wp_fbs1 T_rvals hF72 (by with_unfolding_all rfl) (ds := vl0) (by with_unfolding_all rfl) rfl (by decide) ?_)
              intro w73 g73 hF73 hz73
              refine hK.out _ _ ((hF73.blk (i := 3) rfl)) (fun _ => ?_)
              clear hK K
              (try simp only [zP, zQ, zS, zZ, zN])
              refine rdy1 4 (fun K hK => ?_)
              refine stp (by with_unfolding_all rfl) (wp_fappG T_strs hF73 (i := 1) rfl (Nat.le_refl _) (hF73.rdOwn (i := 5) rfl) (nmL_one M) (by with_unfolding_all exact ⟨_, _, rfl, rfl, rfl⟩) (by unfold maxLen; omega) (by omega) ?_)
              intro v74 w74 hF74 hz74
              (try simp only [zZ, zN] at hF74)
              obtain ⟨A74, c74, rfl, hc74⟩ := hF74.ownParts (i := 1) rfl
              refine hK.out _ _ ((hF74.blk (i := 3) rfl)) (fun _ => ?_)
              clear hK K
              (try simp only [zP, zQ, zS, zZ, zN])
              refine rdy1 9 (fun K hK => ?_)
              refine stp (by with_unfolding_all rfl) (wp_fappG T_rvals hF74 (i := 0) rfl (Nat.le_refl _) (hF74.rdOwn (i := 6) rfl) hyso.out (by with_unfolding_all exact ⟨_, _, rfl, rfl, rfl⟩) (by unfold maxLen; omega) (by omega) ?_)
              intro v75 w75 hF75 hz75
              (try simp only [zZ, zN] at hF75)
              obtain ⟨A75, c75, rfl, hc75⟩ := hF75.ownParts (i := 0) rfl
              refine hK.out _ _ ((hF75.blk (i := 3) rfl)) (fun _ => ?_)
              clear hK K
              (try simp only [zP, zQ, zS, zZ, zN])
              refine tky 10 (y := yi_build (cs := (vlL 6 0 ⟨#[]⟩ (.slice A74 (1 + nk) c74) (.slice A75 (1 + nk) c75))) (by with_unfolding_all rfl) uq51 (z := .agg (List.toArray vl0)) (by kernel_rfl) (pl := vlP) (by kernel_rfl) rfl (vs := [(0, .int .i64 6), (3, .slice A74 (1 + nk) c74), (4, .slice A75 (1 + nk) c75)]) (by with_unfolding_all rfl) (by with_unfolding_all rfl)) (s := (hF75.blk (i := 3) rfl)) (h := ?_)
              (try simp only [zP, zQ, zS, zZ, zN])
              refine rdy1 12 (fun K hK => ?_)
              refine stp (by with_unfolding_all rfl) (wp_fstA hF75 (i := 2) rfl (ds := (vlL 6 0 ⟨#[]⟩ (.slice A74 (1 + nk) c74) (.slice A75 (1 + nk) c75))) (by with_unfolding_all exact ⟨_, _, rfl, rfl, rfl⟩) (by rw [vlL_len]; kernel_rfl) vlL_one vlL_fit ?_)
              intro w76 hF76 hz76
              (try simp only [zZ, zN] at hF76)
              rw [(vlL_spl (k' := 6) : spl vl0 0 (vlL 6 0 ⟨#[]⟩ (.slice A74 (1 + nk) c74) (.slice A75 (1 + nk) c75)) = (vlL 6 0 ⟨#[]⟩ (.slice A74 (1 + nk) c74) (.slice A75 (1 + nk) c75)))] at hF76
              refine hK.out _ _ ((hF76.blk (i := 3) rfl)) (fun _ => ?_)
              clear hK K
              (try simp only [zP, zQ, zS, zZ, zN])
              refine wpAnyH_done (by kernel_rfl) ?_ _
              go_wp2_with fail
              go_meet
              have hn24 := hF76.rdOwn (i := 1) rfl
              have hk24 := hF76.rdOwn (i := 0) rfl
              have hv24 := box (lacks_vrd (key := key) hlk.out hc74 hc75 hn24 hk24 (hKM.out.rdL hF76 (by intro e he; simp [he])))
              exact ⟨g71, _, _, _, _, rfl, hv24, hF76.sub (List.singleton_sublist.2 (by simp))⟩
             exact AllReadyH.nil
           refine AllReadyH.cons (by simp only [List.getElem?_toArray, List.getElem?_cons_zero, List.getElem?_cons_succ]; rfl) (fun K hK => ?_) ?_
           ·as_aux_lemma =>
             refine stp (by with_unfolding_all rfl) (wp_fbs1 T_rvals hF71 (by with_unfolding_all rfl) (ds := vl0) (by with_unfolding_all rfl) rfl (by decide) ?_)
             intro w72 g72 hF72 hz72
             refine hK.out _ _ ((hF72.blk (i := 2) rfl)) (fun _ => ?_)
             clear hK K
             (try simp only [zP, zQ, zS, zZ, zN])
             refine rdy1 1 (fun K hK => ?_)
             refine stp (by with_unfolding_all rfl) (wp_fbsl T_strs hF72 (vs := [.string ⟨key.toArray⟩]) (by with_unfolding_all rfl) (by with_unfolding_all rfl) (by with_unfolding_all rfl) (by decide) (by simp [Value.cells]) ?_)
             intro w73 g73 hF73 hz73
             refine hK.out _ _ ((hF73.blk (i := 3) rfl)) (fun _ => ?_)
             clear hK K
             (try simp only [zP, zQ, zS, zZ, zN])
             refine rdy1 4 (fun K hK => ?_)
             refine stp (by with_unfolding_all rfl) (wp_fappG T_strs hF73 (i := 0) rfl (Nat.le_refl _) (hF73.rdOwn (i := 5) rfl) (nmL_one M) (by with_unfolding_all exact ⟨_, _, rfl, rfl, rfl⟩) (by unfold maxLen; omega) (by omega) ?_)
             intro v74 w74 hF74 hz74
             (try simp only [zZ, zN] at hF74)
             obtain ⟨A74, c74, rfl, hc74⟩ := hF74.ownParts (i := 0) rfl
             refine hK.out _ _ ((hF74.blk (i := 3) rfl)) (fun _ => ?_)
             clear hK K
             (try simp only [zP, zQ, zS, zZ, zN])
             refine rdy1 9 (fun K hK => ?_)
             refine stp (by with_unfolding_all rfl) (wp_fappG T_rvals hF74 (i := 1) rfl (Nat.le_refl _) (hF74.rdOwn (i := 6) rfl) hyso.out (by with_unfolding_all exact ⟨_, _, rfl, rfl, rfl⟩) (by unfold maxLen; omega) (by omega) ?_)
             intro v75 w75 hF75 hz75
             (try simp only [zZ, zN] at hF75)
             obtain ⟨A75, c75, rfl, hc75⟩ := hF75.ownParts (i := 1) rfl
             refine hK.out _ _ ((hF75.blk (i := 3) rfl)) (fun _ => ?_)
             clear hK K
             (try simp only [zP, zQ, zS, zZ, zN])
             refine tky 10 (y := yi_build (cs := (vlL 6 0 ⟨#[]⟩ (.slice A74 (1 + nk) c74) (.slice A75 (1 + nk) c75))) (by with_unfolding_all rfl) uq51 (z := .agg (List.toArray vl0)) (by kernel_rfl) (pl := vlP) (by kernel_rfl) rfl (vs := [(0, .int .i64 6), (3, .slice A74 (1 + nk) c74), (4, .slice A75 (1 + nk) c75)]) (by with_unfolding_all rfl) (by with_unfolding_all rfl)) (s := (hF75.blk (i := 3) rfl)) (h := ?_)
             (try simp only [zP, zQ, zS, zZ, zN])
             refine rdy1 12 (fun K hK => ?_)
             refine stp (by with_unfolding_all rfl) (wp_fstA hF75 (i := 2) rfl (ds := (vlL 6 0 ⟨#[]⟩ (.slice A74 (1 + nk) c74) (.slice A75 (1 + nk) c75))) (by with_unfolding_all exact ⟨_, _, rfl, rfl, rfl⟩) (by rw [vlL_len]; kernel_rfl) vlL_one vlL_fit ?_)
             intro w76 hF76 hz76
             (try simp only [zZ, zN] at hF76)
             rw [(vlL_spl (k' := 6) : spl vl0 0 (vlL 6 0 ⟨#[]⟩ (.slice A74 (1 + nk) c74) (.slice A75 (1 + nk) c75)) = (vlL 6 0 ⟨#[]⟩ (.slice A74 (1 + nk) c74) (.slice A75 (1 + nk) c75)))] at hF76
             refine hK.out _ _ ((hF76.blk (i := 3) rfl)) (fun _ => ?_)
             clear hK K
             (try simp only [zP, zQ, zS, zZ, zN])
             refine wpAnyH_done (by kernel_rfl) ?_ _
             go_wp2_with fail
             go_meet
             have hn24 := hF76.rdOwn (i := 0) rfl
             have hk24 := hF76.rdOwn (i := 1) rfl
             have hv24 := box (lacks_vrd (key := key) hlk.out hc74 hc75 hn24 hk24 (hKM.out.rdL hF76 (by intro e he; simp [he])))
             exact ⟨g71, _, _, _, _, rfl, hv24, hF76.sub (List.singleton_sublist.2 (by simp))⟩
           exact AllReadyH.nil
         exact AllReadyH.nil
        case rest =>
         obtain ⟨g, A2, c2, B2, d2, rfl, hvr2, hF⟩ := hcut
         clear hF20
         have hW := hwM.out
         have hwr := box (rwrite_any _ _ wc hvr2.out hW.sm hW.tx hW.tot hW.fl)
         obtain ⟨⟨l2, f2⟩, hR2⟩ : ∃ R, R = jWrite (jO ((key, .null) :: M)) := ⟨_, rfl⟩
         rw [← hR2] at hwr
         simp only [] at hwr
         have hln2 : l2.length ≤ 65536 := jWrite_lenL hR2.symm
         obtain ⟨P2, hP2'⟩ : ∃ P, P = mParse l2 := ⟨_, rfl⟩
         obtain ⟨pc2, hpc2'⟩ : ∃ pc, pc = mCode P2 := ⟨_, rfl⟩
         have hpc2 : f2 = 0 → pc2 = 80 := fun h => by
          subst h
          rw [hpc2', hP2']
          exact hmm.out hnot.out l2 hR2.symm
         have hpp := box (hps.out l2)
         rw [← hP2'] at hpp
         replace hP2' := box hP2'
         have hpcb2 := box hpc2'
         replace hpc2 := box hpc2
         replace hR2 := box hR2
         clear hW hvr2 hpc2'
         go_wp2_with (first | (with_reducible refine lsx (wp_fldA0 hF uq51 rfl (by with_unfolding_all exact ⟨_, rfl, rfl⟩) (ds := (vlL 6 0 ⟨#[]⟩ (.slice A2 (1 + nk) c2) (.slice B2 (1 + nk) d2))) (by rw [vlL_len]; kernel_rfl) (take_all _) ?_)))
         refine hwr.out.mono ?_
         rintro e w70 ⟨rfl, hb70⟩
         have hF70 := hF.call hb70
         clear hwr hF
         go_wp2_with (first | ((with_reducible refine lsx (wp_fs2b T_u8 uq5 uq9 hF70 (by with_unfolding_all exact ⟨_, rfl, rfl⟩) ?_)); intro w80 g80 c80 hF80 hz80 hc80))
         (try rw [str_mk_size] at hc80)
         (try rw [str_mk_size] at hF80)
         refine (hpp.out (some ⟨g80, 0, none⟩) l2.length c80 w80 hF80.below hc80 (by omega) (hF80.rd (i := 0) rfl)).mono ?_
         rintro e w90 ⟨cs90, es90, rfl, hD90, h90⟩
         rw [← hpcb2.out]
         have hF90 := hF80.joinR h90
         clear hpp h90 hF80 hF70 hD90
         by_cases hf2 : f2 = 0
         ·subst hf2
          have hq2 := hpc2.out rfl
          subst hq2
          go_wp2_with fail
          go_ret
          exact ⟨rfl, hF90.below⟩
         ·have hne2 : ((f2 : Int) != 0) = true := by rw [bne_iff_ne]; omega
          replace hf2 := box hf2
          go_wp2_with fail
          go_ret
          exact ⟨rfl, hF90.below⟩
 ·rw [decide_eq_false hr] at hri
  replace hr := box hr
  clear hdig hwD hsm hD
  go_enter Tryz.func6, Tryz.ntmps6
  go_wp2_with (first | ((with_reducible refine lsx (wp_fbox hF0 (cs := cs) rfl (by with_unfolding_all rfl) (by with_unfolding_all rfl) ?_)); intro w1 g1 hF1 hz1))
  refine (haw.out _ hF1.below).mono ?_
  rintro e w2 ⟨rfl, hb2⟩
  have hF2 := hF1.call hb2
  clear hF0 hF1
  go_wp2_with (first | (with_reducible refine lsx (wp_fldA0 hF2 uq40 rfl (by with_unfolding_all exact ⟨_, rfl, rfl⟩) (ds := cs) (by rw [hcl.out]; kernel_rfl) (take_all _) ?_)))
  refine (hri.out _ hF2.below).mono ?_
  rintro e w3 ⟨rfl, hb3⟩
  have hF3 := hF2.call hb3
  clear hF2 hri
  go_wp2_with fail
  refine (haw.out _ hF3.below).mono ?_
  rintro e w4 ⟨rfl, hb4⟩
  have hF4 := hF3.call hb4
  go_wp2_with fail
  go_ret
  exact ⟨rfl, hF4.below⟩
end Go.Proofs.YtlhicfpmlncomaaGreatDoor
