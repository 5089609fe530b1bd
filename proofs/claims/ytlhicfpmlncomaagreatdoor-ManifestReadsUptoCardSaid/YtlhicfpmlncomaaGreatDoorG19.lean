/-
 Layer 6: the document's reader: a list, an object.
-/
import Derived.Test.YtlhicfpmlncomaaGreatDoorG18
import Derived.Test.YtlhicfpmlncomaaGreatDoorG02
import Derived.Test.YtlhicfpmlncomaaGreatDoorG07
namespace Go.Proofs.YtlhicfpmlncomaaGreatDoor
open Go.RowKit
set_option linter.unusedSimpArgs false
set_option linter.unusedVariables false
theorem jb_assoc {α β γ : Type} (r : JR α) (k : α → JR β) (l : β → JR γ) : jb (jb r k) l = jb r fun a => jb (k a) l := by cases r <;> rfl
theorem jManyL_6' (b : List UInt8) (fin : UInt8) (val : Nat → Nat → JR (JV × Nat × Nat)) (f p m : Nat) (names : List (List UInt8)) (kids : List JV) : jManyL b 6 fin val (f + 1) p m names kids =
  jb (jText b p) fun x => jb (if x.1 ∈ names then (.error (p, 7) : JR Unit) else .ok ()) fun _ => jb (jWord b [58] (jBlanks b x.2)) fun r => jC b 6 fin val f (jBlanks b r) m (names ++ [x.1]) kids := by
 rw [jManyL_6, jName_jb, jb_assoc]
 cases jText b p with
 | error x => rfl
 | ok x =>
  show jb (jb (if x.1 ∈ names then (.error (p, 7) : JR Unit) else .ok ()) (fun _ => jb (jWord b [58] (jBlanks b x.2)) fun r => .ok (x.1, jBlanks b r))) (fun y => jC b 6 fin val f y.2 m (names ++ [y.1]) kids) = jb (if x.1 ∈ names then (.error (p, 7) : JR Unit) else .ok ()) (fun _ => jb (jWord b [58] (jBlanks b x.2)) fun r => jC b 6 fin val f (jBlanks b r) m (names ++ [x.1]) kids)
  by_cases h : x.1 ∈ names
  ·rw [if_pos h]; rfl
  ·rw [if_neg h]
   show jb (jb (jWord b [58] (jBlanks b x.2)) fun r => (.ok (x.1, jBlanks b r) : JR (List UInt8 × Nat))) (fun y => jC b 6 fin val f y.2 m (names ++ [y.1]) kids) = jb (jWord b [58] (jBlanks b x.2)) fun r => jC b 6 fin val f (jBlanks b r) m (names ++ [x.1]) kids
   rw [jb_assoc]
   rfl
/-- A name is met again. -/
theorem nm_hit {f wh f' wh' f2 wh2 p : Nat} {P : Prop} [Decidable P] (h : JS (jr f wh (if P then (.error (p, 7) : JR Unit) else .ok ())) f' wh' (.ok ())) (hf : f2 ≠ 0) (h2 : ∀ α, (jr f' wh' (.error (p, 7)) : JR α) = .error (wh2, f2)) : JS (jr f wh (.error (p, 7) : JR Unit)) f2 wh2 (.ok ()) := by
 have h2 := h2 Unit
 refine .inr ⟨hf, ?_⟩
 by_cases hf0 : f = 0
 ·subst hf0
  rw [jr_ok] at h ⊢
  rcases h with ⟨rfl, rfl, _⟩ | ⟨hf', he⟩
  ·rw [jr_ok] at h2; exact h2
  ·rw [jr_bad hf'] at h2
   split at he
   ·rw [he]; exact h2
   ·cases he
 ·rw [jr_bad hf0] at h ⊢
  rcases h with ⟨rfl, rfl, he⟩ | ⟨hf', he⟩
  ·cases he
  ·rw [jr_bad hf'] at h2
   rw [he]; exact h2
/-- Where the reading of a list or an object stands. -/
def MI (J : JR (JV × Nat × Nat)) (b : List UInt8) (kind : Int) (fin : UInt8) (d n p f wh m fu nn nk : Nat) (mb : Bool) (names : List (List UInt8)) (kids : List JV) : Prop :=
 (0 = f ∧ 0 = wh ∧ p ≤ n ∧ m ≤ 4096 ∧ nk ≤ m ∧ nn ≤ nk ∧ n + 1 ≤ fu + p ∧ J = mK b kind fin (jValue b d) mb fu p m names kids ∧ (mb = false → names = [] ∧ kids = [])) ∨ (f ≠ 0 ∧ J = .error (wh, f))
def mM (f fu : Nat) : Nat := if f = 0 then fu + 1 else 0
theorem mM_lt {f fu : Nat} : mM f fu < fu + 1 + 1 := by unfold mM; split <;> omega
/-- What stands behind a list or an object. -/
theorem many_end {w w' : World} {g g1 g2 b1 b2 : Nat} {t1 t2 t3 t4 t5 : TypeId} {An Ak : Option Addr} {nn cn nk ck : Nat} {ns c2 rc xs c5 : List Value} {TE : List Ent}
  (hF : Fr [g] w w' (.own b1 t1 1 (.slice An nn cn) nn ns :: .blk g2 t2 c2 :: .blk g t3 rc :: .own b2 t4 5 (.slice Ak nk ck) nk xs :: .blk g1 t5 c5 :: TE)) : Fr [g] w w' (.blk g t3 rc :: .rd An 1 nn ns :: .rd Ak 5 nk xs :: TE) := by
 have h12 := hF.toRd (i := 0) rfl
 simp only [List.set_cons_zero] at h12
 have h13 := h12.toRd (i := 3) rfl
 simp only [List.set_cons_succ, List.set_cons_zero] at h13
 refine (h13.sub (es' := .rd An 1 nn ns :: .blk g t3 rc :: .rd Ak 5 nk xs :: TE) ?_).perm (List.Perm.swap _ _ _)
 exact (((((List.Sublist.refl _).cons _).cons_cons _).cons_cons _).cons _).cons_cons _
set_option maxRecDepth 20000 in
set_option maxHeartbeats 6400000 in
theorem rmany_deep5 (g : Nat) (A : Option Addr) (n c p m : Nat) (b : List UInt8) (w : World) (hh : w.heap[g]? = some (.cells (rrL A n c p 0 0 m).toArray 146 (0, 0))) :
  Calls Tryz.prog 103 #[.pointer (some ⟨g, 0, none⟩), .int .i64 5, .int .i64 93, .int .i64 16] w (RVal w g A n c (jMany b 5 93 none p m)) := by
 have hF0 := Fr.one hh
 clear hh
 go_enter Tryz.func103, Tryz.ntmps103
 go_wp2_with (first | ((with_reducible refine lst (by with_unfolding_all rfl) (wp_falloc hF0 (cs := vl0) (z := .agg (List.toArray (vl0))) rfl (by kernel_rfl) (by with_unfolding_all rfl) ?_)); intro w1 g1 hF1 hz1) | (with_reducible refine lst (by with_unfolding_all rfl) (wp_fbuild Tryz.underlying51 (z := .agg (List.toArray vl0)) (by kernel_rfl) (pl := vlP) (by kernel_rfl) (cs := (vlL 5 0 ⟨#[]⟩ (.slice none 0 0) (.slice none 0 0))) rfl (vs := [(0, .int .i64 5)]) (by with_unfolding_all rfl) (by with_unfolding_all rfl) ?_)) | ((with_reducible refine lst (by with_unfolding_all rfl) (wp_falloc hF1 (cs := vl0) (z := .agg (List.toArray (vl0))) rfl (by kernel_rfl) (by with_unfolding_all rfl) ?_)); intro w2 g2 hF2 hz2) | ((with_reducible refine lst (by with_unfolding_all rfl) (wp_fstA0 hF2 (by with_unfolding_all exact ⟨_, _, rfl, rfl, rfl⟩) (by rw [vlL_len]; kernel_rfl) vlL_one vlL_fit vlL_spl ?_)); intro w3 hF3 hz3) | (with_reducible refine lst (by with_unfolding_all rfl) (wp_fld2 hF3 Tryz.underlying3 rfl (by with_unfolding_all exact ⟨_, rfl, rfl⟩) rfl ?_)))
 refine (rfail_ok g A n c p m (p, 64) _ (hF3.blk (i := 2) rfl)).mono ?_
 rintro e w4 ⟨rfl, h4⟩
 have hF4 := hF3.putF (i := 2) rfl h4
 simp only [List.set_cons_succ, List.set_cons_zero] at hF4
 go_wp2_with (first | (with_reducible refine lst (by with_unfolding_all rfl) (wp_fldA0 hF4 Tryz.underlying51 rfl (by with_unfolding_all exact ⟨_, rfl, rfl⟩) (ds := (vlL 5 0 ⟨#[]⟩ (.slice none 0 0) (.slice none 0 0))) (by rw [vlL_len]; kernel_rfl) (take_all _) ?_)) | ((with_reducible refine lst (by with_unfolding_all rfl) (wp_fstA1 hF4 (by with_unfolding_all exact ⟨_, _, rfl, rfl, rfl⟩) (by rw [vlL_len]; kernel_rfl) vlL_one vlL_fit vlL_spl ?_)); intro w5 hF5 hz5))
 exact bodyPost_ret (results_cellF rfl _ hF5 (i := 1) rfl rfl Tryz.underlying51 rfl (by rw [vlL_len]; kernel_rfl)) rfl (RVal.of VT.leaf (((hF5.tail.tail.pushNone 5).pushNone 1).picks [2, 0, 1] rfl (by decide)) (.inr ⟨by decide, rfl⟩))
set_option maxRecDepth 20000 in
set_option maxHeartbeats 25600000 in
theorem rmany_5 (d deep : Nat) (hV : RValueOk d (deep + 1)) (hdp : deep < 16) (g : Nat) (A : Option Addr) (n c p m B : Nat) (b : List UInt8) (w : World) (hh : w.heap[g]? = some (.cells (rrL A n c p 0 0 m).toArray 146 (0, 0))) (hg : B ≤ g) (hB : B ≤ w.heap.size) (hn : n ≤ 65536) (hnc : n ≤ c) (hp : p < n) (hm : m ≤ 4096) (hr : Rd w (· < B) A 1 n (b.map bv)) :
  Calls Tryz.prog 103 #[.pointer (some ⟨g, 0, none⟩), .int .i64 5, .int .i64 93, .int .i64 (deep : Int)] w (RVal w g A n c (jMany b 5 93 (some (jValue b d)) p m)) := by
 have hl := box hr.bytes_len
 have hF0 := Fr.one hh
 have hd16 : ((deep : Int) == 16) = false := by rw [beq_eq_false_iff_ne]; omega
 have hp1 : jBlanks b (p + 1) ≤ n := by have := jBlanks_le b (p := p + 1) (by rw [hl.out]; exact hp); rw [hl.out] at this; exact this
 obtain ⟨J, hJ0⟩ : ∃ J, J = jMany b 5 93 (some (jValue b d)) p m := ⟨_, rfl⟩
 rw [← hJ0]
 have hJ : Box (J = mK b 5 93 (jValue b d) false (n - p) (jBlanks b (p + 1)) m [] []) := box (by rw [hJ0, jMany_mK, hl.out, show n + 1 - (p + 1) = n - p by omega])
 clear hh hJ0
 go_enter Tryz.func103, Tryz.ntmps103
 go_wp2_with (first | ((with_reducible refine lst (by with_unfolding_all rfl) (wp_falloc hF0 (cs := vl0) (z := .agg (List.toArray (vl0))) rfl (by kernel_rfl) (by with_unfolding_all rfl) ?_)); intro w1 g1 hF1 hz1) | (with_reducible refine lst (by with_unfolding_all rfl) (wp_fbuild Tryz.underlying51 (z := .agg (List.toArray vl0)) (by kernel_rfl) (pl := vlP) (by kernel_rfl) (cs := (vlL 5 0 ⟨#[]⟩ (.slice none 0 0) (.slice none 0 0))) rfl (vs := [(0, .int .i64 5)]) (by with_unfolding_all rfl) (by with_unfolding_all rfl) ?_)) | ((with_reducible refine lst (by with_unfolding_all rfl) (wp_falloc hF1 (cs := vl0) (z := .agg (List.toArray (vl0))) rfl (by kernel_rfl) (by with_unfolding_all rfl) ?_)); intro w2 g2 hF2 hz2) | ((with_reducible refine lst (by with_unfolding_all rfl) (wp_fstA0 hF2 (by with_unfolding_all exact ⟨_, _, rfl, rfl, rfl⟩) (by rw [vlL_len]; kernel_rfl) vlL_one vlL_fit vlL_spl ?_)); intro w3 hF3 hz3) | (with_reducible refine lst (by with_unfolding_all rfl) (wp_fld2 hF3 Tryz.underlying3 rfl (by with_unfolding_all exact ⟨_, rfl, rfl⟩) rfl ?_)) | ((with_reducible refine lst (by with_unfolding_all rfl) (wp_fst2 hF3 (by with_unfolding_all exact ⟨_, _, rfl, rfl, rfl⟩) (by kernel_rfl) rfl rfl (by rw [rrL_len]; decide) (rrL_at (v := (p : Int) + 1) (q := p + 1) (by omega)) ?_)); intro w4 hF4 hz4))
 clear hF0 hF1 hF2 hF3
 refine (rblanks_ok g A n c (p + 1) 0 m B b w4 (hF4.blk (i := 2) rfl) hg (Nat.le_trans hB hF4.size) (by omega) hp (hF4.rdB hg hB hr)).mono ?_
 rintro e w5 ⟨rfl, h5⟩
 have hF5 := hF4.putF (i := 2) rfl h5
 simp only [List.set_cons_succ, List.set_cons_zero] at hF5
 have hF6 := ((hF5.none_ w.heap.size 51 5).none_ w.heap.size 9 1).picks [0, 2, 4, 1, 3] (fs := (.own w.heap.size 9 1 (.slice none 0 0) 0 ((([] : List (List UInt8))).map strv) :: .blk g2 51 (vlL 5 0 ⟨#[]⟩ (.slice none 0 0) (.slice none 0 0)) :: .blk g 146 (rrL A n c (jBlanks b (p + 1)) 0 0 m) :: .own w.heap.size 51 5 (.slice none 0 0) 0 [] :: .blk g1 51 vl0 :: [])) rfl (by decide)
 clear h5 hF4 hF5
 go_wp2_with fail
 go_loopg [10] (mM 0 (n - p)) (fun k mv wr => ∃ (names : List (List UInt8)) (kids : List JV) (p' f wh m' fu : Nat) (mb : Bool) (An : Option Addr) (nn cn : Nat) (Ak : Option Addr) (nk ck : Nat) (xs : List Value) (TE : List Ent),
  mv = .bool mb ∧ nn ≤ 5000 ∧ nk ≤ 5000 ∧ nn ≤ cn ∧ nk ≤ ck ∧ Box (k = mM f fu) ∧ Box (names.length = nn) ∧ Box (VTL kids xs TE) ∧ Box (MI J b 5 93 d n p' f wh m' fu nn nk mb names kids) ∧
  Fr [g] w wr (.own w.heap.size 9 1 (.slice An nn cn) nn ((names).map strv) :: .blk g2 51 (vlL 5 0 ⟨#[]⟩ (.slice An nn cn) (.slice Ak nk ck)) :: .blk g 146 (rrL A n c p' f wh m') :: .own w.heap.size 51 5 (.slice Ak nk ck) nk xs :: .blk g1 51 vl0 :: TE))
 case atStart => exact ⟨[], [], jBlanks b (p + 1), 0, 0, m, n - p, false, none, 0, 0, none, 0, 0, [], [], rfl, by omega, by omega, by omega, by omega, box rfl, box rfl, box VTL.nil, box (.inl ⟨rfl, rfl, hp1, hm, by omega, by omega, by have := jBlanks_ge b (p + 1); omega, hJ.out, fun _ => ⟨rfl, rfl⟩⟩), hF6⟩
 case round =>
  clear hF6 hJ
  obtain ⟨names, kids, p', f, wh, m', fu, mb, An, nn, cn, Ak, nk, ck, xs, TE, rfl, hnn, hnk, hcn, hck, hk, hnl, hT, hI, hF⟩ := hrel
  rcases hI.out with ⟨rfl, rfl, hpn, hmm, hkm, hnk2, hfu, hJ, hmb⟩ | ⟨hf, hJ⟩
  rotate_left
  ·have hf0 : ((f : Int) == 0) = false := by rw [beq_eq_false_iff_ne]; omega
   replace hf := box hf
   replace hJ := box hJ
   go_wp2_with (first | (with_reducible refine lst (by with_unfolding_all rfl) (wp_fld2 hF Tryz.underlying3 rfl (by with_unfolding_all exact ⟨_, rfl, rfl⟩) rfl ?_)) | (with_reducible refine lst (by with_unfolding_all rfl) (wp_fldA1 hF Tryz.underlying51 rfl (by with_unfolding_all exact ⟨_, rfl, rfl⟩) (ds := (vlL 5 0 ⟨#[]⟩ (.slice An nn cn) (.slice Ak nk ck))) (by rw [vlL_len]; kernel_rfl) (take_all _) ?_)) | ((with_reducible refine lst (by with_unfolding_all rfl) (wp_fstA4 hF (by with_unfolding_all exact ⟨_, _, rfl, rfl, rfl⟩) (by rw [vlL_len]; kernel_rfl) vlL_one vlL_fit vlL_spl ?_)); intro w7 hF7 hz7))
   exact bodyPost_ret (results_cellF rfl _ hF7 (i := 4) rfl rfl Tryz.underlying51 rfl (by rw [vlL_len]; kernel_rfl)) rfl (RVal.of (VT.mk_ hcn hck hT.out) (many_end hF7) (.inr ⟨hf.out, hJ.out⟩))
  replace hJ := box hJ
  have hkf : Box (gk = mM 0 fu) := hk
  clear hk hI
  go_wp2_with (first | (with_reducible refine lst (by with_unfolding_all rfl) (wp_fld2 hF Tryz.underlying3 rfl (by with_unfolding_all exact ⟨_, rfl, rfl⟩) rfl ?_)))
  refine (rwant_u (fun _ => rfl) (hF.blk (i := 2) rfl) hg (Nat.le_trans hB hF.size) hn (fun _ => hpn) (hF.rdB hg hB hr)).mono ?_
  rintro e w7 ⟨y1, f1, wh1, rfl, h7, hd⟩
  have hF1 := hF.putF (i := 2) rfl h7
  simp only [List.set_cons_succ, List.set_cons_zero] at hF1
  clear h7 hF
  obtain ⟨fv, rfl⟩ : ∃ fv, fu = fv + 1 := ⟨fu - 1, by omega⟩
  have hxy : Box (∀ x : UInt8, y1 = x.toNat → y1 = 93 → x = 93) := box (fun x h1 h2 => UInt8.toNat_inj.1 (by rw [← h1, h2]; rfl))
  by_cases hy1 : y1 = 93
  ·have hq1 : ((y1 : Int) == 93) = true := by rw [hy1]; rfl
   obtain ⟨x, hx', hyx, hf1, hwh1, _⟩ := hd.resolve_right (fun h => by omega)
   obtain rfl := hxy.out x hyx hy1
   have hplt := (List.getElem?_eq_some_iff.1 hx').1
   rw [hl.out] at hplt
   cases mb with
   | false =>
    have hJe : Box (J = .ok (.mk 5 0 [] [] [], p' + 1, m')) := box (hJ.out.trans (mK_end hx'))
    obtain ⟨rfl, rfl⟩ := hmb rfl
    subst hf1 hwh1
    clear hx' hyx hd hxy hy1
    go_wp2_with (first | (with_reducible refine lst (by with_unfolding_all rfl) (wp_fld2 hF1 Tryz.underlying3 rfl (by with_unfolding_all exact ⟨_, rfl, rfl⟩) rfl ?_)) | ((with_reducible refine lst (by with_unfolding_all rfl) (wp_fst2 hF1 (by with_unfolding_all exact ⟨_, _, rfl, rfl, rfl⟩) (by kernel_rfl) rfl rfl (by rw [rrL_len]; decide) (rrL_at (v := (p' : Int) + 1) (q := p' + 1) (by omega)) ?_)); intro w8 hF8 hz8) | (with_reducible refine lst (by with_unfolding_all rfl) (wp_fldA1 hF8 Tryz.underlying51 rfl (by with_unfolding_all exact ⟨_, rfl, rfl⟩) (ds := (vlL 5 0 ⟨#[]⟩ (.slice An nn cn) (.slice Ak nk ck))) (by rw [vlL_len]; kernel_rfl) (take_all _) ?_)) | ((with_reducible refine lst (by with_unfolding_all rfl) (wp_fstA4 hF8 (by with_unfolding_all exact ⟨_, _, rfl, rfl, rfl⟩) (by rw [vlL_len]; kernel_rfl) vlL_one vlL_fit vlL_spl ?_)); intro w9 hF9 hz9))
    exact bodyPost_ret (results_cellF rfl _ hF9 (i := 4) rfl rfl Tryz.underlying51 rfl (by rw [vlL_len]; kernel_rfl)) rfl (RVal.of (VT.mk_ hcn hck hT.out) (many_end hF9) (.inl ⟨rfl, rfl, hJe.out⟩))
   | true =>
    have hJ1 : Box (JS J f1 wh1 (jManyL b 5 93 (jValue b d) (fv + 1) p' m' names kids)) := box (.inl ⟨hf1, hwh1, hJ.out.trans (mK_in hx' (.inl rfl))⟩)
    clear hx' hyx hd hxy hmb hf1 hwh1 hJ
    replace hy1 := box hy1
    obtain ⟨names2, hnm2⟩ : ∃ x, x = names := ⟨_, rfl⟩
    obtain ⟨An2, han2⟩ : ∃ x, x = An := ⟨_, rfl⟩
    obtain ⟨nn2, hnn2⟩ : ∃ x, x = nn := ⟨_, rfl⟩
    obtain ⟨cn2, hcn2'⟩ : ∃ x, x = cn := ⟨_, rfl⟩
    obtain ⟨q, hq'⟩ : ∃ x, x = p' := ⟨_, rfl⟩
    obtain ⟨m2, hm2'⟩ : ∃ x, x = m' := ⟨_, rfl⟩
    obtain ⟨f2, hf2⟩ : ∃ x, x = f1 := ⟨_, rfl⟩
    obtain ⟨wh2, hwh2⟩ : ∃ x, x = wh1 := ⟨_, rfl⟩
    have hJ2 : Box (JS J f2 wh2 (jC b 5 93 (jValue b d) fv q m2 names2 kids)) := box (by rw [hf2, hwh2, hq', hm2', hnm2, ← jManyL_5]; exact hJ1.out)
    have hF2 := hF1
    rw [← hnm2, ← han2, ← hnn2, ← hcn2', ← hq', ← hm2', ← hf2, ← hwh2] at hF2
    have hcn2 : nn2 ≤ cn2 := by omega
    have hnn5 : nn2 ≤ 4200 := by omega
    have hnl2 : Box (names2.length = nn2) := box (by rw [hnm2, hnn2]; exact hnl.out)
    have hb2 : Box (f2 = 0 → q ≤ n ∧ p' ≤ q ∧ m2 = m' ∧ nn2 ≤ nk + 1) := box (fun _ => ⟨by omega, by omega, by omega, by omega⟩)
    clear hnm2 han2 hnn2 hcn2' hq' hm2' hf2 hwh2 hF1 hJ1 hcn hnl hnn hnk2
    go_wp2_with fail
    have hd1 : ((deep : Int) + 1) = ((deep + 1 : Nat) : Int) := rfl
    have hvc := box (fun w' h1 h2 h3 => hV w' g A n c q f2 wh2 m2 B b h1 hg h2 hn hnc (fun h => hJ2.out.wh0 h) (fun h => (hb2.out h).1) (fun h => by have := hb2.out h; omega) h3)
    rw [← hd1] at hvc
    clear hd1
    have hwr : IntKind.i64.wrap ((deep : Int) + 1) = (deep : Int) + 1 := wrap64_deep hdp
    refine (hvc.out _ (hF2.blk (i := 2) rfl) (Nat.le_trans hB hF2.size) (hF2.rdB hg hB hr)).mono ?_
    rintro e w3 ⟨cs, es, v, q3, f3, wh3, m3, rfl, hvt, h3, hJv⟩
    have hF3 := hF2.putG (i := 2) rfl h3
    simp only [List.set_cons_succ, List.set_cons_zero, List.cons_append] at hF3
    have hvl := box hvt.len
    have hvo := box hvt.one
    have hT2 := box (hT.out.snoc hvt)
    have hJ3 : Box (JS J f3 wh3 _) := box (by
     have h := hJ2.out
     unfold jC at h
     exact JS.step h hJv)
    have hb3 : Box (f3 = 0 → q3 ≤ n ∧ p' < q3 ∧ m' < m3 ∧ m3 ≤ 4096 ∧ nn2 ≤ nk + 1) := box (fun h => by
     have h1 := hJv.eq h
     by_cases h2 : f2 = 0
     ·subst h2
      rw [jr_ok] at h1
      have h4 := hb2.out rfl
      have h5 := jValue_len d q m2 v q3 m3 (by omega) h1
      rw [hl.out] at h5
      exact ⟨h5.2.1, by omega, by omega, h5.2.2.2, h4.2.2.2⟩
     ·rw [jr_bad h2] at h1
      cases h1)
    clear h3 hJv hvt hvc hF2 hJ2 hb2 hT
    go_wp2_with (first | ((with_reducible refine lst (by with_unfolding_all rfl) (wp_falloc hF3 (cs := vl0) (z := .agg (List.toArray (vl0))) rfl (by kernel_rfl) (by with_unfolding_all rfl) ?_)); intro w4 g4 hF4 hz4) | ((with_reducible refine lst (by with_unfolding_all rfl) (wp_fstA0 hF4 (by with_unfolding_all exact ⟨_, _, rfl, rfl, rfl⟩) (by rw [hvl.out]; kernel_rfl) hvo.out (by rw [hvl.out, vlL_len]; decide) (spl_all (by rw [hvl.out, vlL_len])) ?_)); intro w5 hF5 hz5) | (with_reducible refine lst (by with_unfolding_all rfl) (wp_fld2 hF5 Tryz.underlying49 rfl (by with_unfolding_all exact ⟨_, rfl, rfl⟩) rfl ?_)) | (with_reducible refine lst (by with_unfolding_all rfl) (wp_fldA0 hF5 Tryz.underlying51 rfl (by with_unfolding_all exact ⟨_, rfl, rfl⟩) (ds := cs) (by rw [hvl.out]; kernel_rfl) (take_all _) ?_)) | ((with_reducible refine lst (by with_unfolding_all rfl) (wp_fbs1 T_rvals hF5 (by with_unfolding_all rfl) (ds := cs) (by with_unfolding_all rfl) hvl.out (by decide) ?_)); intro w6 g6 hF6 hz6) | ((with_reducible refine lst (by with_unfolding_all rfl) (wp_fappG T_rvals hF6 (i := 5) rfl (Nat.le_refl _) (hF6.rdOwn (i := 0) rfl) hvo.out (by with_unfolding_all exact ⟨_, _, rfl, rfl, rfl⟩) (by unfold maxLen; omega) (by omega) ?_)); intro v7 w7 hF7 hz7; simp only [List.set_cons_zero, List.set_cons_succ] at hF7; obtain ⟨A7, c7, rfl, hc7⟩ := hF7.ownParts (i := 5) rfl) | ((with_reducible refine lst (by with_unfolding_all rfl) (wp_fst3 hF7 (by with_unfolding_all exact ⟨_, _, rfl, rfl, rfl⟩) (by kernel_rfl) rfl rfl (by rw [vlL_len]; decide) (vlL_4 (k := 5) (n := 0) (t := ⟨#[]⟩) (a := .slice An2 nn2 cn2) (b' := .slice A7 (nk + 1) c7)) ?_)); intro w8 hF8 hz8))
    have hF9 := hF8.tail.tail
    clear hF3 hF4 hF5 hF6 hF7 hF8
    refine (rblanks_u (hF9.blk (i := 2) rfl) hg (Nat.le_trans hB hF9.size) hn (fun h => (hb3.out h).1) (hF9.rdB hg hB hr)).mono ?_
    rintro e w10 ⟨rfl, p5, h10, hp5⟩
    have hF10 := hF9.putF (i := 2) rfl h10
    simp only [List.set_cons_succ, List.set_cons_zero] at hF10
    have hJ4 := box (hJ3.out.congr (K' := jb (jNext b p5) fun c => if c = 93 then .ok (.mk 5 0 [] names2 (kids ++ [v]), p5 + 1, m3) else jb (jWord b [44] p5) fun t => jManyL b 5 93 (jValue b d) fv (jBlanks b t) m3 names2 (kids ++ [v])) (fun h => by rw [hp5 h]))
    have hb5 : Box (f3 = 0 → p5 ≤ n ∧ p' < p5) := box (fun h => by
     have h1 := hb3.out h
     have h2 := jBlanks_le b (p := q3) (by rw [hl.out]; exact h1.1)
     have h4 := jBlanks_ge b q3
     rw [hl.out] at h2
     rw [hp5 h]
     exact ⟨h2, by omega⟩)
    clear h10 hp5 hJ3 hF9
    go_wp2_with fail
    refine (rwant_u (fun h => hJ4.out.wh0 h) (hF10.blk (i := 2) rfl) hg (Nat.le_trans hB hF10.size) hn (fun h => (hb5.out h).1) (hF10.rdB hg hB hr)).mono ?_
    rintro e w11 ⟨y, f5, wh5, rfl, h11, hd⟩
    have hF11 := hF10.putF (i := 2) rfl h11
    simp only [List.set_cons_succ, List.set_cons_zero] at hF11
    clear h11 hF10
    by_cases hy : y = 93
    ·obtain ⟨x, hx, hyx, rfl, rfl, hJn⟩ := hd.resolve_right (fun h => by omega)
     have hxE : x = 93 := UInt8.toNat_inj.1 (by rw [← hyx, hy]; rfl)
     have hJ5 := JS.step hJ4.out hJn
     rw [if_pos hxE] at hJ5
     have hplt := (List.getElem?_eq_some_iff.1 hx).1
     rw [hl.out] at hplt
     replace hJ5 := box hJ5
     subst hy
     clear hd hx hyx hxE hJn hJ4
     go_wp2_with (first | (with_reducible refine lst (by with_unfolding_all rfl) (wp_fld2 hF11 Tryz.underlying3 rfl (by with_unfolding_all exact ⟨_, rfl, rfl⟩) rfl ?_)) | ((with_reducible refine lst (by with_unfolding_all rfl) (wp_fst2 hF11 (by with_unfolding_all exact ⟨_, _, rfl, rfl, rfl⟩) (by kernel_rfl) rfl rfl (by rw [rrL_len]; decide) (rrL_at (v := (p5 : Int) + 1) (q := p5 + 1) (by omega)) ?_)); intro w12 hF12 hz12) | (with_reducible refine lst (by with_unfolding_all rfl) (wp_fldA1 hF12 Tryz.underlying51 rfl (by with_unfolding_all exact ⟨_, rfl, rfl⟩) (ds := (vlL 5 0 ⟨#[]⟩ (.slice An2 nn2 cn2) (.slice A7 (nk + 1) c7))) (by rw [vlL_len]; kernel_rfl) (take_all _) ?_)) | ((with_reducible refine lst (by with_unfolding_all rfl) (wp_fstA4 hF12 (by with_unfolding_all exact ⟨_, _, rfl, rfl, rfl⟩) (by rw [vlL_len]; kernel_rfl) vlL_one vlL_fit vlL_spl ?_)); intro w13 hF13 hz13))
     exact bodyPost_ret (results_cellF rfl _ hF13 (i := 4) rfl rfl Tryz.underlying51 rfl (by rw [vlL_len]; kernel_rfl)) rfl (RVal.of (VT.mk_ hcn2 hc7 hT2.out) (many_end hF13) hJ5.out)
    have hq : ((y : Int) == 93) = false := by rw [beq_eq_false_iff_ne]; omega
    have hJ5 : Box (JS J f5 wh5 (jb (jWord b [44] p5) fun t => jManyL b 5 93 (jValue b d) fv (jBlanks b t) m3 names2 (kids ++ [v]))) := box (by
     rcases hd with ⟨x, hx, hyx, rfl, rfl, hJn⟩ | ⟨_, hf5, hJn⟩
     ·have h := JS.step hJ4.out hJn
      rw [if_neg (fun h => hy (by rw [hyx, h]; rfl))] at h
      exact h
     ·exact hJ4.out.bad hf5 hJn _)
    have hb6 : Box (f5 = 0 → f3 = 0) := box (fun h => by
     rcases hd with ⟨x, hx, hyx, rfl, rfl, hJn⟩ | ⟨_, hf5, hJn⟩
     ·have h1 := hJn.eq rfl
      by_cases h2 : f3 = 0
      ·exact h2
      ·rw [jr_bad h2] at h1
       cases h1
     ·exact absurd h hf5)
    replace hy := box hy
    clear hd hJ4
    go_wp2_with fail
    refine (rword_u ⟨#[44]⟩ (by decide) (fun h => hJ5.out.wh0 h) (hF11.blk (i := 2) rfl) hg (Nat.le_trans hB hF11.size) hn (fun h => (hb5.out (hb6.out h)).1) (hF11.rdB hg hB hr)).mono ?_
    rintro e w12 ⟨rfl, p6, f6, wh6, m6, h12, hJw, hm6⟩
    have hF12 := hF11.putF (i := 2) rfl h12
    simp only [List.set_cons_succ, List.set_cons_zero] at hF12
    have hJ6 := box (JS.step hJ5.out hJw)
    have hb7 : Box (f6 = 0 → f3 = 0 ∧ p6 ≤ n ∧ p' < p6 ∧ m3 = m6) := box (fun h => by
     have h1 := hJw.eq h
     by_cases h3 : f5 = 0
     ·subst h3
      rw [jr_ok] at h1
      have h4 := jWord_le h1
      have h5 := hb5.out (hb6.out rfl)
      have h6 := h4.2.resolve_left (by simp)
      rw [hl.out] at h6
      exact ⟨hb6.out rfl, h6, by omega, hm6 h⟩
     ·rw [jr_bad h3] at h1
      cases h1)
    clear h12 hJw hm6 hJ5 hF11
    go_wp2_with fail
    refine (rblanks_u (hF12.blk (i := 2) rfl) hg (Nat.le_trans hB hF12.size) hn (fun h => (hb7.out h).2.1) (hF12.rdB hg hB hr)).mono ?_
    rintro e w13 ⟨rfl, p7, h13, hp7⟩
    have hF13 := hF12.putF (i := 2) rfl h13
    simp only [List.set_cons_succ, List.set_cons_zero] at hF13
    have hI2 : Box (MI J b 5 93 d n p7 f6 wh6 m6 fv nn2 (nk + 1) true names2 (kids ++ [v])) := box (by
     by_cases h : f6 = 0
     ·have h1 := hb7.out h
      have h2 := hb3.out h1.1
      have h3 := jBlanks_le b (p := p6) (by rw [hl.out]; exact h1.2.1)
      have h4 := jBlanks_ge b p6
      rw [hl.out] at h3
      rw [← hp7 h] at h3 h4
      subst h
      obtain rfl := hJ6.out.wh0 rfl
      refine .inl ⟨rfl, rfl, h3, by omega, by omega, by omega, by omega, ?_, fun h => absurd h (by decide)⟩
      rw [hJ6.out.eq rfl, hp7 rfl, h1.2.2.2]
      rfl
     ·exact .inr ⟨h, hJ6.out.err h⟩)
    clear h13 hp7 hJ6 hF12 hb7
    go_wp2_with fail
    go_roundg (mM f6 fv)
    case rel => exact ⟨names2, kids ++ [v], p7, f6, wh6, m6, fv, true, An2, nn2, cn2, A7, nk + 1, c7, xs ++ cs, TE ++ es, rfl, by omega, by omega, hcn2, hc7, box rfl, hnl2, hT2, hI2, hF13⟩
    case measure => have := hkf.out; rw [this]; exact mM_lt
  have hq1 : ((y1 : Int) == 93) = false := by rw [beq_eq_false_iff_ne]; omega
  have hJ1 : Box (JS J f1 wh1 (jManyL b 5 93 (jValue b d) (fv + 1) p' m' names kids)) := box (by
   rcases hd with ⟨x, hx', hyx, hf1, hwh1, _⟩ | ⟨_, hf1, hn⟩
   ·exact .inl ⟨hf1, hwh1, hJ.out.trans (mK_in hx' (.inr (fun h => hy1 (by rw [hyx, h]; rfl))))⟩
   ·rw [jr_ok] at hn
    cases hx : b[p']? with
    | some x => unfold jNext at hn; rw [hx] at hn; cases hn
    | none =>
     unfold jNext at hn
     rw [hx] at hn
     injection hn with hn
     injection hn with h1 h2
     subst h1 h2
     exact .inr ⟨hf1, by rw [hJ.out, mK_none (by decide) hx]⟩)
  clear hd hxy hmb hJ
  replace hy1 := box hy1
  obtain ⟨names2, hnm2⟩ : ∃ x, x = names := ⟨_, rfl⟩
  obtain ⟨An2, han2⟩ : ∃ x, x = An := ⟨_, rfl⟩
  obtain ⟨nn2, hnn2⟩ : ∃ x, x = nn := ⟨_, rfl⟩
  obtain ⟨cn2, hcn2'⟩ : ∃ x, x = cn := ⟨_, rfl⟩
  obtain ⟨q, hq'⟩ : ∃ x, x = p' := ⟨_, rfl⟩
  obtain ⟨m2, hm2'⟩ : ∃ x, x = m' := ⟨_, rfl⟩
  obtain ⟨f2, hf2⟩ : ∃ x, x = f1 := ⟨_, rfl⟩
  obtain ⟨wh2, hwh2⟩ : ∃ x, x = wh1 := ⟨_, rfl⟩
  have hJ2 : Box (JS J f2 wh2 (jC b 5 93 (jValue b d) fv q m2 names2 kids)) := box (by rw [hf2, hwh2, hq', hm2', hnm2, ← jManyL_5]; exact hJ1.out)
  have hF2 := hF1
  rw [← hnm2, ← han2, ← hnn2, ← hcn2', ← hq', ← hm2', ← hf2, ← hwh2] at hF2
  have hcn2 : nn2 ≤ cn2 := by omega
  have hnn5 : nn2 ≤ 4200 := by omega
  have hnl2 : Box (names2.length = nn2) := box (by rw [hnm2, hnn2]; exact hnl.out)
  have hb2 : Box (f2 = 0 → q ≤ n ∧ p' ≤ q ∧ m2 = m' ∧ nn2 ≤ nk + 1) := box (fun _ => ⟨by omega, by omega, by omega, by omega⟩)
  clear hnm2 han2 hnn2 hcn2' hq' hm2' hf2 hwh2 hF1 hJ1 hcn hnl hnn hnk2
  go_wp2_with fail
  have hd1 : ((deep : Int) + 1) = ((deep + 1 : Nat) : Int) := rfl
  have hvc := box (fun w' h1 h2 h3 => hV w' g A n c q f2 wh2 m2 B b h1 hg h2 hn hnc (fun h => hJ2.out.wh0 h) (fun h => (hb2.out h).1) (fun h => by have := hb2.out h; omega) h3)
  rw [← hd1] at hvc
  clear hd1
  have hwr : IntKind.i64.wrap ((deep : Int) + 1) = (deep : Int) + 1 := wrap64_deep hdp
  refine (hvc.out _ (hF2.blk (i := 2) rfl) (Nat.le_trans hB hF2.size) (hF2.rdB hg hB hr)).mono ?_
  rintro e w3 ⟨cs, es, v, q3, f3, wh3, m3, rfl, hvt, h3, hJv⟩
  have hF3 := hF2.putG (i := 2) rfl h3
  simp only [List.set_cons_succ, List.set_cons_zero, List.cons_append] at hF3
  have hvl := box hvt.len
  have hvo := box hvt.one
  have hT2 := box (hT.out.snoc hvt)
  have hJ3 : Box (JS J f3 wh3 _) := box (by
   have h := hJ2.out
   unfold jC at h
   exact JS.step h hJv)
  have hb3 : Box (f3 = 0 → q3 ≤ n ∧ p' < q3 ∧ m' < m3 ∧ m3 ≤ 4096 ∧ nn2 ≤ nk + 1) := box (fun h => by
   have h1 := hJv.eq h
   by_cases h2 : f2 = 0
   ·subst h2
    rw [jr_ok] at h1
    have h4 := hb2.out rfl
    have h5 := jValue_len d q m2 v q3 m3 (by omega) h1
    rw [hl.out] at h5
    exact ⟨h5.2.1, by omega, by omega, h5.2.2.2, h4.2.2.2⟩
   ·rw [jr_bad h2] at h1
    cases h1)
  clear h3 hJv hvt hvc hF2 hJ2 hb2 hT
  go_wp2_with (first | ((with_reducible refine lst (by with_unfolding_all rfl) (wp_falloc hF3 (cs := vl0) (z := .agg (List.toArray (vl0))) rfl (by kernel_rfl) (by with_unfolding_all rfl) ?_)); intro w4 g4 hF4 hz4) | ((with_reducible refine lst (by with_unfolding_all rfl) (wp_fstA0 hF4 (by with_unfolding_all exact ⟨_, _, rfl, rfl, rfl⟩) (by rw [hvl.out]; kernel_rfl) hvo.out (by rw [hvl.out, vlL_len]; decide) (spl_all (by rw [hvl.out, vlL_len])) ?_)); intro w5 hF5 hz5) | (with_reducible refine lst (by with_unfolding_all rfl) (wp_fld2 hF5 Tryz.underlying49 rfl (by with_unfolding_all exact ⟨_, rfl, rfl⟩) rfl ?_)) | (with_reducible refine lst (by with_unfolding_all rfl) (wp_fldA0 hF5 Tryz.underlying51 rfl (by with_unfolding_all exact ⟨_, rfl, rfl⟩) (ds := cs) (by rw [hvl.out]; kernel_rfl) (take_all _) ?_)) | ((with_reducible refine lst (by with_unfolding_all rfl) (wp_fbs1 T_rvals hF5 (by with_unfolding_all rfl) (ds := cs) (by with_unfolding_all rfl) hvl.out (by decide) ?_)); intro w6 g6 hF6 hz6) | ((with_reducible refine lst (by with_unfolding_all rfl) (wp_fappG T_rvals hF6 (i := 5) rfl (Nat.le_refl _) (hF6.rdOwn (i := 0) rfl) hvo.out (by with_unfolding_all exact ⟨_, _, rfl, rfl, rfl⟩) (by unfold maxLen; omega) (by omega) ?_)); intro v7 w7 hF7 hz7; simp only [List.set_cons_zero, List.set_cons_succ] at hF7; obtain ⟨A7, c7, rfl, hc7⟩ := hF7.ownParts (i := 5) rfl) | ((with_reducible refine lst (by with_unfolding_all rfl) (wp_fst3 hF7 (by with_unfolding_all exact ⟨_, _, rfl, rfl, rfl⟩) (by kernel_rfl) rfl rfl (by rw [vlL_len]; decide) (vlL_4 (k := 5) (n := 0) (t := ⟨#[]⟩) (a := .slice An2 nn2 cn2) (b' := .slice A7 (nk + 1) c7)) ?_)); intro w8 hF8 hz8))
  have hF9 := hF8.tail.tail
  clear hF3 hF4 hF5 hF6 hF7 hF8
  refine (rblanks_u (hF9.blk (i := 2) rfl) hg (Nat.le_trans hB hF9.size) hn (fun h => (hb3.out h).1) (hF9.rdB hg hB hr)).mono ?_
  rintro e w10 ⟨rfl, p5, h10, hp5⟩
  have hF10 := hF9.putF (i := 2) rfl h10
  simp only [List.set_cons_succ, List.set_cons_zero] at hF10
  have hJ4 := box (hJ3.out.congr (K' := jb (jNext b p5) fun c => if c = 93 then .ok (.mk 5 0 [] names2 (kids ++ [v]), p5 + 1, m3) else jb (jWord b [44] p5) fun t => jManyL b 5 93 (jValue b d) fv (jBlanks b t) m3 names2 (kids ++ [v])) (fun h => by rw [hp5 h]))
  have hb5 : Box (f3 = 0 → p5 ≤ n ∧ p' < p5) := box (fun h => by
   have h1 := hb3.out h
   have h2 := jBlanks_le b (p := q3) (by rw [hl.out]; exact h1.1)
   have h4 := jBlanks_ge b q3
   rw [hl.out] at h2
   rw [hp5 h]
   exact ⟨h2, by omega⟩)
  clear h10 hp5 hJ3 hF9
  go_wp2_with fail
  refine (rwant_u (fun h => hJ4.out.wh0 h) (hF10.blk (i := 2) rfl) hg (Nat.le_trans hB hF10.size) hn (fun h => (hb5.out h).1) (hF10.rdB hg hB hr)).mono ?_
  rintro e w11 ⟨y, f5, wh5, rfl, h11, hd⟩
  have hF11 := hF10.putF (i := 2) rfl h11
  simp only [List.set_cons_succ, List.set_cons_zero] at hF11
  clear h11 hF10
  by_cases hy : y = 93
  ·obtain ⟨x, hx, hyx, rfl, rfl, hJn⟩ := hd.resolve_right (fun h => by omega)
   have hxE : x = 93 := UInt8.toNat_inj.1 (by rw [← hyx, hy]; rfl)
   have hJ5 := JS.step hJ4.out hJn
   rw [if_pos hxE] at hJ5
   have hplt := (List.getElem?_eq_some_iff.1 hx).1
   rw [hl.out] at hplt
   replace hJ5 := box hJ5
   subst hy
   clear hd hx hyx hxE hJn hJ4
   go_wp2_with (first | (with_reducible refine lst (by with_unfolding_all rfl) (wp_fld2 hF11 Tryz.underlying3 rfl (by with_unfolding_all exact ⟨_, rfl, rfl⟩) rfl ?_)) | ((with_reducible refine lst (by with_unfolding_all rfl) (wp_fst2 hF11 (by with_unfolding_all exact ⟨_, _, rfl, rfl, rfl⟩) (by kernel_rfl) rfl rfl (by rw [rrL_len]; decide) (rrL_at (v := (p5 : Int) + 1) (q := p5 + 1) (by omega)) ?_)); intro w12 hF12 hz12) | (with_reducible refine lst (by with_unfolding_all rfl) (wp_fldA1 hF12 Tryz.underlying51 rfl (by with_unfolding_all exact ⟨_, rfl, rfl⟩) (ds := (vlL 5 0 ⟨#[]⟩ (.slice An2 nn2 cn2) (.slice A7 (nk + 1) c7))) (by rw [vlL_len]; kernel_rfl) (take_all _) ?_)) | ((with_reducible refine lst (by with_unfolding_all rfl) (wp_fstA4 hF12 (by with_unfolding_all exact ⟨_, _, rfl, rfl, rfl⟩) (by rw [vlL_len]; kernel_rfl) vlL_one vlL_fit vlL_spl ?_)); intro w13 hF13 hz13))
   exact bodyPost_ret (results_cellF rfl _ hF13 (i := 4) rfl rfl Tryz.underlying51 rfl (by rw [vlL_len]; kernel_rfl)) rfl (RVal.of (VT.mk_ hcn2 hc7 hT2.out) (many_end hF13) hJ5.out)
  have hq : ((y : Int) == 93) = false := by rw [beq_eq_false_iff_ne]; omega
  have hJ5 : Box (JS J f5 wh5 (jb (jWord b [44] p5) fun t => jManyL b 5 93 (jValue b d) fv (jBlanks b t) m3 names2 (kids ++ [v]))) := box (by
   rcases hd with ⟨x, hx, hyx, rfl, rfl, hJn⟩ | ⟨_, hf5, hJn⟩
   ·have h := JS.step hJ4.out hJn
    rw [if_neg (fun h => hy (by rw [hyx, h]; rfl))] at h
    exact h
   ·exact hJ4.out.bad hf5 hJn _)
  have hb6 : Box (f5 = 0 → f3 = 0) := box (fun h => by
   rcases hd with ⟨x, hx, hyx, rfl, rfl, hJn⟩ | ⟨_, hf5, hJn⟩
   ·have h1 := hJn.eq rfl
    by_cases h2 : f3 = 0
    ·exact h2
    ·rw [jr_bad h2] at h1
     cases h1
   ·exact absurd h hf5)
  replace hy := box hy
  clear hd hJ4
  go_wp2_with fail
  refine (rword_u ⟨#[44]⟩ (by decide) (fun h => hJ5.out.wh0 h) (hF11.blk (i := 2) rfl) hg (Nat.le_trans hB hF11.size) hn (fun h => (hb5.out (hb6.out h)).1) (hF11.rdB hg hB hr)).mono ?_
  rintro e w12 ⟨rfl, p6, f6, wh6, m6, h12, hJw, hm6⟩
  have hF12 := hF11.putF (i := 2) rfl h12
  simp only [List.set_cons_succ, List.set_cons_zero] at hF12
  have hJ6 := box (JS.step hJ5.out hJw)
  have hb7 : Box (f6 = 0 → f3 = 0 ∧ p6 ≤ n ∧ p' < p6 ∧ m3 = m6) := box (fun h => by
   have h1 := hJw.eq h
   by_cases h3 : f5 = 0
   ·subst h3
    rw [jr_ok] at h1
    have h4 := jWord_le h1
    have h5 := hb5.out (hb6.out rfl)
    have h6 := h4.2.resolve_left (by simp)
    rw [hl.out] at h6
    exact ⟨hb6.out rfl, h6, by omega, hm6 h⟩
   ·rw [jr_bad h3] at h1
    cases h1)
  clear h12 hJw hm6 hJ5 hF11
  go_wp2_with fail
  refine (rblanks_u (hF12.blk (i := 2) rfl) hg (Nat.le_trans hB hF12.size) hn (fun h => (hb7.out h).2.1) (hF12.rdB hg hB hr)).mono ?_
  rintro e w13 ⟨rfl, p7, h13, hp7⟩
  have hF13 := hF12.putF (i := 2) rfl h13
  simp only [List.set_cons_succ, List.set_cons_zero] at hF13
  have hI2 : Box (MI J b 5 93 d n p7 f6 wh6 m6 fv nn2 (nk + 1) true names2 (kids ++ [v])) := box (by
   by_cases h : f6 = 0
   ·have h1 := hb7.out h
    have h2 := hb3.out h1.1
    have h3 := jBlanks_le b (p := p6) (by rw [hl.out]; exact h1.2.1)
    have h4 := jBlanks_ge b p6
    rw [hl.out] at h3
    rw [← hp7 h] at h3 h4
    subst h
    obtain rfl := hJ6.out.wh0 rfl
    refine .inl ⟨rfl, rfl, h3, by omega, by omega, by omega, by omega, ?_, fun h => absurd h (by decide)⟩
    rw [hJ6.out.eq rfl, hp7 rfl, h1.2.2.2]
    rfl
   ·exact .inr ⟨h, hJ6.out.err h⟩)
  clear h13 hp7 hJ6 hF12 hb7
  go_wp2_with fail
  go_roundg (mM f6 fv)
  case rel => exact ⟨names2, kids ++ [v], p7, f6, wh6, m6, fv, true, An2, nn2, cn2, A7, nk + 1, c7, xs ++ cs, TE ++ es, rfl, by omega, by omega, hcn2, hc7, box rfl, hnl2, hT2, hI2, hF13⟩
  case measure => have := hkf.out; rw [this]; exact mM_lt
set_option maxRecDepth 20000 in
set_option maxHeartbeats 6400000 in
theorem rmany_deep6 (g : Nat) (A : Option Addr) (n c p m : Nat) (b : List UInt8) (w : World) (hh : w.heap[g]? = some (.cells (rrL A n c p 0 0 m).toArray 146 (0, 0))) :
  Calls Tryz.prog 103 #[.pointer (some ⟨g, 0, none⟩), .int .i64 6, .int .i64 125, .int .i64 16] w (RVal w g A n c (jMany b 6 125 none p m)) := by
 have hF0 := Fr.one hh
 clear hh
 go_enter Tryz.func103, Tryz.ntmps103
 go_wp2_with (first | ((with_reducible refine lst (by with_unfolding_all rfl) (wp_falloc hF0 (cs := vl0) (z := .agg (List.toArray (vl0))) rfl (by kernel_rfl) (by with_unfolding_all rfl) ?_)); intro w1 g1 hF1 hz1) | (with_reducible refine lst (by with_unfolding_all rfl) (wp_fbuild Tryz.underlying51 (z := .agg (List.toArray vl0)) (by kernel_rfl) (pl := vlP) (by kernel_rfl) (cs := (vlL 6 0 ⟨#[]⟩ (.slice none 0 0) (.slice none 0 0))) rfl (vs := [(0, .int .i64 6)]) (by with_unfolding_all rfl) (by with_unfolding_all rfl) ?_)) | ((with_reducible refine lst (by with_unfolding_all rfl) (wp_falloc hF1 (cs := vl0) (z := .agg (List.toArray (vl0))) rfl (by kernel_rfl) (by with_unfolding_all rfl) ?_)); intro w2 g2 hF2 hz2) | ((with_reducible refine lst (by with_unfolding_all rfl) (wp_fstA0 hF2 (by with_unfolding_all exact ⟨_, _, rfl, rfl, rfl⟩) (by rw [vlL_len]; kernel_rfl) vlL_one vlL_fit vlL_spl ?_)); intro w3 hF3 hz3) | (with_reducible refine lst (by with_unfolding_all rfl) (wp_fld2 hF3 Tryz.underlying3 rfl (by with_unfolding_all exact ⟨_, rfl, rfl⟩) rfl ?_)))
 refine (rfail_ok g A n c p m (p, 64) _ (hF3.blk (i := 2) rfl)).mono ?_
 rintro e w4 ⟨rfl, h4⟩
 have hF4 := hF3.putF (i := 2) rfl h4
 simp only [List.set_cons_succ, List.set_cons_zero] at hF4
 go_wp2_with (first | (with_reducible refine lst (by with_unfolding_all rfl) (wp_fldA0 hF4 Tryz.underlying51 rfl (by with_unfolding_all exact ⟨_, rfl, rfl⟩) (ds := (vlL 6 0 ⟨#[]⟩ (.slice none 0 0) (.slice none 0 0))) (by rw [vlL_len]; kernel_rfl) (take_all _) ?_)) | ((with_reducible refine lst (by with_unfolding_all rfl) (wp_fstA1 hF4 (by with_unfolding_all exact ⟨_, _, rfl, rfl, rfl⟩) (by rw [vlL_len]; kernel_rfl) vlL_one vlL_fit vlL_spl ?_)); intro w5 hF5 hz5))
 exact bodyPost_ret (results_cellF rfl _ hF5 (i := 1) rfl rfl Tryz.underlying51 rfl (by rw [vlL_len]; kernel_rfl)) rfl (RVal.of VT.leaf (((hF5.tail.tail.pushNone 5).pushNone 1).picks [2, 0, 1] rfl (by decide)) (.inr ⟨by decide, rfl⟩))
set_option maxRecDepth 20000 in
set_option maxHeartbeats 25600000 in
theorem rmany_6 (d deep : Nat) (hV : RValueOk d (deep + 1)) (hdp : deep < 16) (g : Nat) (A : Option Addr) (n c p m B : Nat) (b : List UInt8) (w : World) (hh : w.heap[g]? = some (.cells (rrL A n c p 0 0 m).toArray 146 (0, 0))) (hg : B ≤ g) (hB : B ≤ w.heap.size) (hn : n ≤ 65536) (hnc : n ≤ c) (hp : p < n) (hm : m ≤ 4096) (hr : Rd w (· < B) A 1 n (b.map bv)) :
  Calls Tryz.prog 103 #[.pointer (some ⟨g, 0, none⟩), .int .i64 6, .int .i64 125, .int .i64 (deep : Int)] w (RVal w g A n c (jMany b 6 125 (some (jValue b d)) p m)) := by
 have hl := box hr.bytes_len
 have hF0 := Fr.one hh
 have hd16 : ((deep : Int) == 16) = false := by rw [beq_eq_false_iff_ne]; omega
 have hp1 : jBlanks b (p + 1) ≤ n := by have := jBlanks_le b (p := p + 1) (by rw [hl.out]; exact hp); rw [hl.out] at this; exact this
 obtain ⟨J, hJ0⟩ : ∃ J, J = jMany b 6 125 (some (jValue b d)) p m := ⟨_, rfl⟩
 rw [← hJ0]
 have hJ : Box (J = mK b 6 125 (jValue b d) false (n - p) (jBlanks b (p + 1)) m [] []) := box (by rw [hJ0, jMany_mK, hl.out, show n + 1 - (p + 1) = n - p by omega])
 clear hh hJ0
 go_enter Tryz.func103, Tryz.ntmps103
 go_wp2_with (first | ((with_reducible refine lst (by with_unfolding_all rfl) (wp_falloc hF0 (cs := vl0) (z := .agg (List.toArray (vl0))) rfl (by kernel_rfl) (by with_unfolding_all rfl) ?_)); intro w1 g1 hF1 hz1) | (with_reducible refine lst (by with_unfolding_all rfl) (wp_fbuild Tryz.underlying51 (z := .agg (List.toArray vl0)) (by kernel_rfl) (pl := vlP) (by kernel_rfl) (cs := (vlL 6 0 ⟨#[]⟩ (.slice none 0 0) (.slice none 0 0))) rfl (vs := [(0, .int .i64 6)]) (by with_unfolding_all rfl) (by with_unfolding_all rfl) ?_)) | ((with_reducible refine lst (by with_unfolding_all rfl) (wp_falloc hF1 (cs := vl0) (z := .agg (List.toArray (vl0))) rfl (by kernel_rfl) (by with_unfolding_all rfl) ?_)); intro w2 g2 hF2 hz2) | ((with_reducible refine lst (by with_unfolding_all rfl) (wp_fstA0 hF2 (by with_unfolding_all exact ⟨_, _, rfl, rfl, rfl⟩) (by rw [vlL_len]; kernel_rfl) vlL_one vlL_fit vlL_spl ?_)); intro w3 hF3 hz3) | (with_reducible refine lst (by with_unfolding_all rfl) (wp_fld2 hF3 Tryz.underlying3 rfl (by with_unfolding_all exact ⟨_, rfl, rfl⟩) rfl ?_)) | ((with_reducible refine lst (by with_unfolding_all rfl) (wp_fst2 hF3 (by with_unfolding_all exact ⟨_, _, rfl, rfl, rfl⟩) (by kernel_rfl) rfl rfl (by rw [rrL_len]; decide) (rrL_at (v := (p : Int) + 1) (q := p + 1) (by omega)) ?_)); intro w4 hF4 hz4))
 clear hF0 hF1 hF2 hF3
 refine (rblanks_ok g A n c (p + 1) 0 m B b w4 (hF4.blk (i := 2) rfl) hg (Nat.le_trans hB hF4.size) (by omega) hp (hF4.rdB hg hB hr)).mono ?_
 rintro e w5 ⟨rfl, h5⟩
 have hF5 := hF4.putF (i := 2) rfl h5
 simp only [List.set_cons_succ, List.set_cons_zero] at hF5
 have hF6 := ((hF5.none_ w.heap.size 51 5).none_ w.heap.size 9 1).picks [0, 2, 4, 1, 3] (fs := (.own w.heap.size 9 1 (.slice none 0 0) 0 ((([] : List (List UInt8))).map strv) :: .blk g2 51 (vlL 6 0 ⟨#[]⟩ (.slice none 0 0) (.slice none 0 0)) :: .blk g 146 (rrL A n c (jBlanks b (p + 1)) 0 0 m) :: .own w.heap.size 51 5 (.slice none 0 0) 0 [] :: .blk g1 51 vl0 :: [])) rfl (by decide)
 clear h5 hF4 hF5
 go_wp2_with fail
 go_loopg [10] (mM 0 (n - p)) (fun k mv wr => ∃ (names : List (List UInt8)) (kids : List JV) (p' f wh m' fu : Nat) (mb : Bool) (An : Option Addr) (nn cn : Nat) (Ak : Option Addr) (nk ck : Nat) (xs : List Value) (TE : List Ent),
  mv = .bool mb ∧ nn ≤ 5000 ∧ nk ≤ 5000 ∧ nn ≤ cn ∧ nk ≤ ck ∧ Box (k = mM f fu) ∧ Box (names.length = nn) ∧ Box (VTL kids xs TE) ∧ Box (MI J b 6 125 d n p' f wh m' fu nn nk mb names kids) ∧
  Fr [g] w wr (.own w.heap.size 9 1 (.slice An nn cn) nn ((names).map strv) :: .blk g2 51 (vlL 6 0 ⟨#[]⟩ (.slice An nn cn) (.slice Ak nk ck)) :: .blk g 146 (rrL A n c p' f wh m') :: .own w.heap.size 51 5 (.slice Ak nk ck) nk xs :: .blk g1 51 vl0 :: TE))
 case atStart => exact ⟨[], [], jBlanks b (p + 1), 0, 0, m, n - p, false, none, 0, 0, none, 0, 0, [], [], rfl, by omega, by omega, by omega, by omega, box rfl, box rfl, box VTL.nil, box (.inl ⟨rfl, rfl, hp1, hm, by omega, by omega, by have := jBlanks_ge b (p + 1); omega, hJ.out, fun _ => ⟨rfl, rfl⟩⟩), hF6⟩
 case round =>
  clear hF6 hJ
  obtain ⟨names, kids, p', f, wh, m', fu, mb, An, nn, cn, Ak, nk, ck, xs, TE, rfl, hnn, hnk, hcn, hck, hk, hnl, hT, hI, hF⟩ := hrel
  rcases hI.out with ⟨rfl, rfl, hpn, hmm, hkm, hnk2, hfu, hJ, hmb⟩ | ⟨hf, hJ⟩
  rotate_left
  ·have hf0 : ((f : Int) == 0) = false := by rw [beq_eq_false_iff_ne]; omega
   replace hf := box hf
   replace hJ := box hJ
   go_wp2_with (first | (with_reducible refine lst (by with_unfolding_all rfl) (wp_fld2 hF Tryz.underlying3 rfl (by with_unfolding_all exact ⟨_, rfl, rfl⟩) rfl ?_)) | (with_reducible refine lst (by with_unfolding_all rfl) (wp_fldA1 hF Tryz.underlying51 rfl (by with_unfolding_all exact ⟨_, rfl, rfl⟩) (ds := (vlL 6 0 ⟨#[]⟩ (.slice An nn cn) (.slice Ak nk ck))) (by rw [vlL_len]; kernel_rfl) (take_all _) ?_)) | ((with_reducible refine lst (by with_unfolding_all rfl) (wp_fstA4 hF (by with_unfolding_all exact ⟨_, _, rfl, rfl, rfl⟩) (by rw [vlL_len]; kernel_rfl) vlL_one vlL_fit vlL_spl ?_)); intro w7 hF7 hz7))
   exact bodyPost_ret (results_cellF rfl _ hF7 (i := 4) rfl rfl Tryz.underlying51 rfl (by rw [vlL_len]; kernel_rfl)) rfl (RVal.of (VT.mk_ hcn hck hT.out) (many_end hF7) (.inr ⟨hf.out, hJ.out⟩))
  replace hJ := box hJ
  have hkf : Box (gk = mM 0 fu) := hk
  clear hk hI
  go_wp2_with (first | (with_reducible refine lst (by with_unfolding_all rfl) (wp_fld2 hF Tryz.underlying3 rfl (by with_unfolding_all exact ⟨_, rfl, rfl⟩) rfl ?_)))
  refine (rwant_u (fun _ => rfl) (hF.blk (i := 2) rfl) hg (Nat.le_trans hB hF.size) hn (fun _ => hpn) (hF.rdB hg hB hr)).mono ?_
  rintro e w7 ⟨y1, f1, wh1, rfl, h7, hd⟩
  have hF1 := hF.putF (i := 2) rfl h7
  simp only [List.set_cons_succ, List.set_cons_zero] at hF1
  clear h7 hF
  obtain ⟨fv, rfl⟩ : ∃ fv, fu = fv + 1 := ⟨fu - 1, by omega⟩
  have hxy : Box (∀ x : UInt8, y1 = x.toNat → y1 = 125 → x = 125) := box (fun x h1 h2 => UInt8.toNat_inj.1 (by rw [← h1, h2]; rfl))
  by_cases hy1 : y1 = 125
  ·have hq1 : ((y1 : Int) == 125) = true := by rw [hy1]; rfl
   obtain ⟨x, hx', hyx, hf1, hwh1, _⟩ := hd.resolve_right (fun h => by omega)
   obtain rfl := hxy.out x hyx hy1
   have hplt := (List.getElem?_eq_some_iff.1 hx').1
   rw [hl.out] at hplt
   cases mb with
   | false =>
    have hJe : Box (J = .ok (.mk 6 0 [] [] [], p' + 1, m')) := box (hJ.out.trans (mK_end hx'))
    obtain ⟨rfl, rfl⟩ := hmb rfl
    subst hf1 hwh1
    clear hx' hyx hd hxy hy1
    go_wp2_with (first | (with_reducible refine lst (by with_unfolding_all rfl) (wp_fld2 hF1 Tryz.underlying3 rfl (by with_unfolding_all exact ⟨_, rfl, rfl⟩) rfl ?_)) | ((with_reducible refine lst (by with_unfolding_all rfl) (wp_fst2 hF1 (by with_unfolding_all exact ⟨_, _, rfl, rfl, rfl⟩) (by kernel_rfl) rfl rfl (by rw [rrL_len]; decide) (rrL_at (v := (p' : Int) + 1) (q := p' + 1) (by omega)) ?_)); intro w8 hF8 hz8) | (with_reducible refine lst (by with_unfolding_all rfl) (wp_fldA1 hF8 Tryz.underlying51 rfl (by with_unfolding_all exact ⟨_, rfl, rfl⟩) (ds := (vlL 6 0 ⟨#[]⟩ (.slice An nn cn) (.slice Ak nk ck))) (by rw [vlL_len]; kernel_rfl) (take_all _) ?_)) | ((with_reducible refine lst (by with_unfolding_all rfl) (wp_fstA4 hF8 (by with_unfolding_all exact ⟨_, _, rfl, rfl, rfl⟩) (by rw [vlL_len]; kernel_rfl) vlL_one vlL_fit vlL_spl ?_)); intro w9 hF9 hz9))
    exact bodyPost_ret (results_cellF rfl _ hF9 (i := 4) rfl rfl Tryz.underlying51 rfl (by rw [vlL_len]; kernel_rfl)) rfl (RVal.of (VT.mk_ hcn hck hT.out) (many_end hF9) (.inl ⟨rfl, rfl, hJe.out⟩))
   | true =>
    have hJ1 : Box (JS J f1 wh1 (jManyL b 6 125 (jValue b d) (fv + 1) p' m' names kids)) := box (.inl ⟨hf1, hwh1, hJ.out.trans (mK_in hx' (.inl rfl))⟩)
    clear hx' hyx hd hxy hmb hf1 hwh1 hJ
    replace hy1 := box hy1
    go_upto_if 67 with (first | (with_reducible refine lst (by with_unfolding_all rfl) (wp_fld2 hF1 Tryz.underlying3 rfl (by with_unfolding_all exact ⟨_, rfl, rfl⟩) rfl ?_)))
    go_cut [] (fun wx => ∃ (names2 : List (List UInt8)) (An2 : Option Addr) (nn2 cn2 q f2 wh2 m2 : Nat), nn2 ≤ cn2 ∧ nn2 ≤ 4200 ∧ Box (names2.length = nn2) ∧ Box (JS J f2 wh2 (jC b 6 125 (jValue b d) fv q m2 names2 kids)) ∧ Box (f2 = 0 → q ≤ n ∧ p' ≤ q ∧ m2 = m' ∧ nn2 ≤ nk + 1) ∧ Fr [g] w wx (.own w.heap.size 9 1 (.slice An2 nn2 cn2) nn2 ((names2).map strv) :: .blk g2 51 (vlL 6 0 ⟨#[]⟩ (.slice An2 nn2 cn2) (.slice Ak nk ck)) :: .blk g 146 (rrL A n c q f2 wh2 m2) :: .own w.heap.size 51 5 (.slice Ak nk ck) nk xs :: .blk g1 51 vl0 :: TE))
    case first =>
     by_cases hf1 : f1 = 0
     rotate_left
     ·have hq : ((f1 : Int) == 0) = false := by rw [beq_eq_false_iff_ne]; omega
      have hJe := box (hJ1.out.err hf1)
      replace hf1 := box hf1
      go_wp2_with fail
      go_meet
      exact ⟨names, An, nn, cn, p', f1, wh1, m', hcn, by omega, hnl, box (.inr ⟨hf1.out, hJe.out⟩), box (fun h => absurd h hf1.out), hF1⟩
     ·subst hf1
      have hJx := hJ1.out
      rw [jManyL_6'] at hJx
      obtain rfl := hJ1.out.wh0 rfl
      replace hJx := box hJx
      clear hJ1
      have htx := box (rtext_u (hF1.blk (i := 2) rfl) hg (Nat.le_trans hB hF1.size) hn hnc hpn (hF1.rdB hg hB hr))
      go_wp2_with (first | (with_reducible refine lst (by with_unfolding_all rfl) (wp_fld2 hF1 Tryz.underlying3 rfl (by with_unfolding_all exact ⟨_, rfl, rfl⟩) rfl ?_)))
      refine htx.out.mono ?_
      rintro e w2 ⟨s, q1, f2, wh2, m2, rfl, h2, hJt, hm2⟩
      have hF2 := hF1.putF (i := 2) rfl h2
      simp only [List.set_cons_succ, List.set_cons_zero] at hF2
      have hJ2 := box (JS.step hJx.out (by rw [jr_ok]; exact hJt))
      have hb2 : Box (f2 = 0 → q1 ≤ n ∧ p' ≤ q1 ∧ m2 = m') := box (fun h => by
       have h1 := jText_len (hJt.eq h)
       rw [hl.out] at h1
       exact ⟨h1.2, by omega, (hm2 h).symm⟩)
      clear hm2 hJt h2 htx hF1 hJx
      go_wp2_with fail
      go_loopg [14] nn (fun k iv wr => ∃ (i f3 wh3 : Nat), i ≤ nn ∧ Box (k = nn - i) ∧ iv = .int .i64 (i : Int) ∧ Box (JS (jr f2 wh2 (if s ∈ names.take i then (.error (p', 7) : JR Unit) else .ok ())) f3 wh3 (.ok ())) ∧ Fr [g] w wr (.own w.heap.size 9 1 (.slice An nn cn) nn ((names).map strv) :: .blk g2 51 (vlL 6 0 ⟨#[]⟩ (.slice An nn cn) (.slice Ak nk ck)) :: .blk g 146 (rrL A n c q1 f3 wh3 m2) :: .own w.heap.size 51 5 (.slice Ak nk ck) nk xs :: .blk g1 51 vl0 :: TE))
      case atStart => exact ⟨0, f2, wh2, by omega, box rfl, rfl, box (by
       rw [List.take_zero, if_neg (by simp)]
       by_cases h : f2 = 0
       ·subst h; obtain rfl := hJ2.out.wh0 rfl; exact .inl ⟨rfl, rfl, jr_ok⟩
       ·exact .inr ⟨h, jr_bad h⟩), hF2⟩
      case round =>
       clear hF2
       obtain ⟨i, f3, wh3, hi, hki, rfl, hJi, hF3⟩ := hrel
       have hkk : Box (_ = nn - i) := hki
       clear hki
       have hro := hF3.rdOwn (i := 0) rfl
       by_cases hlt : i < nn
       ·obtain ⟨t, ht⟩ : ∃ t, names[i]? = some t := ⟨names[i]'(by rw [hnl.out]; exact hlt), by simp⟩
        have hts : Box ((names.map strv)[i]? = some (.string ⟨t.toArray⟩)) := box (by rw [List.getElem?_map, ht]; rfl)
        have htk : names.take (i + 1) = names.take i ++ [t] := by rw [List.take_add_one, ht]; rfl
        by_cases hst : t = s
        ·have hfl := box (fun w1 h => rfail_u (w := w1) (g := g) (A := A) (n := n) (c := c) (p := q1) (m := m2) (f := f3) (wh := wh3) (p', 7) (Nat.succ_ne_zero _) (fun h => hJi.out.wh0 h) h)
         subst hst
         have hin : t ∈ names.take (i + 1) := by rw [htk]; simp
         replace hin := box hin
         clear ht htk
         go_wp2_with (first | (with_reducible refine lst (by with_unfolding_all rfl) (wp_fld1 hF3 Tryz.underlying48 rfl (by with_unfolding_all exact ⟨_, rfl, rfl⟩) rfl ?_)) | (with_reducible refine lst (by with_unfolding_all rfl) (wp_indexAddr T_strs hro (by with_unfolding_all exact ⟨_, _, _, _, rfl, rfl, rfl⟩) (by omega) (by omega) ?_)) | (with_reducible refine lst (by with_unfolding_all rfl) (wp_load1C hro hts Tryz.underlying9 rfl (by with_unfolding_all exact ⟨_, rfl, rfl⟩) (by first | (simp; done) | (simp; omega) | omega) ?_)))
         refine (hfl.out _ (hF3.blk (i := 2) rfl)).mono ?_
         rintro e w4 ⟨rfl, f4, wh4, hf4, h4, hJ4⟩
         have hF4 := hF3.putF (i := 2) rfl h4
         simp only [List.set_cons_succ, List.set_cons_zero] at hF4
         go_wp2_with fail
         go_roundg (nn - (i + 1))
         case rel => exact ⟨i + 1, f4, wh4, by omega, box rfl, by go_num, box (by rw [if_pos hin.out]; exact nm_hit hJi.out hf4 hJ4), hF4⟩
         case measure => have := hkk.out; omega
        ·have hno : Box ((t ∈ names.take (i + 1)) = True → True) := box (fun _ => trivial)
         have hiff : (s ∈ names.take (i + 1)) ↔ (s ∈ names.take i) := by
          rw [htk, List.mem_append, List.mem_singleton]
          exact ⟨fun h => h.resolve_right fun h => hst h.symm, .inl⟩
         replace hiff := box hiff
         have hst2 : (t == s) = false := by rw [beq_eq_false_iff_ne]; exact hst
         replace hst := box hst
         clear ht htk hno
         go_wp2_with (first | (with_reducible refine lst (by with_unfolding_all rfl) (wp_fld1 hF3 Tryz.underlying48 rfl (by with_unfolding_all exact ⟨_, rfl, rfl⟩) rfl ?_)) | (with_reducible refine lst (by with_unfolding_all rfl) (wp_indexAddr T_strs hro (by with_unfolding_all exact ⟨_, _, _, _, rfl, rfl, rfl⟩) (by omega) (by omega) ?_)) | (with_reducible refine lst (by with_unfolding_all rfl) (wp_load1C hro hts Tryz.underlying9 rfl (by with_unfolding_all exact ⟨_, rfl, rfl⟩) (by first | (simp; done) | (simp; omega) | omega) ?_)))
         go_roundg (nn - (i + 1))
         case rel => exact ⟨i + 1, f3, wh3, by omega, box rfl, by go_num, box (by simp only [hiff.out]; exact hJi.out), hF3⟩
         case measure => have := hkk.out; omega
       ·have hJ3 : Box (JS J f3 wh3 (jb (jWord b [58] (jBlanks b q1)) fun r => jC b 6 125 (jValue b d) fv (jBlanks b r) m' (names ++ [s]) kids)) := box (JS.step (k := fun (_ : Unit) => jb (jWord b [58] (jBlanks b q1)) fun r => jC b 6 125 (jValue b d) fv (jBlanks b r) m' (names ++ [s]) kids) hJ2.out (by
         have h := hJi.out
         rw [List.take_of_length_le (by rw [hnl.out]; omega)] at h
         exact h))
        have hb3 : Box (f3 = 0 → f2 = 0) := box (fun h => by
         by_cases h2 : f2 = 0
         ·exact h2
         ·have h3 := hJi.out.eq h
          rw [jr_bad h2] at h3
          cases h3)
        clear hJi hJ2 hkk
        go_wp2_with (first | (with_reducible refine lst (by with_unfolding_all rfl) (wp_fld1 hF3 Tryz.underlying48 rfl (by with_unfolding_all exact ⟨_, rfl, rfl⟩) rfl ?_)) | ((with_reducible refine lst (by with_unfolding_all rfl) (wp_fbsl T_strs hF3 (vs := [.string ⟨s.toArray⟩]) (by with_unfolding_all rfl) (by with_unfolding_all rfl) (by with_unfolding_all rfl) (by decide) (by simp [Value.cells]) ?_)); intro w4 g4 hF4 hz4) | ((with_reducible refine lst (by with_unfolding_all rfl) (wp_fappG T_strs hF4 (i := 1) rfl (Nat.le_refl _) hF4.rdOwn0 (strs_one1 _) (by with_unfolding_all exact ⟨_, _, rfl, rfl, rfl⟩) (by unfold maxLen; omega) (by omega) ?_)); intro v5 w5 hF5 hz5; simp only [List.set_cons_zero, List.set_cons_succ] at hF5; obtain ⟨A5, c5, rfl, hc5⟩ := hF5.ownParts (i := 1) rfl) | ((with_reducible refine lst (by with_unfolding_all rfl) (wp_fst2 hF5 (by with_unfolding_all exact ⟨_, _, rfl, rfl, rfl⟩) (by kernel_rfl) rfl rfl (by rw [vlL_len]; decide) (vlL_3 (a' := .slice A5 (nn + 1) c5)) ?_)); intro w6 hF6 hz6))
        have hF7 := hF6.tail
        clear hF6 hF5 hF4 hF3
        have hq1n : f3 = 0 → q1 ≤ n := fun h => (hb2.out (hb3.out h)).1
        refine (rblanks_u (hF7.blk (i := 2) rfl) hg (Nat.le_trans hB hF7.size) hn hq1n (hF7.rdB hg hB hr)).mono ?_
        rintro e w8 ⟨rfl, p5, h8, hp5⟩
        have hF8 := hF7.putF (i := 2) rfl h8
        simp only [List.set_cons_succ, List.set_cons_zero] at hF8
        have hJ4 := box (hJ3.out.congr (K' := jb (jWord b [58] p5) fun r => jC b 6 125 (jValue b d) fv (jBlanks b r) m' (names ++ [s]) kids) (fun h => by rw [hp5 h]))
        have hb5 : Box (f3 = 0 → p5 ≤ n ∧ p' ≤ p5) := box (fun h => by
         have h1 := hb2.out (hb3.out h)
         have h2 := jBlanks_le b (p := q1) (by rw [hl.out]; exact h1.1)
         have h3 := jBlanks_ge b q1
         rw [hl.out] at h2
         rw [hp5 h]
         exact ⟨h2, by omega⟩)
        clear h8 hp5 hJ3 hF7 hq1n
        go_wp2_with fail
        refine (rword_u ⟨#[58]⟩ (by decide) (fun h => hJ4.out.wh0 h) (hF8.blk (i := 2) rfl) hg (Nat.le_trans hB hF8.size) hn (fun h => (hb5.out h).1) (hF8.rdB hg hB hr)).mono ?_
        rintro e w9 ⟨rfl, p6, f6, wh6, m6, h9, hJw, hm6⟩
        have hF9 := hF8.putF (i := 2) rfl h9
        simp only [List.set_cons_succ, List.set_cons_zero] at hF9
        have hJ5 := box (JS.step hJ4.out hJw)
        have hb6 : Box (f6 = 0 → f3 = 0 ∧ p6 ≤ n ∧ p' ≤ p6 ∧ m2 = m6) := box (fun h => by
         have h1 := hJw.eq h
         by_cases h3 : f3 = 0
         ·subst h3
          rw [jr_ok] at h1
          have h4 := jWord_le h1
          have h5 := hb5.out rfl
          have h6 := h4.2.resolve_left (by simp)
          rw [hl.out] at h6
          exact ⟨rfl, h6, by omega, hm6 h⟩
         ·rw [jr_bad h3] at h1
          cases h1)
        clear h9 hJw hm6 hJ4 hF8
        go_wp2_with fail
        refine (rblanks_u (hF9.blk (i := 2) rfl) hg (Nat.le_trans hB hF9.size) hn (fun h => (hb6.out h).2.1) (hF9.rdB hg hB hr)).mono ?_
        rintro e w10 ⟨rfl, p7, h10, hp7⟩
        have hF10 := hF9.putF (i := 2) rfl h10
        simp only [List.set_cons_succ, List.set_cons_zero] at hF10
        have hJ6 := box (hJ5.out.congr (K' := jC b 6 125 (jValue b d) fv p7 m6 (names ++ [s]) kids) (fun h => by
         have h1 := hb6.out h
         have h2 := hb2.out (hb3.out h1.1)
         rw [hp7 h, ← h2.2.2, h1.2.2.2]))
        have hb7 : Box (f6 = 0 → p7 ≤ n ∧ p' ≤ p7 ∧ m6 = m' ∧ nn + 1 ≤ nk + 1) := box (fun h => by
         have h1 := hb6.out h
         have h2 := hb2.out (hb3.out h1.1)
         have h3 := jBlanks_le b (p := p6) (by rw [hl.out]; exact h1.2.1)
         have h4 := jBlanks_ge b p6
         rw [hl.out] at h3
         rw [hp7 h]
         exact ⟨h3, by omega, by rw [← h1.2.2.2]; exact h2.2.2, by omega⟩)
        clear h10 hp7 hJ5 hF9
        go_wp2_with fail
        go_meet
        exact ⟨names ++ [s], A5, nn + 1, c5, p7, f6, wh6, m6, hc5, by omega, box (by rw [List.length_append, hnl.out]; rfl), hJ6, hb7, by rw [List.map_append]; exact hF10⟩
    case rest =>
    obtain ⟨names2, An2, nn2, cn2, q, f2, wh2, m2, hcn2, hnn5, hnl2, hJ2, hb2, hF2⟩ := hcut
    clear hF1 hJ1 hcn hnl hnn hnk2
    go_wp2_with fail
    have hd1 : ((deep : Int) + 1) = ((deep + 1 : Nat) : Int) := rfl
    have hvc := box (fun w' h1 h2 h3 => hV w' g A n c q f2 wh2 m2 B b h1 hg h2 hn hnc (fun h => hJ2.out.wh0 h) (fun h => (hb2.out h).1) (fun h => by have := hb2.out h; omega) h3)
    rw [← hd1] at hvc
    clear hd1
    have hwr : IntKind.i64.wrap ((deep : Int) + 1) = (deep : Int) + 1 := wrap64_deep hdp
    refine (hvc.out _ (hF2.blk (i := 2) rfl) (Nat.le_trans hB hF2.size) (hF2.rdB hg hB hr)).mono ?_
    rintro e w3 ⟨cs, es, v, q3, f3, wh3, m3, rfl, hvt, h3, hJv⟩
    have hF3 := hF2.putG (i := 2) rfl h3
    simp only [List.set_cons_succ, List.set_cons_zero, List.cons_append] at hF3
    have hvl := box hvt.len
    have hvo := box hvt.one
    have hT2 := box (hT.out.snoc hvt)
    have hJ3 : Box (JS J f3 wh3 _) := box (by
     have h := hJ2.out
     unfold jC at h
     exact JS.step h hJv)
    have hb3 : Box (f3 = 0 → q3 ≤ n ∧ p' < q3 ∧ m' < m3 ∧ m3 ≤ 4096 ∧ nn2 ≤ nk + 1) := box (fun h => by
     have h1 := hJv.eq h
     by_cases h2 : f2 = 0
     ·subst h2
      rw [jr_ok] at h1
      have h4 := hb2.out rfl
      have h5 := jValue_len d q m2 v q3 m3 (by omega) h1
      rw [hl.out] at h5
      exact ⟨h5.2.1, by omega, by omega, h5.2.2.2, h4.2.2.2⟩
     ·rw [jr_bad h2] at h1
      cases h1)
    clear h3 hJv hvt hvc hF2 hJ2 hb2 hT
    go_wp2_with (first | ((with_reducible refine lst (by with_unfolding_all rfl) (wp_falloc hF3 (cs := vl0) (z := .agg (List.toArray (vl0))) rfl (by kernel_rfl) (by with_unfolding_all rfl) ?_)); intro w4 g4 hF4 hz4) | ((with_reducible refine lst (by with_unfolding_all rfl) (wp_fstA0 hF4 (by with_unfolding_all exact ⟨_, _, rfl, rfl, rfl⟩) (by rw [hvl.out]; kernel_rfl) hvo.out (by rw [hvl.out, vlL_len]; decide) (spl_all (by rw [hvl.out, vlL_len])) ?_)); intro w5 hF5 hz5) | (with_reducible refine lst (by with_unfolding_all rfl) (wp_fld2 hF5 Tryz.underlying49 rfl (by with_unfolding_all exact ⟨_, rfl, rfl⟩) rfl ?_)) | (with_reducible refine lst (by with_unfolding_all rfl) (wp_fldA0 hF5 Tryz.underlying51 rfl (by with_unfolding_all exact ⟨_, rfl, rfl⟩) (ds := cs) (by rw [hvl.out]; kernel_rfl) (take_all _) ?_)) | ((with_reducible refine lst (by with_unfolding_all rfl) (wp_fbs1 T_rvals hF5 (by with_unfolding_all rfl) (ds := cs) (by with_unfolding_all rfl) hvl.out (by decide) ?_)); intro w6 g6 hF6 hz6) | ((with_reducible refine lst (by with_unfolding_all rfl) (wp_fappG T_rvals hF6 (i := 5) rfl (Nat.le_refl _) (hF6.rdOwn (i := 0) rfl) hvo.out (by with_unfolding_all exact ⟨_, _, rfl, rfl, rfl⟩) (by unfold maxLen; omega) (by omega) ?_)); intro v7 w7 hF7 hz7; simp only [List.set_cons_zero, List.set_cons_succ] at hF7; obtain ⟨A7, c7, rfl, hc7⟩ := hF7.ownParts (i := 5) rfl) | ((with_reducible refine lst (by with_unfolding_all rfl) (wp_fst3 hF7 (by with_unfolding_all exact ⟨_, _, rfl, rfl, rfl⟩) (by kernel_rfl) rfl rfl (by rw [vlL_len]; decide) (vlL_4 (k := 6) (n := 0) (t := ⟨#[]⟩) (a := .slice An2 nn2 cn2) (b' := .slice A7 (nk + 1) c7)) ?_)); intro w8 hF8 hz8))
    have hF9 := hF8.tail.tail
    clear hF3 hF4 hF5 hF6 hF7 hF8
    refine (rblanks_u (hF9.blk (i := 2) rfl) hg (Nat.le_trans hB hF9.size) hn (fun h => (hb3.out h).1) (hF9.rdB hg hB hr)).mono ?_
    rintro e w10 ⟨rfl, p5, h10, hp5⟩
    have hF10 := hF9.putF (i := 2) rfl h10
    simp only [List.set_cons_succ, List.set_cons_zero] at hF10
    have hJ4 := box (hJ3.out.congr (K' := jb (jNext b p5) fun c => if c = 125 then .ok (.mk 6 0 [] names2 (kids ++ [v]), p5 + 1, m3) else jb (jWord b [44] p5) fun t => jManyL b 6 125 (jValue b d) fv (jBlanks b t) m3 names2 (kids ++ [v])) (fun h => by rw [hp5 h]))
    have hb5 : Box (f3 = 0 → p5 ≤ n ∧ p' < p5) := box (fun h => by
     have h1 := hb3.out h
     have h2 := jBlanks_le b (p := q3) (by rw [hl.out]; exact h1.1)
     have h4 := jBlanks_ge b q3
     rw [hl.out] at h2
     rw [hp5 h]
     exact ⟨h2, by omega⟩)
    clear h10 hp5 hJ3 hF9
    go_wp2_with fail
    refine (rwant_u (fun h => hJ4.out.wh0 h) (hF10.blk (i := 2) rfl) hg (Nat.le_trans hB hF10.size) hn (fun h => (hb5.out h).1) (hF10.rdB hg hB hr)).mono ?_
    rintro e w11 ⟨y, f5, wh5, rfl, h11, hd⟩
    have hF11 := hF10.putF (i := 2) rfl h11
    simp only [List.set_cons_succ, List.set_cons_zero] at hF11
    clear h11 hF10
    by_cases hy : y = 125
    ·obtain ⟨x, hx, hyx, rfl, rfl, hJn⟩ := hd.resolve_right (fun h => by omega)
     have hxE : x = 125 := UInt8.toNat_inj.1 (by rw [← hyx, hy]; rfl)
     have hJ5 := JS.step hJ4.out hJn
     rw [if_pos hxE] at hJ5
     have hplt := (List.getElem?_eq_some_iff.1 hx).1
     rw [hl.out] at hplt
     replace hJ5 := box hJ5
     subst hy
     clear hd hx hyx hxE hJn hJ4
     go_wp2_with (first | (with_reducible refine lst (by with_unfolding_all rfl) (wp_fld2 hF11 Tryz.underlying3 rfl (by with_unfolding_all exact ⟨_, rfl, rfl⟩) rfl ?_)) | ((with_reducible refine lst (by with_unfolding_all rfl) (wp_fst2 hF11 (by with_unfolding_all exact ⟨_, _, rfl, rfl, rfl⟩) (by kernel_rfl) rfl rfl (by rw [rrL_len]; decide) (rrL_at (v := (p5 : Int) + 1) (q := p5 + 1) (by omega)) ?_)); intro w12 hF12 hz12) | (with_reducible refine lst (by with_unfolding_all rfl) (wp_fldA1 hF12 Tryz.underlying51 rfl (by with_unfolding_all exact ⟨_, rfl, rfl⟩) (ds := (vlL 6 0 ⟨#[]⟩ (.slice An2 nn2 cn2) (.slice A7 (nk + 1) c7))) (by rw [vlL_len]; kernel_rfl) (take_all _) ?_)) | ((with_reducible refine lst (by with_unfolding_all rfl) (wp_fstA4 hF12 (by with_unfolding_all exact ⟨_, _, rfl, rfl, rfl⟩) (by rw [vlL_len]; kernel_rfl) vlL_one vlL_fit vlL_spl ?_)); intro w13 hF13 hz13))
     exact bodyPost_ret (results_cellF rfl _ hF13 (i := 4) rfl rfl Tryz.underlying51 rfl (by rw [vlL_len]; kernel_rfl)) rfl (RVal.of (VT.mk_ hcn2 hc7 hT2.out) (many_end hF13) hJ5.out)
    have hq : ((y : Int) == 125) = false := by rw [beq_eq_false_iff_ne]; omega
    have hJ5 : Box (JS J f5 wh5 (jb (jWord b [44] p5) fun t => jManyL b 6 125 (jValue b d) fv (jBlanks b t) m3 names2 (kids ++ [v]))) := box (by
     rcases hd with ⟨x, hx, hyx, rfl, rfl, hJn⟩ | ⟨_, hf5, hJn⟩
     ·have h := JS.step hJ4.out hJn
      rw [if_neg (fun h => hy (by rw [hyx, h]; rfl))] at h
      exact h
     ·exact hJ4.out.bad hf5 hJn _)
    have hb6 : Box (f5 = 0 → f3 = 0) := box (fun h => by
     rcases hd with ⟨x, hx, hyx, rfl, rfl, hJn⟩ | ⟨_, hf5, hJn⟩
     ·have h1 := hJn.eq rfl
      by_cases h2 : f3 = 0
      ·exact h2
      ·rw [jr_bad h2] at h1
       cases h1
     ·exact absurd h hf5)
    replace hy := box hy
    clear hd hJ4
    go_wp2_with fail
    refine (rword_u ⟨#[44]⟩ (by decide) (fun h => hJ5.out.wh0 h) (hF11.blk (i := 2) rfl) hg (Nat.le_trans hB hF11.size) hn (fun h => (hb5.out (hb6.out h)).1) (hF11.rdB hg hB hr)).mono ?_
    rintro e w12 ⟨rfl, p6, f6, wh6, m6, h12, hJw, hm6⟩
    have hF12 := hF11.putF (i := 2) rfl h12
    simp only [List.set_cons_succ, List.set_cons_zero] at hF12
    have hJ6 := box (JS.step hJ5.out hJw)
    have hb7 : Box (f6 = 0 → f3 = 0 ∧ p6 ≤ n ∧ p' < p6 ∧ m3 = m6) := box (fun h => by
     have h1 := hJw.eq h
     by_cases h3 : f5 = 0
     ·subst h3
      rw [jr_ok] at h1
      have h4 := jWord_le h1
      have h5 := hb5.out (hb6.out rfl)
      have h6 := h4.2.resolve_left (by simp)
      rw [hl.out] at h6
      exact ⟨hb6.out rfl, h6, by omega, hm6 h⟩
     ·rw [jr_bad h3] at h1
      cases h1)
    clear h12 hJw hm6 hJ5 hF11
    go_wp2_with fail
    refine (rblanks_u (hF12.blk (i := 2) rfl) hg (Nat.le_trans hB hF12.size) hn (fun h => (hb7.out h).2.1) (hF12.rdB hg hB hr)).mono ?_
    rintro e w13 ⟨rfl, p7, h13, hp7⟩
    have hF13 := hF12.putF (i := 2) rfl h13
    simp only [List.set_cons_succ, List.set_cons_zero] at hF13
    have hI2 : Box (MI J b 6 125 d n p7 f6 wh6 m6 fv nn2 (nk + 1) true names2 (kids ++ [v])) := box (by
     by_cases h : f6 = 0
     ·have h1 := hb7.out h
      have h2 := hb3.out h1.1
      have h3 := jBlanks_le b (p := p6) (by rw [hl.out]; exact h1.2.1)
      have h4 := jBlanks_ge b p6
      rw [hl.out] at h3
      rw [← hp7 h] at h3 h4
      subst h
      obtain rfl := hJ6.out.wh0 rfl
      refine .inl ⟨rfl, rfl, h3, by omega, by omega, by omega, by omega, ?_, fun h => absurd h (by decide)⟩
      rw [hJ6.out.eq rfl, hp7 rfl, h1.2.2.2]
      rfl
     ·exact .inr ⟨h, hJ6.out.err h⟩)
    clear h13 hp7 hJ6 hF12 hb7
    go_wp2_with fail
    go_roundg (mM f6 fv)
    case rel => exact ⟨names2, kids ++ [v], p7, f6, wh6, m6, fv, true, An2, nn2, cn2, A7, nk + 1, c7, xs ++ cs, TE ++ es, rfl, by omega, by omega, hcn2, hc7, box rfl, hnl2, hT2, hI2, hF13⟩
    case measure => have := hkf.out; rw [this]; exact mM_lt
  have hq1 : ((y1 : Int) == 125) = false := by rw [beq_eq_false_iff_ne]; omega
  have hJ1 : Box (JS J f1 wh1 (jManyL b 6 125 (jValue b d) (fv + 1) p' m' names kids)) := box (by
   rcases hd with ⟨x, hx', hyx, hf1, hwh1, _⟩ | ⟨_, hf1, hn⟩
   ·exact .inl ⟨hf1, hwh1, hJ.out.trans (mK_in hx' (.inr (fun h => hy1 (by rw [hyx, h]; rfl))))⟩
   ·rw [jr_ok] at hn
    cases hx : b[p']? with
    | some x => unfold jNext at hn; rw [hx] at hn; cases hn
    | none =>
     unfold jNext at hn
     rw [hx] at hn
     injection hn with hn
     injection hn with h1 h2
     subst h1 h2
     exact .inr ⟨hf1, by rw [hJ.out, mK_none (by decide) hx]⟩)
  clear hd hxy hmb hJ
  replace hy1 := box hy1
  go_upto_if 67 with (first | (with_reducible refine lst (by with_unfolding_all rfl) (wp_fld2 hF1 Tryz.underlying3 rfl (by with_unfolding_all exact ⟨_, rfl, rfl⟩) rfl ?_)))
  go_cut [] (fun wx => ∃ (names2 : List (List UInt8)) (An2 : Option Addr) (nn2 cn2 q f2 wh2 m2 : Nat), nn2 ≤ cn2 ∧ nn2 ≤ 4200 ∧ Box (names2.length = nn2) ∧ Box (JS J f2 wh2 (jC b 6 125 (jValue b d) fv q m2 names2 kids)) ∧ Box (f2 = 0 → q ≤ n ∧ p' ≤ q ∧ m2 = m' ∧ nn2 ≤ nk + 1) ∧ Fr [g] w wx (.own w.heap.size 9 1 (.slice An2 nn2 cn2) nn2 ((names2).map strv) :: .blk g2 51 (vlL 6 0 ⟨#[]⟩ (.slice An2 nn2 cn2) (.slice Ak nk ck)) :: .blk g 146 (rrL A n c q f2 wh2 m2) :: .own w.heap.size 51 5 (.slice Ak nk ck) nk xs :: .blk g1 51 vl0 :: TE))
  case first =>
   by_cases hf1 : f1 = 0
   rotate_left
   ·have hq : ((f1 : Int) == 0) = false := by rw [beq_eq_false_iff_ne]; omega
    have hJe := box (hJ1.out.err hf1)
    replace hf1 := box hf1
    go_wp2_with fail
    go_meet
    exact ⟨names, An, nn, cn, p', f1, wh1, m', hcn, by omega, hnl, box (.inr ⟨hf1.out, hJe.out⟩), box (fun h => absurd h hf1.out), hF1⟩
   ·subst hf1
    have hJx := hJ1.out
    rw [jManyL_6'] at hJx
    obtain rfl := hJ1.out.wh0 rfl
    replace hJx := box hJx
    clear hJ1
    have htx := box (rtext_u (hF1.blk (i := 2) rfl) hg (Nat.le_trans hB hF1.size) hn hnc hpn (hF1.rdB hg hB hr))
    go_wp2_with (first | (with_reducible refine lst (by with_unfolding_all rfl) (wp_fld2 hF1 Tryz.underlying3 rfl (by with_unfolding_all exact ⟨_, rfl, rfl⟩) rfl ?_)))
    refine htx.out.mono ?_
    rintro e w2 ⟨s, q1, f2, wh2, m2, rfl, h2, hJt, hm2⟩
    have hF2 := hF1.putF (i := 2) rfl h2
    simp only [List.set_cons_succ, List.set_cons_zero] at hF2
    have hJ2 := box (JS.step hJx.out (by rw [jr_ok]; exact hJt))
    have hb2 : Box (f2 = 0 → q1 ≤ n ∧ p' ≤ q1 ∧ m2 = m') := box (fun h => by
     have h1 := jText_len (hJt.eq h)
     rw [hl.out] at h1
     exact ⟨h1.2, by omega, (hm2 h).symm⟩)
    clear hm2 hJt h2 htx hF1 hJx
    go_wp2_with fail
    go_loopg [14] nn (fun k iv wr => ∃ (i f3 wh3 : Nat), i ≤ nn ∧ Box (k = nn - i) ∧ iv = .int .i64 (i : Int) ∧ Box (JS (jr f2 wh2 (if s ∈ names.take i then (.error (p', 7) : JR Unit) else .ok ())) f3 wh3 (.ok ())) ∧ Fr [g] w wr (.own w.heap.size 9 1 (.slice An nn cn) nn ((names).map strv) :: .blk g2 51 (vlL 6 0 ⟨#[]⟩ (.slice An nn cn) (.slice Ak nk ck)) :: .blk g 146 (rrL A n c q1 f3 wh3 m2) :: .own w.heap.size 51 5 (.slice Ak nk ck) nk xs :: .blk g1 51 vl0 :: TE))
    case atStart => exact ⟨0, f2, wh2, by omega, box rfl, rfl, box (by
     rw [List.take_zero, if_neg (by simp)]
     by_cases h : f2 = 0
     ·subst h; obtain rfl := hJ2.out.wh0 rfl; exact .inl ⟨rfl, rfl, jr_ok⟩
     ·exact .inr ⟨h, jr_bad h⟩), hF2⟩
    case round =>
     clear hF2
     obtain ⟨i, f3, wh3, hi, hki, rfl, hJi, hF3⟩ := hrel
     have hkk : Box (_ = nn - i) := hki
     clear hki
     have hro := hF3.rdOwn (i := 0) rfl
     by_cases hlt : i < nn
     ·obtain ⟨t, ht⟩ : ∃ t, names[i]? = some t := ⟨names[i]'(by rw [hnl.out]; exact hlt), by simp⟩
      have hts : Box ((names.map strv)[i]? = some (.string ⟨t.toArray⟩)) := box (by rw [List.getElem?_map, ht]; rfl)
      have htk : names.take (i + 1) = names.take i ++ [t] := by rw [List.take_add_one, ht]; rfl
      by_cases hst : t = s
      ·have hfl := box (fun w1 h => rfail_u (w := w1) (g := g) (A := A) (n := n) (c := c) (p := q1) (m := m2) (f := f3) (wh := wh3) (p', 7) (Nat.succ_ne_zero _) (fun h => hJi.out.wh0 h) h)
       subst hst
       have hin : t ∈ names.take (i + 1) := by rw [htk]; simp
       replace hin := box hin
       clear ht htk
       go_wp2_with (first | (with_reducible refine lst (by with_unfolding_all rfl) (wp_fld1 hF3 Tryz.underlying48 rfl (by with_unfolding_all exact ⟨_, rfl, rfl⟩) rfl ?_)) | (with_reducible refine lst (by with_unfolding_all rfl) (wp_indexAddr T_strs hro (by with_unfolding_all exact ⟨_, _, _, _, rfl, rfl, rfl⟩) (by omega) (by omega) ?_)) | (with_reducible refine lst (by with_unfolding_all rfl) (wp_load1C hro hts Tryz.underlying9 rfl (by with_unfolding_all exact ⟨_, rfl, rfl⟩) (by first | (simp; done) | (simp; omega) | omega) ?_)))
       refine (hfl.out _ (hF3.blk (i := 2) rfl)).mono ?_
       rintro e w4 ⟨rfl, f4, wh4, hf4, h4, hJ4⟩
       have hF4 := hF3.putF (i := 2) rfl h4
       simp only [List.set_cons_succ, List.set_cons_zero] at hF4
       go_wp2_with fail
       go_roundg (nn - (i + 1))
       case rel => exact ⟨i + 1, f4, wh4, by omega, box rfl, by go_num, box (by rw [if_pos hin.out]; exact nm_hit hJi.out hf4 hJ4), hF4⟩
       case measure => have := hkk.out; omega
      ·have hno : Box ((t ∈ names.take (i + 1)) = True → True) := box (fun _ => trivial)
       have hiff : (s ∈ names.take (i + 1)) ↔ (s ∈ names.take i) := by
        rw [htk, List.mem_append, List.mem_singleton]
        exact ⟨fun h => h.resolve_right fun h => hst h.symm, .inl⟩
       replace hiff := box hiff
       have hst2 : (t == s) = false := by rw [beq_eq_false_iff_ne]; exact hst
       replace hst := box hst
       clear ht htk hno
       go_wp2_with (first | (with_reducible refine lst (by with_unfolding_all rfl) (wp_fld1 hF3 Tryz.underlying48 rfl (by with_unfolding_all exact ⟨_, rfl, rfl⟩) rfl ?_)) | (with_reducible refine lst (by with_unfolding_all rfl) (wp_indexAddr T_strs hro (by with_unfolding_all exact ⟨_, _, _, _, rfl, rfl, rfl⟩) (by omega) (by omega) ?_)) | (with_reducible refine lst (by with_unfolding_all rfl) (wp_load1C hro hts Tryz.underlying9 rfl (by with_unfolding_all exact ⟨_, rfl, rfl⟩) (by first | (simp; done) | (simp; omega) | omega) ?_)))
       go_roundg (nn - (i + 1))
       case rel => exact ⟨i + 1, f3, wh3, by omega, box rfl, by go_num, box (by simp only [hiff.out]; exact hJi.out), hF3⟩
       case measure => have := hkk.out; omega
     ·have hJ3 : Box (JS J f3 wh3 (jb (jWord b [58] (jBlanks b q1)) fun r => jC b 6 125 (jValue b d) fv (jBlanks b r) m' (names ++ [s]) kids)) := box (JS.step (k := fun (_ : Unit) => jb (jWord b [58] (jBlanks b q1)) fun r => jC b 6 125 (jValue b d) fv (jBlanks b r) m' (names ++ [s]) kids) hJ2.out (by
       have h := hJi.out
       rw [List.take_of_length_le (by rw [hnl.out]; omega)] at h
       exact h))
      have hb3 : Box (f3 = 0 → f2 = 0) := box (fun h => by
       by_cases h2 : f2 = 0
       ·exact h2
       ·have h3 := hJi.out.eq h
        rw [jr_bad h2] at h3
        cases h3)
      clear hJi hJ2 hkk
      go_wp2_with (first | (with_reducible refine lst (by with_unfolding_all rfl) (wp_fld1 hF3 Tryz.underlying48 rfl (by with_unfolding_all exact ⟨_, rfl, rfl⟩) rfl ?_)) | ((with_reducible refine lst (by with_unfolding_all rfl) (wp_fbsl T_strs hF3 (vs := [.string ⟨s.toArray⟩]) (by with_unfolding_all rfl) (by with_unfolding_all rfl) (by with_unfolding_all rfl) (by decide) (by simp [Value.cells]) ?_)); intro w4 g4 hF4 hz4) | ((with_reducible refine lst (by with_unfolding_all rfl) (wp_fappG T_strs hF4 (i := 1) rfl (Nat.le_refl _) hF4.rdOwn0 (strs_one1 _) (by with_unfolding_all exact ⟨_, _, rfl, rfl, rfl⟩) (by unfold maxLen; omega) (by omega) ?_)); intro v5 w5 hF5 hz5; simp only [List.set_cons_zero, List.set_cons_succ] at hF5; obtain ⟨A5, c5, rfl, hc5⟩ := hF5.ownParts (i := 1) rfl) | ((with_reducible refine lst (by with_unfolding_all rfl) (wp_fst2 hF5 (by with_unfolding_all exact ⟨_, _, rfl, rfl, rfl⟩) (by kernel_rfl) rfl rfl (by rw [vlL_len]; decide) (vlL_3 (a' := .slice A5 (nn + 1) c5)) ?_)); intro w6 hF6 hz6))
      have hF7 := hF6.tail
      clear hF6 hF5 hF4 hF3
      have hq1n : f3 = 0 → q1 ≤ n := fun h => (hb2.out (hb3.out h)).1
      refine (rblanks_u (hF7.blk (i := 2) rfl) hg (Nat.le_trans hB hF7.size) hn hq1n (hF7.rdB hg hB hr)).mono ?_
      rintro e w8 ⟨rfl, p5, h8, hp5⟩
      have hF8 := hF7.putF (i := 2) rfl h8
      simp only [List.set_cons_succ, List.set_cons_zero] at hF8
      have hJ4 := box (hJ3.out.congr (K' := jb (jWord b [58] p5) fun r => jC b 6 125 (jValue b d) fv (jBlanks b r) m' (names ++ [s]) kids) (fun h => by rw [hp5 h]))
      have hb5 : Box (f3 = 0 → p5 ≤ n ∧ p' ≤ p5) := box (fun h => by
       have h1 := hb2.out (hb3.out h)
       have h2 := jBlanks_le b (p := q1) (by rw [hl.out]; exact h1.1)
       have h3 := jBlanks_ge b q1
       rw [hl.out] at h2
       rw [hp5 h]
       exact ⟨h2, by omega⟩)
      clear h8 hp5 hJ3 hF7 hq1n
      go_wp2_with fail
      refine (rword_u ⟨#[58]⟩ (by decide) (fun h => hJ4.out.wh0 h) (hF8.blk (i := 2) rfl) hg (Nat.le_trans hB hF8.size) hn (fun h => (hb5.out h).1) (hF8.rdB hg hB hr)).mono ?_
      rintro e w9 ⟨rfl, p6, f6, wh6, m6, h9, hJw, hm6⟩
      have hF9 := hF8.putF (i := 2) rfl h9
      simp only [List.set_cons_succ, List.set_cons_zero] at hF9
      have hJ5 := box (JS.step hJ4.out hJw)
      have hb6 : Box (f6 = 0 → f3 = 0 ∧ p6 ≤ n ∧ p' ≤ p6 ∧ m2 = m6) := box (fun h => by
       have h1 := hJw.eq h
       by_cases h3 : f3 = 0
       ·subst h3
        rw [jr_ok] at h1
        have h4 := jWord_le h1
        have h5 := hb5.out rfl
        have h6 := h4.2.resolve_left (by simp)
        rw [hl.out] at h6
        exact ⟨rfl, h6, by omega, hm6 h⟩
       ·rw [jr_bad h3] at h1
        cases h1)
      clear h9 hJw hm6 hJ4 hF8
      go_wp2_with fail
      refine (rblanks_u (hF9.blk (i := 2) rfl) hg (Nat.le_trans hB hF9.size) hn (fun h => (hb6.out h).2.1) (hF9.rdB hg hB hr)).mono ?_
      rintro e w10 ⟨rfl, p7, h10, hp7⟩
      have hF10 := hF9.putF (i := 2) rfl h10
      simp only [List.set_cons_succ, List.set_cons_zero] at hF10
      have hJ6 := box (hJ5.out.congr (K' := jC b 6 125 (jValue b d) fv p7 m6 (names ++ [s]) kids) (fun h => by
       have h1 := hb6.out h
       have h2 := hb2.out (hb3.out h1.1)
       rw [hp7 h, ← h2.2.2, h1.2.2.2]))
      have hb7 : Box (f6 = 0 → p7 ≤ n ∧ p' ≤ p7 ∧ m6 = m' ∧ nn + 1 ≤ nk + 1) := box (fun h => by
       have h1 := hb6.out h
       have h2 := hb2.out (hb3.out h1.1)
       have h3 := jBlanks_le b (p := p6) (by rw [hl.out]; exact h1.2.1)
       have h4 := jBlanks_ge b p6
       rw [hl.out] at h3
       rw [hp7 h]
       exact ⟨h3, by omega, by rw [← h1.2.2.2]; exact h2.2.2, by omega⟩)
      clear h10 hp7 hJ5 hF9
      go_wp2_with fail
      go_meet
      exact ⟨names ++ [s], A5, nn + 1, c5, p7, f6, wh6, m6, hc5, by omega, box (by rw [List.length_append, hnl.out]; rfl), hJ6, hb7, by rw [List.map_append]; exact hF10⟩
  case rest =>
  obtain ⟨names2, An2, nn2, cn2, q, f2, wh2, m2, hcn2, hnn5, hnl2, hJ2, hb2, hF2⟩ := hcut
  clear hF1 hJ1 hcn hnl hnn hnk2
  go_wp2_with fail
  have hd1 : ((deep : Int) + 1) = ((deep + 1 : Nat) : Int) := rfl
  have hvc := box (fun w' h1 h2 h3 => hV w' g A n c q f2 wh2 m2 B b h1 hg h2 hn hnc (fun h => hJ2.out.wh0 h) (fun h => (hb2.out h).1) (fun h => by have := hb2.out h; omega) h3)
  rw [← hd1] at hvc
  clear hd1
  have hwr : IntKind.i64.wrap ((deep : Int) + 1) = (deep : Int) + 1 := wrap64_deep hdp
  refine (hvc.out _ (hF2.blk (i := 2) rfl) (Nat.le_trans hB hF2.size) (hF2.rdB hg hB hr)).mono ?_
  rintro e w3 ⟨cs, es, v, q3, f3, wh3, m3, rfl, hvt, h3, hJv⟩
  have hF3 := hF2.putG (i := 2) rfl h3
  simp only [List.set_cons_succ, List.set_cons_zero, List.cons_append] at hF3
  have hvl := box hvt.len
  have hvo := box hvt.one
  have hT2 := box (hT.out.snoc hvt)
  have hJ3 : Box (JS J f3 wh3 _) := box (by
   have h := hJ2.out
   unfold jC at h
   exact JS.step h hJv)
  have hb3 : Box (f3 = 0 → q3 ≤ n ∧ p' < q3 ∧ m' < m3 ∧ m3 ≤ 4096 ∧ nn2 ≤ nk + 1) := box (fun h => by
   have h1 := hJv.eq h
   by_cases h2 : f2 = 0
   ·subst h2
    rw [jr_ok] at h1
    have h4 := hb2.out rfl
    have h5 := jValue_len d q m2 v q3 m3 (by omega) h1
    rw [hl.out] at h5
    exact ⟨h5.2.1, by omega, by omega, h5.2.2.2, h4.2.2.2⟩
   ·rw [jr_bad h2] at h1
    cases h1)
  clear h3 hJv hvt hvc hF2 hJ2 hb2 hT
  go_wp2_with (first | ((with_reducible refine lst (by with_unfolding_all rfl) (wp_falloc hF3 (cs := vl0) (z := .agg (List.toArray (vl0))) rfl (by kernel_rfl) (by with_unfolding_all rfl) ?_)); intro w4 g4 hF4 hz4) | ((with_reducible refine lst (by with_unfolding_all rfl) (wp_fstA0 hF4 (by with_unfolding_all exact ⟨_, _, rfl, rfl, rfl⟩) (by rw [hvl.out]; kernel_rfl) hvo.out (by rw [hvl.out, vlL_len]; decide) (spl_all (by rw [hvl.out, vlL_len])) ?_)); intro w5 hF5 hz5) | (with_reducible refine lst (by with_unfolding_all rfl) (wp_fld2 hF5 Tryz.underlying49 rfl (by with_unfolding_all exact ⟨_, rfl, rfl⟩) rfl ?_)) | (with_reducible refine lst (by with_unfolding_all rfl) (wp_fldA0 hF5 Tryz.underlying51 rfl (by with_unfolding_all exact ⟨_, rfl, rfl⟩) (ds := cs) (by rw [hvl.out]; kernel_rfl) (take_all _) ?_)) | ((with_reducible refine lst (by with_unfolding_all rfl) (wp_fbs1 T_rvals hF5 (by with_unfolding_all rfl) (ds := cs) (by with_unfolding_all rfl) hvl.out (by decide) ?_)); intro w6 g6 hF6 hz6) | ((with_reducible refine lst (by with_unfolding_all rfl) (wp_fappG T_rvals hF6 (i := 5) rfl (Nat.le_refl _) (hF6.rdOwn (i := 0) rfl) hvo.out (by with_unfolding_all exact ⟨_, _, rfl, rfl, rfl⟩) (by unfold maxLen; omega) (by omega) ?_)); intro v7 w7 hF7 hz7; simp only [List.set_cons_zero, List.set_cons_succ] at hF7; obtain ⟨A7, c7, rfl, hc7⟩ := hF7.ownParts (i := 5) rfl) | ((with_reducible refine lst (by with_unfolding_all rfl) (wp_fst3 hF7 (by with_unfolding_all exact ⟨_, _, rfl, rfl, rfl⟩) (by kernel_rfl) rfl rfl (by rw [vlL_len]; decide) (vlL_4 (k := 6) (n := 0) (t := ⟨#[]⟩) (a := .slice An2 nn2 cn2) (b' := .slice A7 (nk + 1) c7)) ?_)); intro w8 hF8 hz8))
  have hF9 := hF8.tail.tail
  clear hF3 hF4 hF5 hF6 hF7 hF8
  refine (rblanks_u (hF9.blk (i := 2) rfl) hg (Nat.le_trans hB hF9.size) hn (fun h => (hb3.out h).1) (hF9.rdB hg hB hr)).mono ?_
  rintro e w10 ⟨rfl, p5, h10, hp5⟩
  have hF10 := hF9.putF (i := 2) rfl h10
  simp only [List.set_cons_succ, List.set_cons_zero] at hF10
  have hJ4 := box (hJ3.out.congr (K' := jb (jNext b p5) fun c => if c = 125 then .ok (.mk 6 0 [] names2 (kids ++ [v]), p5 + 1, m3) else jb (jWord b [44] p5) fun t => jManyL b 6 125 (jValue b d) fv (jBlanks b t) m3 names2 (kids ++ [v])) (fun h => by rw [hp5 h]))
  have hb5 : Box (f3 = 0 → p5 ≤ n ∧ p' < p5) := box (fun h => by
   have h1 := hb3.out h
   have h2 := jBlanks_le b (p := q3) (by rw [hl.out]; exact h1.1)
   have h4 := jBlanks_ge b q3
   rw [hl.out] at h2
   rw [hp5 h]
   exact ⟨h2, by omega⟩)
  clear h10 hp5 hJ3 hF9
  go_wp2_with fail
  refine (rwant_u (fun h => hJ4.out.wh0 h) (hF10.blk (i := 2) rfl) hg (Nat.le_trans hB hF10.size) hn (fun h => (hb5.out h).1) (hF10.rdB hg hB hr)).mono ?_
  rintro e w11 ⟨y, f5, wh5, rfl, h11, hd⟩
  have hF11 := hF10.putF (i := 2) rfl h11
  simp only [List.set_cons_succ, List.set_cons_zero] at hF11
  clear h11 hF10
  by_cases hy : y = 125
  ·obtain ⟨x, hx, hyx, rfl, rfl, hJn⟩ := hd.resolve_right (fun h => by omega)
   have hxE : x = 125 := UInt8.toNat_inj.1 (by rw [← hyx, hy]; rfl)
   have hJ5 := JS.step hJ4.out hJn
   rw [if_pos hxE] at hJ5
   have hplt := (List.getElem?_eq_some_iff.1 hx).1
   rw [hl.out] at hplt
   replace hJ5 := box hJ5
   subst hy
   clear hd hx hyx hxE hJn hJ4
   go_wp2_with (first | (with_reducible refine lst (by with_unfolding_all rfl) (wp_fld2 hF11 Tryz.underlying3 rfl (by with_unfolding_all exact ⟨_, rfl, rfl⟩) rfl ?_)) | ((with_reducible refine lst (by with_unfolding_all rfl) (wp_fst2 hF11 (by with_unfolding_all exact ⟨_, _, rfl, rfl, rfl⟩) (by kernel_rfl) rfl rfl (by rw [rrL_len]; decide) (rrL_at (v := (p5 : Int) + 1) (q := p5 + 1) (by omega)) ?_)); intro w12 hF12 hz12) | (with_reducible refine lst (by with_unfolding_all rfl) (wp_fldA1 hF12 Tryz.underlying51 rfl (by with_unfolding_all exact ⟨_, rfl, rfl⟩) (ds := (vlL 6 0 ⟨#[]⟩ (.slice An2 nn2 cn2) (.slice A7 (nk + 1) c7))) (by rw [vlL_len]; kernel_rfl) (take_all _) ?_)) | ((with_reducible refine lst (by with_unfolding_all rfl) (wp_fstA4 hF12 (by with_unfolding_all exact ⟨_, _, rfl, rfl, rfl⟩) (by rw [vlL_len]; kernel_rfl) vlL_one vlL_fit vlL_spl ?_)); intro w13 hF13 hz13))
   exact bodyPost_ret (results_cellF rfl _ hF13 (i := 4) rfl rfl Tryz.underlying51 rfl (by rw [vlL_len]; kernel_rfl)) rfl (RVal.of (VT.mk_ hcn2 hc7 hT2.out) (many_end hF13) hJ5.out)
  have hq : ((y : Int) == 125) = false := by rw [beq_eq_false_iff_ne]; omega
  have hJ5 : Box (JS J f5 wh5 (jb (jWord b [44] p5) fun t => jManyL b 6 125 (jValue b d) fv (jBlanks b t) m3 names2 (kids ++ [v]))) := box (by
   rcases hd with ⟨x, hx, hyx, rfl, rfl, hJn⟩ | ⟨_, hf5, hJn⟩
   ·have h := JS.step hJ4.out hJn
    rw [if_neg (fun h => hy (by rw [hyx, h]; rfl))] at h
    exact h
   ·exact hJ4.out.bad hf5 hJn _)
  have hb6 : Box (f5 = 0 → f3 = 0) := box (fun h => by
   rcases hd with ⟨x, hx, hyx, rfl, rfl, hJn⟩ | ⟨_, hf5, hJn⟩
   ·have h1 := hJn.eq rfl
    by_cases h2 : f3 = 0
    ·exact h2
    ·rw [jr_bad h2] at h1
     cases h1
   ·exact absurd h hf5)
  replace hy := box hy
  clear hd hJ4
  go_wp2_with fail
  refine (rword_u ⟨#[44]⟩ (by decide) (fun h => hJ5.out.wh0 h) (hF11.blk (i := 2) rfl) hg (Nat.le_trans hB hF11.size) hn (fun h => (hb5.out (hb6.out h)).1) (hF11.rdB hg hB hr)).mono ?_
  rintro e w12 ⟨rfl, p6, f6, wh6, m6, h12, hJw, hm6⟩
  have hF12 := hF11.putF (i := 2) rfl h12
  simp only [List.set_cons_succ, List.set_cons_zero] at hF12
  have hJ6 := box (JS.step hJ5.out hJw)
  have hb7 : Box (f6 = 0 → f3 = 0 ∧ p6 ≤ n ∧ p' < p6 ∧ m3 = m6) := box (fun h => by
   have h1 := hJw.eq h
   by_cases h3 : f5 = 0
   ·subst h3
    rw [jr_ok] at h1
    have h4 := jWord_le h1
    have h5 := hb5.out (hb6.out rfl)
    have h6 := h4.2.resolve_left (by simp)
    rw [hl.out] at h6
    exact ⟨hb6.out rfl, h6, by omega, hm6 h⟩
   ·rw [jr_bad h3] at h1
    cases h1)
  clear h12 hJw hm6 hJ5 hF11
  go_wp2_with fail
  refine (rblanks_u (hF12.blk (i := 2) rfl) hg (Nat.le_trans hB hF12.size) hn (fun h => (hb7.out h).2.1) (hF12.rdB hg hB hr)).mono ?_
  rintro e w13 ⟨rfl, p7, h13, hp7⟩
  have hF13 := hF12.putF (i := 2) rfl h13
  simp only [List.set_cons_succ, List.set_cons_zero] at hF13
  have hI2 : Box (MI J b 6 125 d n p7 f6 wh6 m6 fv nn2 (nk + 1) true names2 (kids ++ [v])) := box (by
   by_cases h : f6 = 0
   ·have h1 := hb7.out h
    have h2 := hb3.out h1.1
    have h3 := jBlanks_le b (p := p6) (by rw [hl.out]; exact h1.2.1)
    have h4 := jBlanks_ge b p6
    rw [hl.out] at h3
    rw [← hp7 h] at h3 h4
    subst h
    obtain rfl := hJ6.out.wh0 rfl
    refine .inl ⟨rfl, rfl, h3, by omega, by omega, by omega, by omega, ?_, fun h => absurd h (by decide)⟩
    rw [hJ6.out.eq rfl, hp7 rfl, h1.2.2.2]
    rfl
   ·exact .inr ⟨h, hJ6.out.err h⟩)
  clear h13 hp7 hJ6 hF12 hb7
  go_wp2_with fail
  go_roundg (mM f6 fv)
  case rel => exact ⟨names2, kids ++ [v], p7, f6, wh6, m6, fv, true, An2, nn2, cn2, A7, nk + 1, c7, xs ++ cs, TE ++ es, rfl, by omega, by omega, hcn2, hc7, box rfl, hnl2, hT2, hI2, hF13⟩
  case measure => have := hkf.out; rw [this]; exact mM_lt
end Go.Proofs.YtlhicfpmlncomaaGreatDoor
