/-
 Layer 8: what a document can't be read without: the document's Needs and the program's, walked.
 Layer 8: what a document can't be read without: the document's Needs, walked.
-/
import Derived.Test.YtlhicfpmlncomaaGreatDoorQ07
import Derived.Test.YtlhicfpmlncomaaGreatDoorQ03
import Derived.Test.YtlhicfpmlncomaaGreatDoorQ19
namespace Go.Proofs.YtlhicfpmlncomaaGreatDoor
open Go.RowKit
set_option linter.unusedSimpArgs false
set_option linter.unusedVariables false
def mNeeds (D : MDoc) : List MDesc := (if D.media = sImage then [D.config] else []) ++ D.edges
/-- Descriptors' cells, whose notes read in a world. -/
def DLr (w : World) (ds : List MDesc) (xs : List Value) : Prop := xs.length = ds.length * 35 ∧ ∀ i d, ds[i]? = some d → RdD w d ((xs.drop (i * 35)).take 35)
theorem DLr.nil (w : World) : DLr w [] [] := ⟨rfl, fun i d h => by cases h⟩
theorem DLr.one {w : World} {d : MDesc} {cs : List Value} (h : RdD w d cs) : DLr w [d] cs := by
 refine ⟨by rw [h.len]; rfl, fun i x hx => ?_⟩
 cases i with
 | zero =>
  injection hx with hx
  subst hx
  rw [Nat.zero_mul, List.drop_zero, List.take_of_length_le (by rw [h.len]; exact Nat.le_refl _)]
  exact h
 | succ i => cases hx
theorem DLr.app {w : World} {a b : List MDesc} {xs ys : List Value} (h1 : DLr w a xs) (h2 : DLr w b ys) : DLr w (a ++ b) (xs ++ ys) := by
 refine ⟨by rw [List.length_append, List.length_append, h1.1, h2.1, Nat.add_mul], fun i d hd => ?_⟩
 rcases Nat.lt_or_ge i a.length with hi | hi
 ·rw [List.getElem?_append_left hi] at hd
  have h := h1.2 i d hd
  have hl : i * 35 + 35 ≤ xs.length := by rw [h1.1]; omega
  rw [List.drop_append_of_le_length (by omega), List.take_append_of_le_length (by rw [List.length_drop]; omega)]
  exact h
 ·rw [List.getElem?_append_right hi] at hd
  have h := h2.2 _ d hd
  have e : i * 35 = xs.length + (i - a.length) * 35 := by rw [h1.1]; omega
  rw [e, ← List.drop_drop, List.drop_left]
  exact h
theorem DLr.at0 {w : World} {ds : List MDesc} {d : MDesc} {xs : List Value} (h : DLr w (d :: ds) xs) : ∃ cs zs, xs = cs ++ zs ∧ RdD w d cs ∧ DLr w ds zs := by
 have h0 := h.2 0 d rfl
 rw [Nat.zero_mul, List.drop_zero] at h0
 refine ⟨xs.take 35, xs.drop 35, (List.take_append_drop 35 xs).symm, h0, by rw [List.length_drop, h.1, List.length_cons]; omega, fun i x hx => ?_⟩
 have := h.2 (i + 1) x (by simpa using hx)
 rw [List.drop_drop, show 35 + i * 35 = (i + 1) * 35 by omega]
 exact this
theorem DLr.on {w w' : World} {ds : List MDesc} {xs : List Value} (h : DLr w ds xs) (hb : Below w.heap.size w w') : DLr w' ds xs := ⟨h.1, fun i d hd => (h.2 i d hd).on hb⟩
/-- Descriptors with notes of their own. -/
def NL (B : Nat) : List MDesc → List Value → List Ent → Prop
 | [], xs, es => xs = [] ∧ es = []
 | d :: ds, xs, es => ∃ A n c ys fs, xs = dsL d.media d.dig d.size (.slice A n c) ++ ys ∧ es = .own B 70 2 (.slice A n c) n (ntsL d.notes) :: fs ∧ n = d.notes.length ∧ n ≤ c ∧ d.dig.length = 32 ∧ NL B ds ys fs
theorem NL.snoc {B : Nat} : ∀ {ds : List MDesc} {d : MDesc} {xs : List Value} {es : List Ent} {A : Option Addr} {n c : Nat}, NL B ds xs es → n = d.notes.length → n ≤ c → d.dig.length = 32 → NL B (ds ++ [d]) (xs ++ dsL d.media d.dig d.size (.slice A n c)) (es ++ [.own B 70 2 (.slice A n c) n (ntsL d.notes)])
 | [], d, xs, es, A, n, c, h, h1, h2, h3 => by
  obtain ⟨rfl, rfl⟩ := h
  exact ⟨A, n, c, [], [], by simp, rfl, h1, h2, h3, rfl, rfl⟩
 | x :: ds, d, xs, es, A, n, c, h, h1, h2, h3 => by
  obtain ⟨A1, n1, c1, ys, fs, rfl, rfl, k1, k2, k3, k4⟩ := h
  exact ⟨A1, n1, c1, ys ++ dsL d.media d.dig d.size (.slice A n c), fs ++ [.own B 70 2 (.slice A n c) n (ntsL d.notes)], by simp, by simp, k1, k2, k3, k4.snoc h1 h2 h3⟩
theorem NL.lens {B : Nat} : ∀ {ds : List MDesc} {xs : List Value} {es : List Ent}, NL B ds xs es → xs.length = ds.length * 35 ∧ es.length = ds.length
 | [], xs, es, h => by obtain ⟨rfl, rfl⟩ := h; exact ⟨rfl, rfl⟩
 | x :: ds, xs, es, h => by
  obtain ⟨A1, n1, c1, ys, fs, rfl, rfl, k1, k2, k3, k4⟩ := h
  have := k4.lens
  rw [List.length_append, dsL_len k3, this.1, List.length_cons, List.length_cons, this.2]
  exact ⟨by omega, rfl⟩
theorem NL.at {B : Nat} : ∀ {ds : List MDesc} {xs : List Value} {es : List Ent} {i : Nat} {d : MDesc}, NL B ds xs es → ds[i]? = some d → ∃ A n c, (xs.drop (i * 35)).take 35 = dsL d.media d.dig d.size (.slice A n c) ∧ xs[i * 35 + 34]? = some (.slice A n c) ∧ es[i]? = some (.own B 70 2 (.slice A n c) n (ntsL d.notes)) ∧ n = d.notes.length ∧ n ≤ c ∧ d.dig.length = 32
 | [], _, _, _, _, _, h => by cases h
 | x :: ds, xs, es, i, d, h, hi => by
  obtain ⟨A1, n1, c1, ys, fs, rfl, rfl, k1, k2, k3, k4⟩ := h
  have hl := dsL_len (m := x.media) (z := x.size) (nt := .slice A1 n1 c1) k3
  cases i with
  | zero =>
   injection hi with hi
   subst hi
   refine ⟨A1, n1, c1, by rw [Nat.zero_mul, List.drop_zero, List.take_left' hl], ?_, rfl, k1, k2, k3⟩
   rw [List.getElem?_append_left (by rw [hl]; decide)]
   exact dsL_notes k3
  | succ i =>
   obtain ⟨A, n, c, h1, h2, h3, h4⟩ := k4.at (i := i) (by simpa using hi)
   refine ⟨A, n, c, ?_, ?_, by simpa using h3, h4⟩
   ·rw [show (i + 1) * 35 = (dsL x.media x.dig x.size (.slice A1 n1 c1)).length + i * 35 by rw [hl]; omega, ← List.drop_drop, List.drop_left]
    exact h1
   ·rw [List.getElem?_append_right (by rw [hl]; omega), hl, show (i + 1) * 35 + 34 - 35 = i * 35 + 34 by omega]
    exact h2
theorem NL.rdE {B : Nat} {ds : List MDesc} {xs : List Value} {NE es : List Ent} {X : List Nat} {w0 w : World} {A : Option Addr} {n c : Nat} (h : NL B ds xs NE) (hF : Fr X w0 w es) (hs : ∀ e ∈ NE, e ∈ es) (hr : Rd w (· < w.heap.size) A 35 n xs) (hn : n = ds.length) (hc : n ≤ c) : RdE w ds (.slice A n c) := by
 refine ⟨A, n, c, xs, hc, hn, rfl, hr, fun i d hd => ?_⟩
 obtain ⟨A1, n1, c1, h1, _, h3, h4, h5, h6⟩ := h.at hd
 rw [h1]
 obtain ⟨j, hj⟩ := List.mem_iff_getElem?.1 (hs _ (List.mem_of_getElem? h3))
 exact ⟨_, h6, ⟨A1, n1, c1, h5, h4, rfl, hF.rdOwn hj⟩, rfl⟩
theorem spl_notes {ys zs : List Value} {m dg : List UInt8} {z : Int} {nt nt' : Value} {i : Nat} (hy : ys.length = i * 35) (hd : dg.length = 32) : spl (ys ++ (dsL m dg z nt ++ zs)) (i * 35 + 34) [nt'] = ys ++ (dsL m dg z nt' ++ zs) := by
 have := spl_mid (p := ys ++ (strv m :: (dg.map bv ++ [.int .i64 z]))) (q := [nt]) (r := zs) (ds := [nt']) (off := i * 35 + 34) (by simp [hd, hy]) rfl
 simpa [dsL] using this
/-- What the program's Needs tells. -/
def PNd (w : World) (ds : List MDesc) (e : Ending) (w' : World) : Prop :=
 ∃ A n c xs NE, e = .returned (.slice A n c) ∧ n = ds.length ∧ n ≤ c ∧ NL w.heap.size ds xs NE ∧ Fr [] w w' (.own w.heap.size 28 35 (.slice A n c) n xs :: NE)
theorem dl_ones {w : World} : ∀ {ds : List MDesc} {xs : List Value}, DLr w ds xs → ∀ u ∈ xs, u.oneCell' = true
 | [], xs, h, u, hu => by
  have := h.1
  rw [List.length_nil, Nat.zero_mul] at this
  rw [List.eq_nil_of_length_eq_zero this] at hu
  cases hu
 | d :: ds, xs, h, u, hu => by
  obtain ⟨cs, zs, rfl, h1, h2⟩ := h.at0
  rcases List.mem_append.1 hu with hu | hu
  ·exact h1.ones u hu
  ·exact dl_ones h2 u hu
theorem nperm {α : Type} (o l g : α) (ne : List α) : (o :: l :: g :: ne).Perm (l :: g :: (ne ++ [o])) := by
 have h : (o :: l :: g :: ne) = [o] ++ (l :: g :: ne) := rfl
 rw [h]
 exact List.perm_append_comm.trans (by simp)
set_option maxRecDepth 20000 in
set_option maxHeartbeats 12800000 in
theorem pneeds_any (D : MDoc) (cs : List Value) (w : World) (hDD : RdDoc w D cs) (hsm0 : DcSm D) :
  Calls Tryz.prog 24 #[.agg cs.toArray] w (PNd w (mNeeds D)) := by
 have hsm : Box (∀ x ∈ mNeeds D, x.notes.length ≤ 1000000) := box (fun x hx => by
  unfold mNeeds at hx
  rcases List.mem_append.1 hx with hx | hx
  ·split at hx
   ·rw [List.mem_singleton.1 hx]; exact hsm0.2.2.1.2.1
   ·cases hx
  ·exact (hsm0.2.2.2.1.2 x hx).2.1)
 have hes : D.edges.length ≤ 1000000 := hsm0.2.2.2.1.1
 obtain ⟨cf, eg, sj, nt, hC0, ⟨Ae, ne, ce, xe, hnce, hne', rfl, hre0, hEd0⟩, hS0, ⟨An, nq, cn, hnn0, hnq', rfl, hrn0⟩, rfl⟩ := hDD
 have hcl := box hC0.len
 have hco := box hC0.ones
 have hsl := box hS0.len
 have hre := box hre0
 have hCf := box (DLr.one hC0)
 have hXe : Box (DLr w D.edges xe) := box ⟨by rw [hre0.len, hne'], hEd0⟩
 have hxo : Box (∀ u ∈ xe, u.oneCell' = true) := box (dl_ones hXe.out)
 have hne := box hne'
 obtain ⟨m, hm'⟩ : ∃ m, D.media = m := ⟨_, rfl⟩
 have hm := box hm'
 rw [hm']
 clear hC0 hS0 hre0 hEd0 hnq' hrn0 hne' hm' hnn0
 have hF0 := Fr.nil w
 have hne6 : ne ≤ 1000000 := by rw [hne.out]; exact hes
 clear hsm0 hes
 by_cases hi : m = sImage
 ·skip
  have e1 : (m == [97, 112, 112, 108, 105, 99, 97, 116, 105, 111, 110, 47, 118, 110, 100, 46, 111, 99, 105, 46, 105, 109, 97, 103, 101, 46, 109, 97, 110, 105, 102, 101, 115, 116, 46, 118, 49, 43, 106, 115, 111, 110]) = true := by rw [beq_iff_eq]; exact hi
  have hnd : Box (mNeeds D = ([D.config] ++ D.edges)) := box (by unfold mNeeds; rw [hm.out, if_pos hi])
  replace hi := box hi
  rw [hnd.out]
  have hAll : Box (DLr w ([D.config] ++ D.edges) (cf ++ xe)) := box (hCf.out.app hXe.out)
  have hlen : ([D.config] ++ D.edges).length = 1 + ne := by rw [List.length_append, ← hne.out]; rfl
  obtain ⟨ds, hds⟩ : ∃ ds, ds = ([D.config] ++ D.edges) := ⟨_, rfl⟩
  rw [← hds] at hAll hlen hnd
  rw [hnd.out] at hsm
  rw [← hds]
  clear hds
  go_enter Tryz.func24, Tryz.ntmps24
  go_upto_region 3 with (first | ((with_reducible refine lst (by with_unfolding_all rfl) (wp_fbox hF0 (cs := (docL m D.type cf (.slice Ae ne ce) sj D.has (.slice An nq cn))) rfl (by with_unfolding_all rfl) (by with_unfolding_all rfl) ?_)); intro w1 g1 hF1 hz1) | (with_reducible refine lst (by with_unfolding_all rfl) (wp_fld0 hF1 Tryz.underlying9 rfl (by with_unfolding_all exact ⟨_, rfl, rfl⟩) docL_m0 ?_)))
  have hF2 := hF1.none_ w.heap.size 28 35
  clear hF1
  go_upto_region 4 with (first | (with_reducible refine lst (by with_unfolding_all rfl) (wp_fldA1 hF2 Tryz.underlying28 rfl (by with_unfolding_all exact ⟨_, rfl, rfl⟩) (ds := cf) (by rw [hcl.out]; kernel_rfl) (by rw [hcl.out]; exact docL_cf hcl.out) ?_)) | ((with_reducible refine lst (by with_unfolding_all rfl) (wp_fbs1 T_descs hF2 (by with_unfolding_all rfl) (ds := cf) (by with_unfolding_all rfl) hcl.out (by decide) ?_)); intro w3 g3 hF3 hz3) | ((with_reducible refine lst (by with_unfolding_all rfl) (wp_fappG T_descs hF3 (i := 1) rfl (Nat.le_refl _) hF3.rdOwn0 hco.out (by with_unfolding_all exact ⟨_, _, rfl, rfl, rfl⟩) (by unfold maxLen; omega) (by omega) ?_)); intro v4 w4 hF4 hz4; simp only [List.set_cons_zero, List.set_cons_succ] at hF4; obtain ⟨A4, c4, rfl, hc4⟩ := hF4.ownParts (i := 1) rfl))
  have hF5 := hF4.tail
  clear hF2 hF3 hF4
  have hre5 := hre.out.below hF5.below
  go_wp2_with (first | (with_reducible refine lst (by with_unfolding_all rfl) (wp_fld1 hF5 Tryz.underlying29 rfl (by with_unfolding_all exact ⟨_, rfl, rfl⟩) (docL_eg hcl.out) ?_)) | ((with_reducible refine lst (by with_unfolding_all rfl) (wp_fappG T_descs hF5 (i := 0) rfl (Nat.le_refl _) hre5 hxo.out (by with_unfolding_all exact ⟨_, _, rfl, rfl, rfl⟩) (by unfold maxLen; omega) (by omega) ?_)); intro v6 w6 hF6 hz6; simp only [List.set_cons_zero, List.set_cons_succ] at hF6; obtain ⟨A6, c6, rfl, hc6⟩ := hF6.ownParts (i := 0) rfl))
  skip
  have hNl : Box ((1 + ne) = ds.length) := box (by omega)
  clear hlen
  have hF7 : Fr [] w w6 (.own w.heap.size 28 35 (.slice A6 (1 + ne) c6) (1 + ne) (cf ++ xe) :: .blk g1 31 (docL m D.type cf (.slice Ae ne ce) sj D.has (.slice An nq cn)) :: []) := by
   have h := hF6
   exact h
  have hc7 : (1 + ne) ≤ c6 := by omega
  clear hF6 hc6 hF5 hre5
  have hNe : (1 + ne) ≤ 1000001 := by omega
  go_loopg [19] (1 + ne) (fun g iv wr => ∃ (i : Nat) (ys zs : List Value) (NE : List Ent), i ≤ (1 + ne) ∧ Box (g = (1 + ne) - i) ∧ iv = .int .i64 (i : Int) ∧ Box (NL w.heap.size (ds.take i) ys NE) ∧ Box (DLr w (ds.drop i) zs) ∧ Fr [] w wr (.own w.heap.size 28 35 (.slice A6 (1 + ne) c6) (1 + ne) (ys ++ zs) :: .blk g1 31 (docL m D.type cf (.slice Ae ne ce) sj D.has (.slice An nq cn)) :: NE))
  case atStart => exact ⟨0, [], _, [], by omega, box rfl, rfl, box ⟨rfl, rfl⟩, hAll, hF7⟩
  case round =>
   clear hF7 hAll
   obtain ⟨i, ys, zs, NE, hi2, hgi, rfl, hNL, hZ, hF⟩ := hrel
   have hkk : Box (_ = (1 + ne) - i) := hgi
   clear hgi
   have hyl := hNL.out.lens
   by_cases hlt : i < (1 + ne)
   ·obtain ⟨x, hx'⟩ : ∃ x, ds[i]? = some x := ⟨ds[i]'(by rw [← hNl.out]; exact hlt), by simp⟩
    have hZ2 := hZ.out
    rw [List.drop_eq_getElem_cons (List.getElem?_eq_some_iff.1 hx').1, (List.getElem?_eq_some_iff.1 hx').2] at hZ2
    obtain ⟨cs1, zs1, rfl, hcs1, hzs1⟩ := hZ2.at0
    obtain ⟨nt1, hd1, ⟨A1, n1, c1, hnc1, hn1, rfl, hr1⟩, rfl⟩ := hcs1
    have hyl1 : ys.length = i * 35 := by rw [hyl.1, List.length_take, ← hNl.out]; omega
    have hcell : Box ((ys ++ (dsL x.media x.dig x.size (.slice A1 n1 c1) ++ zs1))[i * 35 + 34]? = some (.slice A1 n1 c1)) := box (by
     rw [List.getElem?_append_right (by omega), hyl1, Nat.add_sub_cancel_left, List.getElem?_append_left (by rw [dsL_len hd1]; decide)]
     exact dsL_notes hd1)
    have hspl := box (fun nt' => spl_notes (ys := ys) (zs := zs1) (m := x.media) (z := x.size) (nt := .slice A1 n1 c1) (nt' := nt') hyl1 hd1)
    have hn1b : n1 ≤ 1000000 := by rw [hn1]; exact hsm.out x (List.mem_of_getElem? hx')
    have hx := box hx'
    have hn1' := box hn1
    have hzs := box hzs1
    have hdl := box hd1
    have hNL1 := box (fun (B : Option Addr) (d : Nat) (h : n1 ≤ d) => by rw [take_snoc1 hx']; exact hNL.out.snoc (A := B) (c := d) hn1 h hd1 : ∀ (B : Option Addr) (d : Nat), n1 ≤ d → NL w.heap.size (ds.take (i + 1)) (ys ++ dsL x.media x.dig x.size (.slice B n1 d)) (NE ++ [.own w.heap.size 70 2 (.slice B n1 d) n1 (ntsL x.notes)]))
    clear hZ2 hzs1 hd1 hn1 hx' hyl hyl1 hNL hZ
    have hr1b := box hr1
    clear hr1
    go_wp2_with (first | ((with_reducible refine lst (by with_unfolding_all rfl) (wp_fbs0 T_notes hF (by with_unfolding_all rfl) ?_)); intro w11 g11 hF11 hz11) | (with_reducible refine lst (by with_unfolding_all rfl) (wp_indexAddr T_descs (hF11.rdOwn (i := 1) rfl) (by with_unfolding_all exact ⟨_, _, _, _, rfl, rfl, rfl⟩) (by omega) (by omega) ?_)) | (with_reducible refine lst (by with_unfolding_all rfl) (wp_load1C (j := i * 35 + 34) (hF11.rdOwn (i := 1) rfl) hcell Tryz.underlying26 rfl (by with_unfolding_all exact ⟨_, rfl, congrArg (fun p => Value.pointer (some p)) (atp_fld A6 (i * 35) 34 (by decide))⟩) rfl ?_)) | ((with_reducible refine lst (by with_unfolding_all rfl) (wp_fappG T_notes hF11 (i := 0) rfl (Nat.le_refl _) (hr1b.out.below hF11.below) (ntsL_one _) (by with_unfolding_all exact ⟨_, _, rfl, rfl, rfl⟩) (by unfold maxLen; omega) (by omega) ?_)); intro v12 w12 hF12 hz12; simp only [List.set_cons_zero, List.set_cons_succ] at hF12; obtain ⟨A12, c12, rfl, hc12⟩ := hF12.ownParts (i := 0) rfl) | (with_reducible refine lst (by with_unfolding_all rfl) (wp_indexAddr T_descs (hF12.rdOwn (i := 1) rfl) (by with_unfolding_all exact ⟨_, _, _, _, rfl, rfl, rfl⟩) (by omega) (by omega) ?_)) | ((with_reducible refine lst (by with_unfolding_all rfl) (wp_fstX1 hF12 (i := 1) rfl (j := i * 35 + 34) (v := .slice A12 n1 c12) (by omega) (by with_unfolding_all exact ⟨_, _, rfl, congrArg (fun p => Value.pointer (some p)) (atp_fld A6 (i * 35) 34 (by decide)), rfl⟩) (by kernel_rfl) rfl rfl ?_)); intro w13 hF13 hz13; simp only [List.set_cons_zero, List.set_cons_succ] at hF13))
    rw [hspl.out] at hF13
    have hc12' : n1 ≤ c12 := by omega
    have hF14 : Fr [] w w13 (.own w.heap.size 70 2 (.slice A12 n1 c12) n1 (ntsL x.notes) :: .own w.heap.size 28 35 (.slice A6 (1 + ne) c6) (1 + ne) (ys ++ (dsL x.media x.dig x.size (.slice A12 n1 c12) ++ zs1)) :: .blk g1 31 (docL m D.type cf (.slice Ae ne ce) sj D.has (.slice An nq cn)) :: NE) := by
     have h := hF13
     rw [Nat.zero_add n1] at h
     exact h
    clear hF11 hF12 hF13
    go_roundg ((1 + ne) - (i + 1))
    case rel => exact ⟨i + 1, ys ++ dsL x.media x.dig x.size (.slice A12 n1 c12), zs1, NE ++ [.own w.heap.size 70 2 (.slice A12 n1 c12) n1 (ntsL x.notes)], by omega, box rfl, by go_num, box (hNL1.out A12 c12 hc12'), hzs, by rw [List.append_assoc]; exact hF14.perm (nperm _ _ _ _)⟩
    case measure => have := hkk.out; omega
   ·have hie : i = (1 + ne) := by omega
    subst hie
    have htk : ds.take (1 + ne) = ds := by rw [hNl.out]; exact List.take_length
    have hz0 : zs = [] := by
     have := hZ.out.1
     rw [List.drop_of_length_le (by rw [hNl.out]; exact Nat.le_refl _)] at this
     exact List.eq_nil_of_length_eq_zero this
    subst hz0
    rw [htk] at hNL
    rw [List.append_nil] at hF
    go_wp2_with fail
    go_ret
    unfold PNd
    exact ⟨A6, (1 + ne), c6, ys, NE, rfl, hNl.out, hc7, hNL.out, hF.drop1⟩
 ·skip
  have e1 : (m == [97, 112, 112, 108, 105, 99, 97, 116, 105, 111, 110, 47, 118, 110, 100, 46, 111, 99, 105, 46, 105, 109, 97, 103, 101, 46, 109, 97, 110, 105, 102, 101, 115, 116, 46, 118, 49, 43, 106, 115, 111, 110]) = false := by rw [beq_eq_false_iff_ne]; exact hi
  have hnd : Box (mNeeds D = ([] ++ D.edges)) := box (by unfold mNeeds; rw [hm.out, if_neg hi])
  replace hi := box hi
  rw [hnd.out]
  have hAll : Box (DLr w ([] ++ D.edges) ([] ++ xe)) := box ((DLr.nil w).app hXe.out)
  have hlen : ([] ++ D.edges).length = 0 + ne := by rw [List.length_append, ← hne.out]; rfl
  obtain ⟨ds, hds⟩ : ∃ ds, ds = ([] ++ D.edges) := ⟨_, rfl⟩
  rw [← hds] at hAll hlen hnd
  rw [hnd.out] at hsm
  rw [← hds]
  clear hds
  go_enter Tryz.func24, Tryz.ntmps24
  go_upto_region 4 with (first | ((with_reducible refine lst (by with_unfolding_all rfl) (wp_fbox hF0 (cs := (docL m D.type cf (.slice Ae ne ce) sj D.has (.slice An nq cn))) rfl (by with_unfolding_all rfl) (by with_unfolding_all rfl) ?_)); intro w1 g1 hF1 hz1) | (with_reducible refine lst (by with_unfolding_all rfl) (wp_fld0 hF1 Tryz.underlying9 rfl (by with_unfolding_all exact ⟨_, rfl, rfl⟩) docL_m0 ?_)))
  have hF5 := hF1.none_ w.heap.size 28 35
  clear hF1
  have hre5 := hre.out.below hF5.below
  go_wp2_with (first | (with_reducible refine lst (by with_unfolding_all rfl) (wp_fld1 hF5 Tryz.underlying29 rfl (by with_unfolding_all exact ⟨_, rfl, rfl⟩) (docL_eg hcl.out) ?_)) | ((with_reducible refine lst (by with_unfolding_all rfl) (wp_fappG T_descs hF5 (i := 0) rfl (Nat.le_refl _) hre5 hxo.out (by with_unfolding_all exact ⟨_, _, rfl, rfl, rfl⟩) (by unfold maxLen; omega) (by omega) ?_)); intro v6 w6 hF6 hz6; simp only [List.set_cons_zero, List.set_cons_succ] at hF6; obtain ⟨A6, c6, rfl, hc6⟩ := hF6.ownParts (i := 0) rfl))
  skip
  have hNl : Box (ne = ds.length) := box (by omega)
  clear hlen
  have hF7 : Fr [] w w6 (.own w.heap.size 28 35 (.slice A6 ne c6) ne ([] ++ xe) :: .blk g1 31 (docL m D.type cf (.slice Ae ne ce) sj D.has (.slice An nq cn)) :: []) := by
   have h := hF6
   rw [Nat.zero_add ne] at h
   exact h
  have hc7 : ne ≤ c6 := by omega
  clear hF6 hc6 hF5 hre5
  have hNe : ne ≤ 1000001 := by omega
  go_loopg [19] ne (fun g iv wr => ∃ (i : Nat) (ys zs : List Value) (NE : List Ent), i ≤ ne ∧ Box (g = ne - i) ∧ iv = .int .i64 (i : Int) ∧ Box (NL w.heap.size (ds.take i) ys NE) ∧ Box (DLr w (ds.drop i) zs) ∧ Fr [] w wr (.own w.heap.size 28 35 (.slice A6 ne c6) ne (ys ++ zs) :: .blk g1 31 (docL m D.type cf (.slice Ae ne ce) sj D.has (.slice An nq cn)) :: NE))
  case atStart => exact ⟨0, [], _, [], by omega, box rfl, rfl, box ⟨rfl, rfl⟩, hAll, hF7⟩
  case round =>
   clear hF7 hAll
   obtain ⟨i, ys, zs, NE, hi2, hgi, rfl, hNL, hZ, hF⟩ := hrel
   have hkk : Box (_ = ne - i) := hgi
   clear hgi
   have hyl := hNL.out.lens
   by_cases hlt : i < ne
   ·obtain ⟨x, hx'⟩ : ∃ x, ds[i]? = some x := ⟨ds[i]'(by rw [← hNl.out]; exact hlt), by simp⟩
    have hZ2 := hZ.out
    rw [List.drop_eq_getElem_cons (List.getElem?_eq_some_iff.1 hx').1, (List.getElem?_eq_some_iff.1 hx').2] at hZ2
    obtain ⟨cs1, zs1, rfl, hcs1, hzs1⟩ := hZ2.at0
    obtain ⟨nt1, hd1, ⟨A1, n1, c1, hnc1, hn1, rfl, hr1⟩, rfl⟩ := hcs1
    have hyl1 : ys.length = i * 35 := by rw [hyl.1, List.length_take, ← hNl.out]; omega
    have hcell : Box ((ys ++ (dsL x.media x.dig x.size (.slice A1 n1 c1) ++ zs1))[i * 35 + 34]? = some (.slice A1 n1 c1)) := box (by
     rw [List.getElem?_append_right (by omega), hyl1, Nat.add_sub_cancel_left, List.getElem?_append_left (by rw [dsL_len hd1]; decide)]
     exact dsL_notes hd1)
    have hspl := box (fun nt' => spl_notes (ys := ys) (zs := zs1) (m := x.media) (z := x.size) (nt := .slice A1 n1 c1) (nt' := nt') hyl1 hd1)
    have hn1b : n1 ≤ 1000000 := by rw [hn1]; exact hsm.out x (List.mem_of_getElem? hx')
    have hx := box hx'
    have hn1' := box hn1
    have hzs := box hzs1
    have hdl := box hd1
    have hNL1 := box (fun (B : Option Addr) (d : Nat) (h : n1 ≤ d) => by rw [take_snoc1 hx']; exact hNL.out.snoc (A := B) (c := d) hn1 h hd1 : ∀ (B : Option Addr) (d : Nat), n1 ≤ d → NL w.heap.size (ds.take (i + 1)) (ys ++ dsL x.media x.dig x.size (.slice B n1 d)) (NE ++ [.own w.heap.size 70 2 (.slice B n1 d) n1 (ntsL x.notes)]))
    clear hZ2 hzs1 hd1 hn1 hx' hyl hyl1 hNL hZ
    have hr1b := box hr1
    clear hr1
    go_wp2_with (first | ((with_reducible refine lst (by with_unfolding_all rfl) (wp_fbs0 T_notes hF (by with_unfolding_all rfl) ?_)); intro w11 g11 hF11 hz11) | (with_reducible refine lst (by with_unfolding_all rfl) (wp_indexAddr T_descs (hF11.rdOwn (i := 1) rfl) (by with_unfolding_all exact ⟨_, _, _, _, rfl, rfl, rfl⟩) (by omega) (by omega) ?_)) | (with_reducible refine lst (by with_unfolding_all rfl) (wp_load1C (j := i * 35 + 34) (hF11.rdOwn (i := 1) rfl) hcell Tryz.underlying26 rfl (by with_unfolding_all exact ⟨_, rfl, congrArg (fun p => Value.pointer (some p)) (atp_fld A6 (i * 35) 34 (by decide))⟩) rfl ?_)) | ((with_reducible refine lst (by with_unfolding_all rfl) (wp_fappG T_notes hF11 (i := 0) rfl (Nat.le_refl _) (hr1b.out.below hF11.below) (ntsL_one _) (by with_unfolding_all exact ⟨_, _, rfl, rfl, rfl⟩) (by unfold maxLen; omega) (by omega) ?_)); intro v12 w12 hF12 hz12; simp only [List.set_cons_zero, List.set_cons_succ] at hF12; obtain ⟨A12, c12, rfl, hc12⟩ := hF12.ownParts (i := 0) rfl) | (with_reducible refine lst (by with_unfolding_all rfl) (wp_indexAddr T_descs (hF12.rdOwn (i := 1) rfl) (by with_unfolding_all exact ⟨_, _, _, _, rfl, rfl, rfl⟩) (by omega) (by omega) ?_)) | ((with_reducible refine lst (by with_unfolding_all rfl) (wp_fstX1 hF12 (i := 1) rfl (j := i * 35 + 34) (v := .slice A12 n1 c12) (by omega) (by with_unfolding_all exact ⟨_, _, rfl, congrArg (fun p => Value.pointer (some p)) (atp_fld A6 (i * 35) 34 (by decide)), rfl⟩) (by kernel_rfl) rfl rfl ?_)); intro w13 hF13 hz13; simp only [List.set_cons_zero, List.set_cons_succ] at hF13))
    rw [hspl.out] at hF13
    have hc12' : n1 ≤ c12 := by omega
    have hF14 : Fr [] w w13 (.own w.heap.size 70 2 (.slice A12 n1 c12) n1 (ntsL x.notes) :: .own w.heap.size 28 35 (.slice A6 ne c6) ne (ys ++ (dsL x.media x.dig x.size (.slice A12 n1 c12) ++ zs1)) :: .blk g1 31 (docL m D.type cf (.slice Ae ne ce) sj D.has (.slice An nq cn)) :: NE) := by
     have h := hF13
     rw [Nat.zero_add n1] at h
     exact h
    clear hF11 hF12 hF13
    go_roundg (ne - (i + 1))
    case rel => exact ⟨i + 1, ys ++ dsL x.media x.dig x.size (.slice A12 n1 c12), zs1, NE ++ [.own w.heap.size 70 2 (.slice A12 n1 c12) n1 (ntsL x.notes)], by omega, box rfl, by go_num, box (hNL1.out A12 c12 hc12'), hzs, by rw [List.append_assoc]; exact hF14.perm (nperm _ _ _ _)⟩
    case measure => have := hkk.out; omega
   ·have hie : i = ne := by omega
    subst hie
    have htk : ds.take i = ds := by rw [hNl.out]; exact List.take_length
    have hz0 : zs = [] := by
     have := hZ.out.1
     rw [List.drop_of_length_le (by rw [hNl.out]; exact Nat.le_refl _)] at this
     exact List.eq_nil_of_length_eq_zero this
    subst hz0
    rw [htk] at hNL
    rw [List.append_nil] at hF
    go_wp2_with fail
    go_ret
    unfold PNd
    exact ⟨A6, i, c6, ys, NE, rfl, hNl.out, hc7, hNL.out, hF.drop1⟩
end Go.Proofs.YtlhicfpmlncomaaGreatDoor

namespace Go.Proofs.YtlhicfpmlncomaaGreatDoor
open Go.RowKit
set_option linter.unusedSimpArgs false
set_option linter.unusedVariables false
theorem DLr.elem {w : World} {ds : List MDesc} {xs : List Value} {i : Nat} {d : MDesc} (h : DLr w ds xs) (hi : ds[i]? = some d) : RdD w d ((xs.drop (i * 35)).take 35) := h.2 i d hi
theorem DLr.rdE {w : World} {ds : List MDesc} {xs : List Value} {A : Option Addr} {n c : Nat} (h : DLr w ds xs) (hn : n = ds.length) (hc : n ≤ c) (hr : Rd w (· < w.heap.size) A 35 n xs) : RdE w ds (.slice A n c) := ⟨A, n, c, xs, hc, hn, rfl, hr, h.2⟩
/-- What the document's Needs tells. -/
def RNd (w : World) (ds : List MDesc) (e : Ending) (w' : World) : Prop := ∃ v, e = .returned v ∧ RdE w' ds v ∧ Below w.heap.size w w'
set_option maxRecDepth 20000 in
set_option maxHeartbeats 12800000 in
theorem rneeds_any (D : MDoc) (cs : List Value) (w : World) (hDD : RdDoc w D cs) (hes : D.edges.length ≤ 1000000) :
  Calls Tryz.prog 27 #[.agg cs.toArray] w fun e w' => ∃ v, e = .returned v ∧ RdE w' (mNeeds D) v ∧ Below w.heap.size w w' := by
 suffices h : Calls Tryz.prog 27 #[.agg cs.toArray] w (RNd w (mNeeds D)) from h
 obtain ⟨cf, eg, sj, nt, hC0, ⟨Ae, ne, ce, xe, hnce, hne', rfl, hre0, hEd0⟩, hS0, ⟨An, nq, cn, hnn0, hnq', rfl, hrn0⟩, rfl⟩ := hDD
 have hcl := box hC0.len
 have hco := box hC0.ones
 have hsl := box hS0.len
 have hre := box hre0
 have hCf := box (DLr.one hC0)
 have hXe : Box (DLr w D.edges xe) := box ⟨by rw [hre0.len, hne'], hEd0⟩
 have hne := box hne'
 obtain ⟨m, hm'⟩ : ∃ m, D.media = m := ⟨_, rfl⟩
 have hm := box hm'
 rw [hm']
 clear hC0 hS0 hre0 hEd0 hnq' hrn0 hne' hm' hnn0
 have hF0 := Fr.nil w
 have hne6 : ne ≤ 1000000 := by rw [hne.out]; exact hes
 clear hes
 by_cases hi : m = sImage
 ·skip
  have e1 : (m == [97, 112, 112, 108, 105, 99, 97, 116, 105, 111, 110, 47, 118, 110, 100, 46, 111, 99, 105, 46, 105, 109, 97, 103, 101, 46, 109, 97, 110, 105, 102, 101, 115, 116, 46, 118, 49, 43, 106, 115, 111, 110]) = true := by rw [beq_iff_eq]; exact hi
  have hnd : Box (mNeeds D = [D.config] ++ D.edges) := box (by unfold mNeeds; rw [hm.out, if_pos hi])
  replace hi := box hi
  rw [hnd.out]
  obtain ⟨pre, hpre⟩ : ∃ pre : List MDesc, pre = [D.config] := ⟨_, rfl⟩
  have hpl : Box (pre.length = 1) := box (by rw [hpre]; rfl)
  have hP : Box (DLr w pre cf) := box (by rw [hpre]; exact hCf.out)
  rw [← hpre] at hnd
  rw [← hpre]
  clear hpre
  go_enter Tryz.func27, Tryz.ntmps27
  go_upto_region 3 with (first | ((with_reducible refine lst (by with_unfolding_all rfl) (wp_fbox hF0 (cs := (docL m D.type cf (.slice Ae ne ce) sj D.has (.slice An nq cn))) rfl (by with_unfolding_all rfl) (by with_unfolding_all rfl) ?_)); intro w1 g1 hF1 hz1) | (with_reducible refine lst (by with_unfolding_all rfl) (wp_fld0 hF1 Tryz.underlying9 rfl (by with_unfolding_all exact ⟨_, rfl, rfl⟩) docL_m0 ?_)))
  have hF2 := hF1.none_ w.heap.size 37 35
  clear hF1
  go_upto_region 4 with (first | (with_reducible refine lst (by with_unfolding_all rfl) (wp_fldA1 hF2 Tryz.underlying37 rfl (by with_unfolding_all exact ⟨_, rfl, rfl⟩) (ds := cf) (by rw [hcl.out]; kernel_rfl) (by rw [hcl.out]; exact docL_cf hcl.out) ?_)) | ((with_reducible refine lst (by with_unfolding_all rfl) (wp_fbs1 T_rdescs hF2 (by with_unfolding_all rfl) (ds := cf) (by with_unfolding_all rfl) hcl.out (by decide) ?_)); intro w3 g3 hF3 hz3) | ((with_reducible refine lst (by with_unfolding_all rfl) (wp_fappG T_rdescs hF3 (i := 1) rfl (Nat.le_refl _) hF3.rdOwn0 hco.out (by with_unfolding_all exact ⟨_, _, rfl, rfl, rfl⟩) (by unfold maxLen; omega) (by omega) ?_)); intro v4 w4 hF4 hz4; simp only [List.set_cons_zero, List.set_cons_succ] at hF4; obtain ⟨A4, c4, rfl, hc4⟩ := hF4.ownParts (i := 1) rfl))
  have hF5 := hF4.tail
  clear hF2 hF3 hF4
  go_wp2_with fail
  go_loopg [3, 4] ne (fun gk ov iv wr => ∃ (i : Nat) (A : Option Addr) (k c : Nat) (xs : List Value), i ≤ ne ∧ Box (gk = ne - i) ∧ ov = .slice A k c ∧ iv = .int .i64 (i : Int) ∧ k ≤ c ∧ k = pre.length + i ∧ Box (DLr w (pre ++ D.edges.take i) xs) ∧ Fr [] w wr (.own w.heap.size 37 35 (.slice A k c) k xs :: .blk g1 40 (docL m D.type cf (.slice Ae ne ce) sj D.has (.slice An nq cn)) :: []))
  case atStart => exact ⟨0, A4, 1, c4, cf, by omega, box rfl, rfl, rfl, by omega, by rw [hpl.out], box (by rw [List.take_zero, List.append_nil]; exact hP.out), hF5⟩
  case round =>
   clear hF5
   obtain ⟨i, A, k, c, xs, hi2, hgi, rfl, rfl, hkc, hk, hxs, hF⟩ := hrel
   have hkk : Box (_ = ne - i) := hgi
   clear hgi
   rw [hpl.out] at hk
   have hkb : k ≤ 1000001 := by omega
   replace hk := box hk
   by_cases hlt : i < ne
   ·obtain ⟨x, hx'⟩ : ∃ x, D.edges[i]? = some x := ⟨D.edges[i]'(by rw [← hne.out]; exact hlt), by simp⟩
    have hd0 := hXe.out.elem hx'
    obtain ⟨c1, hc1'⟩ : ∃ c1, (xe.drop (i * 35)).take 35 = c1 := ⟨_, rfl⟩
    rw [hc1'] at hd0
    have hc1 := box hc1'
    have hcl1 := box hd0.len
    have hco1 := box hd0.ones
    have hxs2 := box (hxs.out.app (DLr.one hd0))
    rw [List.append_assoc, ← take_snoc1 hx'] at hxs2
    clear hd0 hx' hc1' hxs
    have hre' := hre.out.below hF.below
    go_wp2_with (first | (with_reducible refine lst (by with_unfolding_all rfl) (wp_fld1 hF Tryz.underlying38 rfl (by with_unfolding_all exact ⟨_, rfl, rfl⟩) (docL_eg hcl.out) ?_)) | (with_reducible refine lst (by with_unfolding_all rfl) (wp_indexAddr T_rdescs hre' (by with_unfolding_all exact ⟨_, _, _, _, rfl, rfl, rfl⟩) (by omega) (by omega) ?_)) | (with_reducible refine lst (by with_unfolding_all rfl) (wp_loadA hre' Tryz.underlying37 rfl (by with_unfolding_all exact ⟨_, rfl, rfl⟩) (ds := c1) (by rw [hcl1.out]; kernel_rfl) (by rw [hcl1.out]; with_unfolding_all exact hc1.out) ?_)) | ((with_reducible refine lst (by with_unfolding_all rfl) (wp_fbs1 T_rdescs hF (by with_unfolding_all rfl) (ds := c1) (by with_unfolding_all rfl) hcl1.out (by decide) ?_)); intro w3 g3 hF3 hz3) | ((with_reducible refine lst (by with_unfolding_all rfl) (wp_fappG T_rdescs hF3 (i := 1) rfl (Nat.le_refl _) hF3.rdOwn0 hco1.out (by with_unfolding_all exact ⟨_, _, rfl, rfl, rfl⟩) (by unfold maxLen; omega) (by omega) ?_)); intro v4 w4 hF4 hz4; simp only [List.set_cons_zero, List.set_cons_succ] at hF4; obtain ⟨A4, c4, rfl, hc4⟩ := hF4.ownParts (i := 1) rfl))
    clear hF hF3 hre'
    go_roundg (ne - (i + 1))
    case rel => exact ⟨i + 1, A4, k + 1, c4, xs ++ c1, by omega, box rfl, rfl, by go_num, hc4, by rw [hpl.out, hk.out]; omega, hxs2, hF4.tail⟩
    case measure => have := hkk.out; omega
   ·have hie : i = ne := by omega
    subst hie
    have hta : D.edges.take i = D.edges := by rw [hne.out]; exact List.take_length
    rw [hta] at hxs
    have hlen : Box (k = (pre ++ D.edges).length) := box (by rw [List.length_append, ← hne.out, hpl.out]; exact hk.out)
    clear hta
    go_wp2_with (first | (with_reducible refine lst (by with_unfolding_all rfl) (wp_fld1 hF Tryz.underlying38 rfl (by with_unfolding_all exact ⟨_, rfl, rfl⟩) (docL_eg hcl.out) ?_)))
    go_ret
    exact ⟨_, rfl, (hxs.out.on hF.below).rdE hlen.out hkc (hF.rdOwn (i := 0) rfl), hF.below⟩
 ·skip
  have e1 : (m == [97, 112, 112, 108, 105, 99, 97, 116, 105, 111, 110, 47, 118, 110, 100, 46, 111, 99, 105, 46, 105, 109, 97, 103, 101, 46, 109, 97, 110, 105, 102, 101, 115, 116, 46, 118, 49, 43, 106, 115, 111, 110]) = false := by rw [beq_eq_false_iff_ne]; exact hi
  have hnd : Box (mNeeds D = [] ++ D.edges) := box (by unfold mNeeds; rw [hm.out, if_neg hi])
  replace hi := box hi
  rw [hnd.out]
  obtain ⟨pre, hpre⟩ : ∃ pre : List MDesc, pre = [] := ⟨_, rfl⟩
  have hpl : Box (pre.length = 0) := box (by rw [hpre]; rfl)
  have hP : Box (DLr w pre []) := box (by rw [hpre]; exact DLr.nil w)
  rw [← hpre] at hnd
  rw [← hpre]
  clear hpre
  go_enter Tryz.func27, Tryz.ntmps27
  go_upto_region 4 with (first | ((with_reducible refine lst (by with_unfolding_all rfl) (wp_fbox hF0 (cs := (docL m D.type cf (.slice Ae ne ce) sj D.has (.slice An nq cn))) rfl (by with_unfolding_all rfl) (by with_unfolding_all rfl) ?_)); intro w1 g1 hF1 hz1) | (with_reducible refine lst (by with_unfolding_all rfl) (wp_fld0 hF1 Tryz.underlying9 rfl (by with_unfolding_all exact ⟨_, rfl, rfl⟩) docL_m0 ?_)))
  have hF5 := hF1.none_ w.heap.size 37 35
  clear hF1
  go_wp2_with fail
  go_loopg [3, 4] ne (fun gk ov iv wr => ∃ (i : Nat) (A : Option Addr) (k c : Nat) (xs : List Value), i ≤ ne ∧ Box (gk = ne - i) ∧ ov = .slice A k c ∧ iv = .int .i64 (i : Int) ∧ k ≤ c ∧ k = pre.length + i ∧ Box (DLr w (pre ++ D.edges.take i) xs) ∧ Fr [] w wr (.own w.heap.size 37 35 (.slice A k c) k xs :: .blk g1 40 (docL m D.type cf (.slice Ae ne ce) sj D.has (.slice An nq cn)) :: []))
  case atStart => exact ⟨0, none, 0, 0, [], by omega, box rfl, rfl, rfl, by omega, by rw [hpl.out], box (by rw [List.take_zero, List.append_nil]; exact hP.out), hF5⟩
  case round =>
   clear hF5
   obtain ⟨i, A, k, c, xs, hi2, hgi, rfl, rfl, hkc, hk, hxs, hF⟩ := hrel
   have hkk : Box (_ = ne - i) := hgi
   clear hgi
   rw [hpl.out] at hk
   have hkb : k ≤ 1000001 := by omega
   replace hk := box hk
   by_cases hlt : i < ne
   ·obtain ⟨x, hx'⟩ : ∃ x, D.edges[i]? = some x := ⟨D.edges[i]'(by rw [← hne.out]; exact hlt), by simp⟩
    have hd0 := hXe.out.elem hx'
    obtain ⟨c1, hc1'⟩ : ∃ c1, (xe.drop (i * 35)).take 35 = c1 := ⟨_, rfl⟩
    rw [hc1'] at hd0
    have hc1 := box hc1'
    have hcl1 := box hd0.len
    have hco1 := box hd0.ones
    have hxs2 := box (hxs.out.app (DLr.one hd0))
    rw [List.append_assoc, ← take_snoc1 hx'] at hxs2
    clear hd0 hx' hc1' hxs
    have hre' := hre.out.below hF.below
    go_wp2_with (first | (with_reducible refine lst (by with_unfolding_all rfl) (wp_fld1 hF Tryz.underlying38 rfl (by with_unfolding_all exact ⟨_, rfl, rfl⟩) (docL_eg hcl.out) ?_)) | (with_reducible refine lst (by with_unfolding_all rfl) (wp_indexAddr T_rdescs hre' (by with_unfolding_all exact ⟨_, _, _, _, rfl, rfl, rfl⟩) (by omega) (by omega) ?_)) | (with_reducible refine lst (by with_unfolding_all rfl) (wp_loadA hre' Tryz.underlying37 rfl (by with_unfolding_all exact ⟨_, rfl, rfl⟩) (ds := c1) (by rw [hcl1.out]; kernel_rfl) (by rw [hcl1.out]; with_unfolding_all exact hc1.out) ?_)) | ((with_reducible refine lst (by with_unfolding_all rfl) (wp_fbs1 T_rdescs hF (by with_unfolding_all rfl) (ds := c1) (by with_unfolding_all rfl) hcl1.out (by decide) ?_)); intro w3 g3 hF3 hz3) | ((with_reducible refine lst (by with_unfolding_all rfl) (wp_fappG T_rdescs hF3 (i := 1) rfl (Nat.le_refl _) hF3.rdOwn0 hco1.out (by with_unfolding_all exact ⟨_, _, rfl, rfl, rfl⟩) (by unfold maxLen; omega) (by omega) ?_)); intro v4 w4 hF4 hz4; simp only [List.set_cons_zero, List.set_cons_succ] at hF4; obtain ⟨A4, c4, rfl, hc4⟩ := hF4.ownParts (i := 1) rfl))
    clear hF hF3 hre'
    go_roundg (ne - (i + 1))
    case rel => exact ⟨i + 1, A4, k + 1, c4, xs ++ c1, by omega, box rfl, rfl, by go_num, hc4, by rw [hpl.out, hk.out]; omega, hxs2, hF4.tail⟩
    case measure => have := hkk.out; omega
   ·have hie : i = ne := by omega
    subst hie
    have hta : D.edges.take i = D.edges := by rw [hne.out]; exact List.take_length
    rw [hta] at hxs
    have hlen : Box (k = (pre ++ D.edges).length) := box (by rw [List.length_append, ← hne.out, hpl.out]; exact hk.out)
    clear hta
    go_wp2_with (first | (with_reducible refine lst (by with_unfolding_all rfl) (wp_fld1 hF Tryz.underlying38 rfl (by with_unfolding_all exact ⟨_, rfl, rfl⟩) (docL_eg hcl.out) ?_)))
    go_ret
    exact ⟨_, rfl, (hxs.out.on hF.below).rdE hlen.out hkc (hF.rdOwn (i := 0) rfl), hF.below⟩
end Go.Proofs.YtlhicfpmlncomaaGreatDoor
