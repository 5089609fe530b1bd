/-
 Layer 6: the walk of the program's reader of lists and objects.
-/
import Derived.Test.YtlhicfpmlncomaaGreatDoorF05
import Derived.Test.YtlhicfpmlncomaaGreatDoorF02
import Derived.Test.YtlhicfpmlncomaaGreatDoorF00
set_option linter.unusedSimpArgs false
set_option linter.unusedVariables false
namespace Go.Proofs.YtlhicfpmlncomaaGreatDoor
open Go.RowKit
theorem T_vals : SlT Tryz.prog 74 76 5 80 (.agg vl0.toArray) := ⟨uq74, by kernel_rfl, rfl, by decide⟩
def ToldV (w : World) (g : Nat) (A : Option Addr) (n c : Nat) (x : JV × Nat × Nat) (e : Ending) (w' : World) : Prop :=
 ∃ cs es, e = .returned (.agg cs.toArray) ∧ VT x.1 cs es ∧ Fr [g] w w' (.blk g 127 (rdrL A n c x.2.1 x.2.2) :: es)
def ValueOk (d deep : Nat) : Prop := ∀ (w : World) (g : Nat) (A : Option Addr) (n c p m B : Nat) (b : List UInt8), LibsAt B w → w.heap[g]? = some (.cells (rdrL A n c p m).toArray 127 (0, 0)) → B ≤ g → B ≤ w.heap.size → n ≤ 65536 → n ≤ c → p ≤ n → m ≤ 4096 → Rd w (· < B) A 1 n (b.map bv) →
 Calls Tryz.prog 64 #[.pointer (some ⟨g, 0, none⟩), .int .i64 (deep : Int)] w (JEndP w g (jValue b d p m) (ToldV w g A n c))
theorem wrap64_deep {d : Nat} (h : d < 16) : IntKind.i64.wrap ((d : Int) + 1) = (d : Int) + 1 := by
 simp [IntKind.wrap, IntKind.bits, IntKind.signed]
 split <;> omega
theorem Fr.ownLen {X : List Nat} {w0 w : World} {es : List Ent} (hF : Fr X w0 w es) {i b : Nat} {e : TypeId} {size n : Nat} {v : Value} {xs : List Value} (hi : es[i]? = some (.own b e size v n xs)) : xs.length = n * size := (hF.holds i _ hi).1
theorem jManyL_go {b : List UInt8} {kind : Int} {fin : UInt8} {val : Nat → Nat → JR (JV × Nat × Nat)} {f p m : Nat} {names : List (List UInt8)} {kids : List JV} {s : List UInt8} {q : Nat} (h1 : (if kind = 6 then jName b names p else .ok ([], p)) = .ok (s, q)) :
  jManyL b kind fin val (f + 1) p m names kids = match val q m with
   | .error x => .error x
   | .ok (v, r, m') =>
    match jNext b (jBlanks b r) with
    | .error x => .error x
    | .ok c =>
     if c = fin then .ok (.mk kind 0 [] (if kind = 6 then names ++ [s] else names) (kids ++ [v]), jBlanks b r + 1, m')
     else match jWord b [44] (jBlanks b r) with
      | .error x => .error x
      | .ok t => jManyL b kind fin val f (jBlanks b t) m' (if kind = 6 then names ++ [s] else names) (kids ++ [v]) := by
 rw [jManyL, h1]
 rfl
theorem jManyL_bad {b : List UInt8} {kind : Int} {fin : UInt8} {val : Nat → Nat → JR (JV × Nat × Nat)} {f p m : Nat} {names : List (List UInt8)} {kids : List JV} {x : Nat × Nat} (h1 : (if kind = 6 then jName b names p else .ok ([], p)) = .error x) :
  jManyL b kind fin val (f + 1) p m names kids = .error x := by
 rw [jManyL, h1]
set_option maxRecDepth 20000 in
set_option maxHeartbeats 6400000 in
theorem many_deep (g : Nat) (A : Option Addr) (n c p m : Nat) (b : List UInt8) (kind : Int) (fin : UInt8) (w : World) (hh : w.heap[g]? = some (.cells (rdrL A n c p m).toArray 127 (0, 0))) :
  Calls Tryz.prog 89 #[.pointer (some ⟨g, 0, none⟩), .int .i64 kind, .int .u8 (fin.toNat : Int), .int .i64 16] w (JEndP w g (jMany b kind fin none p m) (ToldV w g A n c)) := by
 have hF0 := Fr.one hh
 have hfl := box (fun v w => fail_any v p 64 w)
 go_enter Tryz.func89, Tryz.ntmps89
 go_wp2_with (first | ((with_reducible refine lsx (wp_falloc hF0 (cs := vl0) (z := .agg (List.toArray (vl0))) rfl (by kernel_rfl) (by with_unfolding_all rfl) ?_)); intro w1 g1 hF1 hz1) | (with_reducible refine lsx (wp_fld1 hF1 uq3 rfl (by with_unfolding_all exact ⟨_, rfl, rfl⟩) rfl ?_)))
 refine (hfl.out _ _).mono ?_
 rintro e w2 ⟨rfl, rfl⟩
 dsimp only [flt]
 go_wp2
 exact ⟨rfl, rfl, hF1.grown⟩
set_option maxRecDepth 20000 in
set_option maxHeartbeats 12800000 in
theorem many_5 (d deep : Nat) (hV : ValueOk d (deep + 1)) (hdp : deep < 16) (g : Nat) (A : Option Addr) (n c p m B : Nat) (b : List UInt8) (w : World) (hL : LibsAt B w) (hh : w.heap[g]? = some (.cells (rdrL A n c p m).toArray 127 (0, 0))) (hg : B ≤ g) (hB : B ≤ w.heap.size) (hn : n ≤ 65536) (hnc : n ≤ c) (hp : p < n) (hm : m ≤ 4096) (hr : Rd w (· < B) A 1 n (b.map bv)) :
  Calls Tryz.prog 89 #[.pointer (some ⟨g, 0, none⟩), .int .i64 5, .int .u8 93, .int .i64 (deep : Int)] w (JEndP w g (jMany b 5 93 (some (jValue b d)) p m) (ToldV w g A n c)) := by
 have hl := box hr.bytes_len
 have hF0 := Fr.one hh
 have hd16 : ((deep : Int) == 16) = false := by rw [beq_eq_false_iff_ne]; omega
 have hp1 : jBlanks b (p + 1) ≤ n := by have := jBlanks_le b (p := p + 1) (by rw [hl.out]; exact hp); rw [hl.out] at this; exact this
 have hjm : Box (jMany b 5 93 (some (jValue b d)) p m = match jNext b (jBlanks b (p + 1)) with
  | .error x => .error x
  | .ok c => if c = 93 then .ok (.mk 5 0 [] [] [], jBlanks b (p + 1) + 1, m) else jManyL b 5 93 (jValue b d) (b.length + 1 - (p + 1)) (jBlanks b (p + 1)) m [] []) := box rfl
 clear hh
 go_enter Tryz.func89, Tryz.ntmps89
 go_wp2_with (first | ((with_reducible refine lsx (wp_falloc hF0 (cs := vl0) (z := .agg (List.toArray (vl0))) rfl (by kernel_rfl) (by with_unfolding_all rfl) ?_)); intro w1 g1 hF1 hz1) | (with_reducible refine lsx (wp_fbuild uq76 (z := .agg (List.toArray vl0)) (by kernel_rfl) (pl := vlP) (by kernel_rfl) (cs := (vlL 5 0 ⟨#[]⟩ (.slice none 0 0) (.slice none 0 0))) rfl (vs := [(0, .int .i64 5)]) (by with_unfolding_all rfl) (by with_unfolding_all rfl) ?_)) | ((with_reducible refine lsx (wp_falloc hF1 (cs := vl0) (z := .agg (List.toArray (vl0))) rfl (by kernel_rfl) (by with_unfolding_all rfl) ?_)); intro w2 g2 hF2 hz2) | ((with_reducible refine lsx (wp_fstA0 hF2 (by with_unfolding_all exact ⟨_, _, rfl, rfl, rfl⟩) (by rw [vlL_len]; kernel_rfl) vlL_one vlL_fit vlL_spl ?_)); intro w3 hF3 hz3) | (with_reducible refine lsx (wp_fld2 hF3 uq3 rfl (by with_unfolding_all exact ⟨_, rfl, rfl⟩) rfl ?_)) | ((with_reducible refine lsx (wp_fst2 hF3 (by with_unfolding_all exact ⟨_, _, rfl, rfl, rfl⟩) (by kernel_rfl) rfl rfl (by rw [rdrL_len]; decide) (rdrL_at (q := p + 1) (by omega)) ?_)); intro w4 hF4 hz4))
 clear hF0 hF1 hF2 hF3
 have hbl := box (blanks_any g A n c (p + 1) m B b w4 (hF4.blk (i := 2) rfl) hg (Nat.le_trans hB hF4.size) (by omega) hp (hF4.rdB hg hB hr))
 refine hbl.out.mono ?_
 rintro e w5 ⟨rfl, h5⟩
 have hF5 := hF4.putF (i := 2) rfl h5
 simp only [zN, zZ] at hF5
 clear hbl h5 hF4
 cases hx : b[jBlanks b (p + 1)]? with
 | none =>
  have hend : Box (jMany b 5 93 (some (jValue b d)) p m = .error (n, 9)) := box (by rw [hjm.out]; unfold jNext; rw [hx, hl.out])
  have hnx := box (next_x hx (hF5.blk (i := 2) rfl) (hF5.rdB hg hB hr))
  rw [hl.out] at hnx
  clear hx hjm
  go_wp2_with fail
  refine hnx.out.mono ?_
  rintro e w6 ⟨rfl, hb6⟩
  have hF6 := hF5.call hb6
  dsimp only [flt]
  go_wp2
  exact ⟨rfl, by unfold JEndP; rw [hend.out]; exact ⟨rfl, hF6.grown⟩⟩
 | some x =>
  have hjx : Box (jMany b 5 93 (some (jValue b d)) p m = if x = 93 then .ok (.mk 5 0 [] [] [], jBlanks b (p + 1) + 1, m) else jManyL b 5 93 (jValue b d) (n - p) (jBlanks b (p + 1)) m [] []) := box (by rw [hjm.out]; unfold jNext; rw [hx, hl.out, show n + 1 - (p + 1) = n - p by omega])
  have hxb := x.toNat_lt
  have hnx := box (next_q hx (hF5.blk (i := 2) rfl) (hF5.rdB hg hB hr) 0)
  have hplt := (List.getElem?_eq_some_iff.1 hx).1
  rw [hl.out] at hplt
  clear hjm
  by_cases hxE : x = 93
  ·subst hxE
   have hend := box (hjx.out.trans (if_pos rfl))
   clear hx hjx
   go_wp2_with fail
   refine hnx.out.mono ?_
   rintro e w6 ⟨rfl, q6, rfl⟩
   have hF6 := hF5.drewN q6
   go_wp2_with (first | (with_reducible refine lsx (wp_fld2 hF6 uq3 rfl (by with_unfolding_all exact ⟨_, rfl, rfl⟩) rfl ?_)) | ((with_reducible refine lsx (wp_fst2 hF6 (by with_unfolding_all exact ⟨_, _, rfl, rfl, rfl⟩) (by kernel_rfl) rfl rfl (by rw [rdrL_len]; decide) (rdrL_at (q := jBlanks b (p + 1) + 1) (by omega)) ?_)); intro w7 hF7 hz7) | (with_reducible refine lsx (wp_fldA0 hF7 uq76 rfl (by with_unfolding_all exact ⟨_, rfl, rfl⟩) (ds := (vlL 5 0 ⟨#[]⟩ (.slice none 0 0) (.slice none 0 0))) (by rw [vlL_len]; kernel_rfl) (take_all _) ?_)) | ((with_reducible refine lsx (wp_fstA1 hF7 (by with_unfolding_all exact ⟨_, _, rfl, rfl, rfl⟩) (by rw [vlL_len]; kernel_rfl) vlL_one vlL_fit vlL_spl ?_)); intro w8 hF8 hz8))
   exact bodyPost_ret (results_cellF rfl _ hF8 (i := 1) rfl rfl uq76 rfl (by rw [vlL_len]; kernel_rfl)) rfl (by
    unfold JEndP
    rw [hend.out]
    refine ⟨_, _, rfl, VT.leaf, ?_⟩
    exact (((hF8.tail.tail.pushNone 5).pushNone 1).picks [2, 0, 1] rfl (by decide)))
  ·have hjl := box (hjx.out.trans (if_neg hxE))
   have nE : ((x.toNat : Int) == 93) = false := u8_ne hxE
   replace hxE := box hxE
   clear hx hjx
   go_wp2_with fail
   refine hnx.out.mono ?_
   rintro e w6 ⟨rfl, q6, rfl⟩
   have hF6 := ((((hF5.drewN q6).none_ w.heap.size 76 5).none_ w.heap.size 9 1).picks [0, 2, 4, 1, 3] (fs := (.own w.heap.size 9 1 (.slice none 0 0) 0 ((([] : List (List UInt8))).map strv) :: .blk g2 76 (vlL 5 0 ⟨#[]⟩ (.slice none 0 0) (.slice none 0 0)) :: .blk g 127 (rdrL A n c (jBlanks b (p + 1)) m) :: .own w.heap.size 76 5 (.slice none 0 0) 0 [] :: .blk g1 76 vl0 :: [])) rfl (by decide))
   clear hF5 hnx
   go_wp2_with fail
   go_loopg [] (n - p) (fun k wr => ∃ (names : List (List UInt8)) (kids : List JV) (p' m' f : Nat) (An : Option Addr) (nn cn : Nat) (Ak : Option Addr) (nk ck : Nat) (xs : List Value) (TE : List Ent),
    p' ≤ n ∧ m' ≤ 4096 ∧ nk ≤ m' ∧ nn ≤ nk ∧ nn ≤ cn ∧ nk ≤ ck ∧ Box (k = f) ∧ Box (n + 1 ≤ f + p') ∧ Box (names.length = nn) ∧ Box (jMany b 5 93 (some (jValue b d)) p m = jManyL b 5 93 (jValue b d) f p' m' names kids) ∧ Box (VTL kids xs TE) ∧
    Fr [g] w wr (.own w.heap.size 9 1 (.slice An nn cn) nn ((names).map strv) :: .blk g2 76 (vlL 5 0 ⟨#[]⟩ (.slice An nn cn) (.slice Ak nk ck)) :: .blk g 127 (rdrL A n c p' m') :: .own w.heap.size 76 5 (.slice Ak nk ck) nk xs :: .blk g1 76 vl0 :: TE))
   case atStart => exact ⟨[], [], jBlanks b (p + 1), m, n - p, none, 0, 0, none, 0, 0, [], [], hp1, hm, by omega, by omega, by omega, by omega, box rfl, box (by have := jBlanks_ge b (p + 1); omega), box rfl, hjl, box VTL.nil, hF6⟩
   case round =>
    clear hF6 hjl
    obtain ⟨names, kids, p', m', f, An, nn, cn, Ak, nk, ck, xs, TE, hpn, hmm, hkm, hnk, hcn, hck, hk, hf, hnl, hJ, hT, hF⟩ := hrel
    obtain ⟨f', rfl⟩ : ∃ f', f = f' + 1 := ⟨f - 1, by have := hf.out; omega⟩
    have hxl := box (hF.ownLen (i := 3) rfl)
    have hJ2 : Box (jMany b 5 93 (some (jValue b d)) p m = _) := box (hJ.out.trans (jManyL_go (s := []) (q := p') (by rw [if_neg (by decide)])))
    rw [if_neg (by decide : ¬ (5 : Int) = 6)] at hJ2
    clear hJ
    have hF1 := hF
    have hqn := hpn
    obtain ⟨q, hqe⟩ : ∃ q, q = p' := ⟨_, rfl⟩
    have hpq : p' ≤ q := by omega
    rw [← hqe] at hJ2 hF1 hqn
    clear hqe
    have hd1 : ((deep : Int) + 1) = ((deep + 1 : Nat) : Int) := rfl
    have hvc := box (fun w' (h1 : LibsAt B w') (h2 : w'.heap[g]? = some (.cells (rdrL A n c q m').toArray 127 (0, 0))) (h3 : B ≤ w'.heap.size) (h4 : Rd w' (· < B) A 1 n (b.map bv)) => hV w' g A n c q m' B b h1 h2 hg h3 hn hnc hqn hmm h4)
    rw [← hd1] at hvc
    clear hd1
    have hwr : IntKind.i64.wrap ((deep : Int) + 1) = (deep : Int) + 1 := wrap64_deep hdp
    go_upto_region 11 with (fail)
    cases hvr : jValue b d q m' with
    | error z =>
     have hend : Box (jMany b 5 93 (some (jValue b d)) p m = .error z) := box (by rw [hJ2.out, hvr])
     rw [hvr] at hvc
     unfold JEndP at hvc
     simp only [] at hvc
     clear hvr hJ2
     have hFd := hF1.drew
     refine wp_region_held (S := fun _ => True) (by kernel_rfl) ?_
     change wpAnyH _ _ _ _ _ _ _ _ (World.drew _)
     refine tkp 0 trivial ?_
     (try simp only [zP, zQ, zS, zZ, zN])
     refine tkp 2 trivial ?_
     (try simp only [zP, zQ, zS, zZ, zN])
     refine tkp 3 trivial ?_
     (try simp only [zP, zQ, zS, zZ, zN])
     refine tkp 4 trivial ?_
     (try simp only [zP, zQ, zS, zZ, zN])
     refine wpAnyH_ready (rs := [1, 5, 7]) (by kernel_rfl) (by simp) ?_
     refine AllReadyH.cons (by simp only [List.getElem?_toArray, List.getElem?_cons_zero, List.getElem?_cons_succ]; rfl) (fun K hK => ?_) ?_
     ·refine stp (by with_unfolding_all rfl) (wp_fld hFd (i := 1) rfl uq74 rfl (by with_unfolding_all exact ⟨_, rfl, rfl⟩) rfl ?_)
      refine hK.out _ _ (trivial) (fun _ => ?_)
      clear hK K
      (try simp only [zP, zQ, zS, zZ, zN])
      refine tkp 6 trivial ?_
      (try simp only [zP, zQ, zS, zZ, zN])
      refine wpAnyH_ready (rs := [5, 7]) (by kernel_rfl) (by simp) ?_
      refine AllReadyH.cons (by simp only [List.getElem?_toArray, List.getElem?_cons_zero, List.getElem?_cons_succ]; rfl) (fun K hK => ?_) ?_
      ·refine stp (by with_unfolding_all rfl) (wp_callP Tryz.func64 rfl (by with_unfolding_all rfl) (by with_unfolding_all rfl) (by with_unfolding_all rfl) (hvc.out _ (hL.on (hFd.belowG hg hB)) (hFd.blk (i := 2) rfl) (Nat.le_trans hB hFd.size) (hFd.rdB hg hB hr)) ?_)
       rintro e w31 ⟨rfl, hg31⟩
       refine ⟨_, rfl, ?_⟩
       (try simp only [Exit.inBlock, Exit.then])
       exact ⟨rfl, by unfold JEndP; rw [hend.out]; exact ⟨rfl, grown_trans hFd.grown hg31⟩⟩
      refine AllReadyH.cons (by simp only [List.getElem?_toArray, List.getElem?_cons_zero, List.getElem?_cons_succ]; rfl) (fun K hK => ?_) ?_
      ·refine stp (by with_unfolding_all rfl) (wp_fbs1 T_vals hFd (by with_unfolding_all rfl) (ds := vl0) (by with_unfolding_all rfl) rfl (by decide) ?_)
       intro w31 g31 hF31 hz31
       refine hK.out _ _ (trivial) (fun _ => ?_)
       clear hK K
       (try simp only [zP, zQ, zS, zZ, zN])
       refine rdy1 5 (fun K hK => ?_)
       refine stp (by with_unfolding_all rfl) (wp_callP Tryz.func64 rfl (by with_unfolding_all rfl) (by with_unfolding_all rfl) (by with_unfolding_all rfl) (hvc.out _ (hL.on (hF31.belowG hg hB)) (hF31.blk (i := 3) rfl) (Nat.le_trans hB hF31.size) (hF31.rdB hg hB hr)) ?_)
       rintro e w32 ⟨rfl, hg32⟩
       refine ⟨_, rfl, ?_⟩
       (try simp only [Exit.inBlock, Exit.then])
       exact ⟨rfl, by unfold JEndP; rw [hend.out]; exact ⟨rfl, grown_trans hF31.grown hg32⟩⟩
      exact AllReadyH.nil
     refine AllReadyH.cons (by simp only [List.getElem?_toArray, List.getElem?_cons_zero, List.getElem?_cons_succ]; rfl) (fun K hK => ?_) ?_
     ·refine stp (by with_unfolding_all rfl) (wp_callP Tryz.func64 rfl (by with_unfolding_all rfl) (by with_unfolding_all rfl) (by with_unfolding_all rfl) (hvc.out _ (hL.on (hFd.belowG hg hB)) (hFd.blk (i := 2) rfl) (Nat.le_trans hB hFd.size) (hFd.rdB hg hB hr)) ?_)
      rintro e w31 ⟨rfl, hg31⟩
      refine ⟨_, rfl, ?_⟩
      (try simp only [Exit.inBlock, Exit.then])
      exact ⟨rfl, by unfold JEndP; rw [hend.out]; exact ⟨rfl, grown_trans hFd.grown hg31⟩⟩
     refine AllReadyH.cons (by simp only [List.getElem?_toArray, List.getElem?_cons_zero, List.getElem?_cons_succ]; rfl) (fun K hK => ?_) ?_
     ·refine stp (by with_unfolding_all rfl) (wp_fbs1 T_vals hFd (by with_unfolding_all rfl) (ds := vl0) (by with_unfolding_all rfl) rfl (by decide) ?_)
      intro w31 g31 hF31 hz31
      refine hK.out _ _ (trivial) (fun _ => ?_)
      clear hK K
      (try simp only [zP, zQ, zS, zZ, zN])
      refine wpAnyH_ready (rs := [1, 5]) (by kernel_rfl) (by simp) ?_
      refine AllReadyH.cons (by simp only [List.getElem?_toArray, List.getElem?_cons_zero, List.getElem?_cons_succ]; rfl) (fun K hK => ?_) ?_
      ·refine stp (by with_unfolding_all rfl) (wp_fld hF31 (i := 2) rfl uq74 rfl (by with_unfolding_all exact ⟨_, rfl, rfl⟩) rfl ?_)
       refine hK.out _ _ (trivial) (fun _ => ?_)
       clear hK K
       (try simp only [zP, zQ, zS, zZ, zN])
       refine tkp 6 trivial ?_
       (try simp only [zP, zQ, zS, zZ, zN])
       refine rdy1 5 (fun K hK => ?_)
       refine stp (by with_unfolding_all rfl) (wp_callP Tryz.func64 rfl (by with_unfolding_all rfl) (by with_unfolding_all rfl) (by with_unfolding_all rfl) (hvc.out _ (hL.on (hF31.belowG hg hB)) (hF31.blk (i := 3) rfl) (Nat.le_trans hB hF31.size) (hF31.rdB hg hB hr)) ?_)
       rintro e w32 ⟨rfl, hg32⟩
       refine ⟨_, rfl, ?_⟩
       (try simp only [Exit.inBlock, Exit.then])
       exact ⟨rfl, by unfold JEndP; rw [hend.out]; exact ⟨rfl, grown_trans hF31.grown hg32⟩⟩
      refine AllReadyH.cons (by simp only [List.getElem?_toArray, List.getElem?_cons_zero, List.getElem?_cons_succ]; rfl) (fun K hK => ?_) ?_
      ·refine stp (by with_unfolding_all rfl) (wp_callP Tryz.func64 rfl (by with_unfolding_all rfl) (by with_unfolding_all rfl) (by with_unfolding_all rfl) (hvc.out _ (hL.on (hF31.belowG hg hB)) (hF31.blk (i := 3) rfl) (Nat.le_trans hB hF31.size) (hF31.rdB hg hB hr)) ?_)
       rintro e w32 ⟨rfl, hg32⟩
       refine ⟨_, rfl, ?_⟩
       (try simp only [Exit.inBlock, Exit.then])
       exact ⟨rfl, by unfold JEndP; rw [hend.out]; exact ⟨rfl, grown_trans hF31.grown hg32⟩⟩
      exact AllReadyH.nil
     exact AllReadyH.nil
    | ok x =>
     obtain ⟨v, r, m2⟩ := x
     have hlen := jValue_len d q m' v r m2 hmm hvr
     rw [hl.out] at hlen
     obtain ⟨hqr, hrn, hmm2, hm2⟩ := hlen
     have hJ3 := hJ2.out
     rw [hvr] at hvc hJ3
     simp only [] at hJ3
     replace hJ3 := box hJ3
     unfold JEndP ToldV at hvc
     simp only [] at hvc
     clear hvr hJ2
     go_cut [] (fun wx => ∃ (Ak2 : Option Addr) (ck2 : Nat) (cs2 : List Value) (es2 : List Ent), nk + 1 ≤ ck2 ∧ Box (VT v cs2 es2) ∧ Fr [g] w wx (.own w.heap.size 9 1 (.slice An nn cn) nn ((names).map strv) :: .blk g2 76 (vlL 5 0 ⟨#[]⟩ (.slice An nn cn) (.slice Ak2 (nk + 1) ck2)) :: .blk g 127 (rdrL A n c r m2) :: .own w.heap.size 76 5 (.slice Ak2 (nk + 1) ck2) (nk + 1) (xs ++ cs2) :: .blk g1 76 vl0 :: (TE ++ es2)))
     case first =>
      have hFd := hF1.drew
      refine wp_region_held (S := fun _ => True) (by kernel_rfl) ?_
      change wpAnyH _ _ _ _ _ _ _ _ (World.drew _)
      refine tkp 0 trivial ?_
      (try simp only [zP, zQ, zS, zZ, zN])
      refine tkp 2 trivial ?_
      (try simp only [zP, zQ, zS, zZ, zN])
      refine tkp 3 trivial ?_
      (try simp only [zP, zQ, zS, zZ, zN])
      refine tkp 4 trivial ?_
      (try simp only [zP, zQ, zS, zZ, zN])
      refine wpAnyH_ready (rs := [1, 5, 7]) (by kernel_rfl) (by simp) ?_
      refine AllReadyH.cons (by simp only [List.getElem?_toArray, List.getElem?_cons_zero, List.getElem?_cons_succ]; rfl) (fun K hK => ?_) ?_
      ·refine stp (by with_unfolding_all rfl) (wp_fld hFd (i := 1) rfl uq74 rfl (by with_unfolding_all exact ⟨_, rfl, rfl⟩) rfl ?_)
       refine hK.out _ _ (trivial) (fun _ => ?_)
       clear hK K
       (try simp only [zP, zQ, zS, zZ, zN])
       refine tkp 6 trivial ?_
       (try simp only [zP, zQ, zS, zZ, zN])
       refine wpAnyH_ready (rs := [5, 7]) (by kernel_rfl) (by simp) ?_
       refine AllReadyH.cons (by simp only [List.getElem?_toArray, List.getElem?_cons_zero, List.getElem?_cons_succ]; rfl) (fun K hK => ?_) ?_
       ·refine stp (by with_unfolding_all rfl) (wp_call Tryz.func64 rfl (by with_unfolding_all rfl) (by with_unfolding_all rfl) (by with_unfolding_all rfl) (hvc.out _ (hL.on (hFd.belowG hg hB)) (hFd.blk (i := 2) rfl) (Nat.le_trans hB hFd.size) (hFd.rdB hg hB hr)) ?_)
        rintro e w31 ⟨cs31, es31, rfl, hvt31, hv31⟩
        refine ⟨_, rfl, ?_⟩
        have hF31 := hFd.putG (i := 2) rfl hv31
        simp only [List.set_cons_zero, List.set_cons_succ, List.cons_append] at hF31
        refine hK.out _ _ (trivial) (fun _ => ?_)
        clear hK K
        (try simp only [zP, zQ, zS, zZ, zN])
        refine rdy1 7 (fun K hK => ?_)
        refine stp (by with_unfolding_all rfl) (wp_fbs1 T_vals hF31 (by with_unfolding_all rfl) (ds := vl0) (by with_unfolding_all rfl) rfl (by decide) ?_)
        intro w32 g32 hF32 hz32
        refine hK.out _ _ (trivial) (fun _ => ?_)
        clear hK K
        (try simp only [zP, zQ, zS, zZ, zN])
        refine rdy1 8 (fun K hK => ?_)
        refine stp (by with_unfolding_all rfl) (wp_fappG T_vals hF32 (i := 4) rfl (Nat.le_refl _) (hF32.rdOwn (i := 0) rfl) vlL_one (by with_unfolding_all exact ⟨_, _, rfl, rfl, rfl⟩) (by unfold maxLen; omega) (by omega) ?_)
        intro v33 w33 hF33 hz33
        (try simp only [zZ, zN] at hF33)
        obtain ⟨A33, c33, rfl, hc33⟩ := hF33.ownParts (i := 4) rfl
        refine hK.out _ _ (trivial) (fun _ => ?_)
        clear hK K
        (try simp only [zP, zQ, zS, zZ, zN])
        refine tkp 11 trivial ?_
        (try simp only [zP, zQ, zS, zZ, zN])
        refine wpAnyH_ready (rs := [9, 12]) (by kernel_rfl) (by simp) ?_
        refine AllReadyH.cons (by simp only [List.getElem?_toArray, List.getElem?_cons_zero, List.getElem?_cons_succ]; rfl) (fun K hK => ?_) ?_
        ·refine stp (by with_unfolding_all rfl) (wp_indexAddr T_vals (hF33.rdOwn (i := 4) rfl) (by with_unfolding_all exact ⟨_, _, _, _, rfl, rfl, rfl⟩) (by omega) (by omega) ?_)
         refine hK.out _ _ (trivial) (fun _ => ?_)
         clear hK K
         (try simp only [zP, zQ, zS, zZ, zN])
         refine wpAnyH_ready (rs := [10, 12]) (by kernel_rfl) (by simp) ?_
         refine AllReadyH.cons (by simp only [List.getElem?_toArray, List.getElem?_cons_zero, List.getElem?_cons_succ]; rfl) (fun K hK => ?_) ?_
         ·refine stp (by with_unfolding_all rfl) (wp_fstO hF33 (i := 4) rfl hxl.out (by with_unfolding_all exact ⟨_, _, rfl, rfl, rfl⟩) (by kernel_rfl) hvt31.len hvt31.one ?_)
          intro w34 hF34 hz34
          (try simp only [zZ, zN] at hF34)
          refine hK.out _ _ (trivial) (fun _ => ?_)
          clear hK K
          (try simp only [zP, zQ, zS, zZ, zN])
          refine rdy1 12 (fun K hK => ?_)
          refine stp (by with_unfolding_all rfl) (wp_fst hF34 (i := 2) rfl (v := .slice A33 (nk + 1) c33) (by with_unfolding_all exact ⟨_, _, rfl, rfl, rfl⟩) (by kernel_rfl) rfl rfl (by rw [vlL_len]; decide) ?_)
          intro w35 hF35 hz35
          (try simp only [zZ, zN] at hF35)
          rw [(vlL_4 (k := 5) (n := 0) (t := ⟨#[]⟩) (a := .slice An nn cn) (b := .slice Ak nk ck))] at hF35
          refine hK.out _ _ (trivial) (fun _ => ?_)
          clear hK K
          (try simp only [zP, zQ, zS, zZ, zN])
          refine wpAnyH_done (by kernel_rfl) ?_ _
          go_wp2_with fail
          go_meet
          exact ⟨A33, c33, cs31, es31, hc33, box hvt31, hF35.tail⟩
         refine AllReadyH.cons (by simp only [List.getElem?_toArray, List.getElem?_cons_zero, List.getElem?_cons_succ]; rfl) (fun K hK => ?_) ?_
         ·refine stp (by with_unfolding_all rfl) (wp_fst hF33 (i := 2) rfl (v := .slice A33 (nk + 1) c33) (by with_unfolding_all exact ⟨_, _, rfl, rfl, rfl⟩) (by kernel_rfl) rfl rfl (by rw [vlL_len]; decide) ?_)
          intro w34 hF34 hz34
          (try simp only [zZ, zN] at hF34)
          rw [(vlL_4 (k := 5) (n := 0) (t := ⟨#[]⟩) (a := .slice An nn cn) (b := .slice Ak nk ck))] at hF34
          refine hK.out _ _ (trivial) (fun _ => ?_)
          clear hK K
          (try simp only [zP, zQ, zS, zZ, zN])
          refine rdy1 10 (fun K hK => ?_)
          refine stp (by with_unfolding_all rfl) (wp_fstO hF34 (i := 4) rfl hxl.out (by with_unfolding_all exact ⟨_, _, rfl, rfl, rfl⟩) (by kernel_rfl) hvt31.len hvt31.one ?_)
          intro w35 hF35 hz35
          (try simp only [zZ, zN] at hF35)
          refine hK.out _ _ (trivial) (fun _ => ?_)
          clear hK K
          (try simp only [zP, zQ, zS, zZ, zN])
          refine wpAnyH_done (by kernel_rfl) ?_ _
          go_wp2_with fail
          go_meet
          exact ⟨A33, c33, cs31, es31, hc33, box hvt31, hF35.tail⟩
         exact AllReadyH.nil
        refine AllReadyH.cons (by simp only [List.getElem?_toArray, List.getElem?_cons_zero, List.getElem?_cons_succ]; rfl) (fun K hK => ?_) ?_
        ·refine stp (by with_unfolding_all rfl) (wp_fst hF33 (i := 2) rfl (v := .slice A33 (nk + 1) c33) (by with_unfolding_all exact ⟨_, _, rfl, rfl, rfl⟩) (by kernel_rfl) rfl rfl (by rw [vlL_len]; decide) ?_)
         intro w34 hF34 hz34
         (try simp only [zZ, zN] at hF34)
         rw [(vlL_4 (k := 5) (n := 0) (t := ⟨#[]⟩) (a := .slice An nn cn) (b := .slice Ak nk ck))] at hF34
         refine hK.out _ _ (trivial) (fun _ => ?_)
         clear hK K
         (try simp only [zP, zQ, zS, zZ, zN])
         refine rdy1 9 (fun K hK => ?_)
         refine stp (by with_unfolding_all rfl) (wp_indexAddr T_vals (hF34.rdOwn (i := 4) rfl) (by with_unfolding_all exact ⟨_, _, _, _, rfl, rfl, rfl⟩) (by omega) (by omega) ?_)
         refine hK.out _ _ (trivial) (fun _ => ?_)
         clear hK K
         (try simp only [zP, zQ, zS, zZ, zN])
         refine rdy1 10 (fun K hK => ?_)
         refine stp (by with_unfolding_all rfl) (wp_fstO hF34 (i := 4) rfl hxl.out (by with_unfolding_all exact ⟨_, _, rfl, rfl, rfl⟩) (by kernel_rfl) hvt31.len hvt31.one ?_)
         intro w35 hF35 hz35
         (try simp only [zZ, zN] at hF35)
         refine hK.out _ _ (trivial) (fun _ => ?_)
         clear hK K
         (try simp only [zP, zQ, zS, zZ, zN])
         refine wpAnyH_done (by kernel_rfl) ?_ _
         go_wp2_with fail
         go_meet
         exact ⟨A33, c33, cs31, es31, hc33, box hvt31, hF35.tail⟩
        exact AllReadyH.nil
       refine AllReadyH.cons (by simp only [List.getElem?_toArray, List.getElem?_cons_zero, List.getElem?_cons_succ]; rfl) (fun K hK => ?_) ?_
       ·refine stp (by with_unfolding_all rfl) (wp_fbs1 T_vals hFd (by with_unfolding_all rfl) (ds := vl0) (by with_unfolding_all rfl) rfl (by decide) ?_)
        intro w31 g31 hF31 hz31
        refine hK.out _ _ (trivial) (fun _ => ?_)
        clear hK K
        (try simp only [zP, zQ, zS, zZ, zN])
        refine rdy1 5 (fun K hK => ?_)
        refine stp (by with_unfolding_all rfl) (wp_call Tryz.func64 rfl (by with_unfolding_all rfl) (by with_unfolding_all rfl) (by with_unfolding_all rfl) (hvc.out _ (hL.on (hF31.belowG hg hB)) (hF31.blk (i := 3) rfl) (Nat.le_trans hB hF31.size) (hF31.rdB hg hB hr)) ?_)
        rintro e w32 ⟨cs32, es32, rfl, hvt32, hv32⟩
        refine ⟨_, rfl, ?_⟩
        have hF32 := hF31.putG (i := 3) rfl hv32
        simp only [List.set_cons_zero, List.set_cons_succ, List.cons_append] at hF32
        refine hK.out _ _ (trivial) (fun _ => ?_)
        clear hK K
        (try simp only [zP, zQ, zS, zZ, zN])
        refine rdy1 8 (fun K hK => ?_)
        refine stp (by with_unfolding_all rfl) (wp_fappG T_vals hF32 (i := 4) rfl (Nat.le_refl _) (hF32.rdOwn (i := 0) rfl) vlL_one (by with_unfolding_all exact ⟨_, _, rfl, rfl, rfl⟩) (by unfold maxLen; omega) (by omega) ?_)
        intro v33 w33 hF33 hz33
        (try simp only [zZ, zN] at hF33)
        obtain ⟨A33, c33, rfl, hc33⟩ := hF33.ownParts (i := 4) rfl
        refine hK.out _ _ (trivial) (fun _ => ?_)
        clear hK K
        (try simp only [zP, zQ, zS, zZ, zN])
        refine tkp 11 trivial ?_
        (try simp only [zP, zQ, zS, zZ, zN])
        refine wpAnyH_ready (rs := [9, 12]) (by kernel_rfl) (by simp) ?_
        refine AllReadyH.cons (by simp only [List.getElem?_toArray, List.getElem?_cons_zero, List.getElem?_cons_succ]; rfl) (fun K hK => ?_) ?_
        ·refine stp (by with_unfolding_all rfl) (wp_indexAddr T_vals (hF33.rdOwn (i := 4) rfl) (by with_unfolding_all exact ⟨_, _, _, _, rfl, rfl, rfl⟩) (by omega) (by omega) ?_)
         refine hK.out _ _ (trivial) (fun _ => ?_)
         clear hK K
         (try simp only [zP, zQ, zS, zZ, zN])
         refine wpAnyH_ready (rs := [10, 12]) (by kernel_rfl) (by simp) ?_
         refine AllReadyH.cons (by simp only [List.getElem?_toArray, List.getElem?_cons_zero, List.getElem?_cons_succ]; rfl) (fun K hK => ?_) ?_
         ·refine stp (by with_unfolding_all rfl) (wp_fstO hF33 (i := 4) rfl hxl.out (by with_unfolding_all exact ⟨_, _, rfl, rfl, rfl⟩) (by kernel_rfl) hvt32.len hvt32.one ?_)
          intro w34 hF34 hz34
          (try simp only [zZ, zN] at hF34)
          refine hK.out _ _ (trivial) (fun _ => ?_)
          clear hK K
          (try simp only [zP, zQ, zS, zZ, zN])
          refine rdy1 12 (fun K hK => ?_)
          refine stp (by with_unfolding_all rfl) (wp_fst hF34 (i := 2) rfl (v := .slice A33 (nk + 1) c33) (by with_unfolding_all exact ⟨_, _, rfl, rfl, rfl⟩) (by kernel_rfl) rfl rfl (by rw [vlL_len]; decide) ?_)
          intro w35 hF35 hz35
          (try simp only [zZ, zN] at hF35)
          rw [(vlL_4 (k := 5) (n := 0) (t := ⟨#[]⟩) (a := .slice An nn cn) (b := .slice Ak nk ck))] at hF35
          refine hK.out _ _ (trivial) (fun _ => ?_)
          clear hK K
          (try simp only [zP, zQ, zS, zZ, zN])
          refine wpAnyH_done (by kernel_rfl) ?_ _
          go_wp2_with fail
          go_meet
          exact ⟨A33, c33, cs32, es32, hc33, box hvt32, hF35.tail⟩
         refine AllReadyH.cons (by simp only [List.getElem?_toArray, List.getElem?_cons_zero, List.getElem?_cons_succ]; rfl) (fun K hK => ?_) ?_
         ·refine stp (by with_unfolding_all rfl) (wp_fst hF33 (i := 2) rfl (v := .slice A33 (nk + 1) c33) (by with_unfolding_all exact ⟨_, _, rfl, rfl, rfl⟩) (by kernel_rfl) rfl rfl (by rw [vlL_len]; decide) ?_)
          intro w34 hF34 hz34
          (try simp only [zZ, zN] at hF34)
          rw [(vlL_4 (k := 5) (n := 0) (t := ⟨#[]⟩) (a := .slice An nn cn) (b := .slice Ak nk ck))] at hF34
          refine hK.out _ _ (trivial) (fun _ => ?_)
          clear hK K
          (try simp only [zP, zQ, zS, zZ, zN])
          refine rdy1 10 (fun K hK => ?_)
          refine stp (by with_unfolding_all rfl) (wp_fstO hF34 (i := 4) rfl hxl.out (by with_unfolding_all exact ⟨_, _, rfl, rfl, rfl⟩) (by kernel_rfl) hvt32.len hvt32.one ?_)
          intro w35 hF35 hz35
          (try simp only [zZ, zN] at hF35)
          refine hK.out _ _ (trivial) (fun _ => ?_)
          clear hK K
          (try simp only [zP, zQ, zS, zZ, zN])
          refine wpAnyH_done (by kernel_rfl) ?_ _
          go_wp2_with fail
          go_meet
          exact ⟨A33, c33, cs32, es32, hc33, box hvt32, hF35.tail⟩
         exact AllReadyH.nil
        refine AllReadyH.cons (by simp only [List.getElem?_toArray, List.getElem?_cons_zero, List.getElem?_cons_succ]; rfl) (fun K hK => ?_) ?_
        ·refine stp (by with_unfolding_all rfl) (wp_fst hF33 (i := 2) rfl (v := .slice A33 (nk + 1) c33) (by with_unfolding_all exact ⟨_, _, rfl, rfl, rfl⟩) (by kernel_rfl) rfl rfl (by rw [vlL_len]; decide) ?_)
         intro w34 hF34 hz34
         (try simp only [zZ, zN] at hF34)
         rw [(vlL_4 (k := 5) (n := 0) (t := ⟨#[]⟩) (a := .slice An nn cn) (b := .slice Ak nk ck))] at hF34
         refine hK.out _ _ (trivial) (fun _ => ?_)
         clear hK K
         (try simp only [zP, zQ, zS, zZ, zN])
         refine rdy1 9 (fun K hK => ?_)
         refine stp (by with_unfolding_all rfl) (wp_indexAddr T_vals (hF34.rdOwn (i := 4) rfl) (by with_unfolding_all exact ⟨_, _, _, _, rfl, rfl, rfl⟩) (by omega) (by omega) ?_)
         refine hK.out _ _ (trivial) (fun _ => ?_)
         clear hK K
         (try simp only [zP, zQ, zS, zZ, zN])
         refine rdy1 10 (fun K hK => ?_)
         refine stp (by with_unfolding_all rfl) (wp_fstO hF34 (i := 4) rfl hxl.out (by with_unfolding_all exact ⟨_, _, rfl, rfl, rfl⟩) (by kernel_rfl) hvt32.len hvt32.one ?_)
         intro w35 hF35 hz35
         (try simp only [zZ, zN] at hF35)
         refine hK.out _ _ (trivial) (fun _ => ?_)
         clear hK K
         (try simp only [zP, zQ, zS, zZ, zN])
         refine wpAnyH_done (by kernel_rfl) ?_ _
         go_wp2_with fail
         go_meet
         exact ⟨A33, c33, cs32, es32, hc33, box hvt32, hF35.tail⟩
        exact AllReadyH.nil
       exact AllReadyH.nil
      refine AllReadyH.cons (by simp only [List.getElem?_toArray, List.getElem?_cons_zero, List.getElem?_cons_succ]; rfl) (fun K hK => ?_) ?_
      ·refine stp (by with_unfolding_all rfl) (wp_call Tryz.func64 rfl (by with_unfolding_all rfl) (by with_unfolding_all rfl) (by with_unfolding_all rfl) (hvc.out _ (hL.on (hFd.belowG hg hB)) (hFd.blk (i := 2) rfl) (Nat.le_trans hB hFd.size) (hFd.rdB hg hB hr)) ?_)
       rintro e w31 ⟨cs31, es31, rfl, hvt31, hv31⟩
       refine ⟨_, rfl, ?_⟩
       have hF31 := hFd.putG (i := 2) rfl hv31
       simp only [List.set_cons_zero, List.set_cons_succ, List.cons_append] at hF31
       refine hK.out _ _ (trivial) (fun _ => ?_)
       clear hK K
       (try simp only [zP, zQ, zS, zZ, zN])
       refine wpAnyH_ready (rs := [1, 7]) (by kernel_rfl) (by simp) ?_
       refine AllReadyH.cons (by simp only [List.getElem?_toArray, List.getElem?_cons_zero, List.getElem?_cons_succ]; rfl) (fun K hK => ?_) ?_
       ·refine stp (by with_unfolding_all rfl) (wp_fld hF31 (i := 1) rfl uq74 rfl (by with_unfolding_all exact ⟨_, rfl, rfl⟩) rfl ?_)
        refine hK.out _ _ (trivial) (fun _ => ?_)
        clear hK K
        (try simp only [zP, zQ, zS, zZ, zN])
        refine tkp 6 trivial ?_
        (try simp only [zP, zQ, zS, zZ, zN])
        refine rdy1 7 (fun K hK => ?_)
        refine stp (by with_unfolding_all rfl) (wp_fbs1 T_vals hF31 (by with_unfolding_all rfl) (ds := vl0) (by with_unfolding_all rfl) rfl (by decide) ?_)
        intro w32 g32 hF32 hz32
        refine hK.out _ _ (trivial) (fun _ => ?_)
        clear hK K
        (try simp only [zP, zQ, zS, zZ, zN])
        refine rdy1 8 (fun K hK => ?_)
        refine stp (by with_unfolding_all rfl) (wp_fappG T_vals hF32 (i := 4) rfl (Nat.le_refl _) (hF32.rdOwn (i := 0) rfl) vlL_one (by with_unfolding_all exact ⟨_, _, rfl, rfl, rfl⟩) (by unfold maxLen; omega) (by omega) ?_)
        intro v33 w33 hF33 hz33
        (try simp only [zZ, zN] at hF33)
        obtain ⟨A33, c33, rfl, hc33⟩ := hF33.ownParts (i := 4) rfl
        refine hK.out _ _ (trivial) (fun _ => ?_)
        clear hK K
        (try simp only [zP, zQ, zS, zZ, zN])
        refine tkp 11 trivial ?_
        (try simp only [zP, zQ, zS, zZ, zN])
        refine wpAnyH_ready (rs := [9, 12]) (by kernel_rfl) (by simp) ?_
        refine AllReadyH.cons (by simp only [List.getElem?_toArray, List.getElem?_cons_zero, List.getElem?_cons_succ]; rfl) (fun K hK => ?_) ?_
        ·refine stp (by with_unfolding_all rfl) (wp_indexAddr T_vals (hF33.rdOwn (i := 4) rfl) (by with_unfolding_all exact ⟨_, _, _, _, rfl, rfl, rfl⟩) (by omega) (by omega) ?_)
         refine hK.out _ _ (trivial) (fun _ => ?_)
         clear hK K
         (try simp only [zP, zQ, zS, zZ, zN])
         refine wpAnyH_ready (rs := [10, 12]) (by kernel_rfl) (by simp) ?_
         refine AllReadyH.cons (by simp only [List.getElem?_toArray, List.getElem?_cons_zero, List.getElem?_cons_succ]; rfl) (fun K hK => ?_) ?_
         ·refine stp (by with_unfolding_all rfl) (wp_fstO hF33 (i := 4) rfl hxl.out (by with_unfolding_all exact ⟨_, _, rfl, rfl, rfl⟩) (by kernel_rfl) hvt31.len hvt31.one ?_)
          intro w34 hF34 hz34
          (try simp only [zZ, zN] at hF34)
          refine hK.out _ _ (trivial) (fun _ => ?_)
          clear hK K
          (try simp only [zP, zQ, zS, zZ, zN])
          refine rdy1 12 (fun K hK => ?_)
          refine stp (by with_unfolding_all rfl) (wp_fst hF34 (i := 2) rfl (v := .slice A33 (nk + 1) c33) (by with_unfolding_all exact ⟨_, _, rfl, rfl, rfl⟩) (by kernel_rfl) rfl rfl (by rw [vlL_len]; decide) ?_)
          intro w35 hF35 hz35
          (try simp only [zZ, zN] at hF35)
          rw [(vlL_4 (k := 5) (n := 0) (t := ⟨#[]⟩) (a := .slice An nn cn) (b := .slice Ak nk ck))] at hF35
          refine hK.out _ _ (trivial) (fun _ => ?_)
          clear hK K
          (try simp only [zP, zQ, zS, zZ, zN])
          refine wpAnyH_done (by kernel_rfl) ?_ _
          go_wp2_with fail
          go_meet
          exact ⟨A33, c33, cs31, es31, hc33, box hvt31, hF35.tail⟩
         refine AllReadyH.cons (by simp only [List.getElem?_toArray, List.getElem?_cons_zero, List.getElem?_cons_succ]; rfl) (fun K hK => ?_) ?_
         ·refine stp (by with_unfolding_all rfl) (wp_fst hF33 (i := 2) rfl (v := .slice A33 (nk + 1) c33) (by with_unfolding_all exact ⟨_, _, rfl, rfl, rfl⟩) (by kernel_rfl) rfl rfl (by rw [vlL_len]; decide) ?_)
          intro w34 hF34 hz34
          (try simp only [zZ, zN] at hF34)
          rw [(vlL_4 (k := 5) (n := 0) (t := ⟨#[]⟩) (a := .slice An nn cn) (b := .slice Ak nk ck))] at hF34
          refine hK.out _ _ (trivial) (fun _ => ?_)
          clear hK K
          (try simp only [zP, zQ, zS, zZ, zN])
          refine rdy1 10 (fun K hK => ?_)
          refine stp (by with_unfolding_all rfl) (wp_fstO hF34 (i := 4) rfl hxl.out (by with_unfolding_all exact ⟨_, _, rfl, rfl, rfl⟩) (by kernel_rfl) hvt31.len hvt31.one ?_)
          intro w35 hF35 hz35
          (try simp only [zZ, zN] at hF35)
          refine hK.out _ _ (trivial) (fun _ => ?_)
          clear hK K
          (try simp only [zP, zQ, zS, zZ, zN])
          refine wpAnyH_done (by kernel_rfl) ?_ _
          go_wp2_with fail
          go_meet
          exact ⟨A33, c33, cs31, es31, hc33, box hvt31, hF35.tail⟩
         exact AllReadyH.nil
        refine AllReadyH.cons (by simp only [List.getElem?_toArray, List.getElem?_cons_zero, List.getElem?_cons_succ]; rfl) (fun K hK => ?_) ?_
        ·refine stp (by with_unfolding_all rfl) (wp_fst hF33 (i := 2) rfl (v := .slice A33 (nk + 1) c33) (by with_unfolding_all exact ⟨_, _, rfl, rfl, rfl⟩) (by kernel_rfl) rfl rfl (by rw [vlL_len]; decide) ?_)
         intro w34 hF34 hz34
         (try simp only [zZ, zN] at hF34)
         rw [(vlL_4 (k := 5) (n := 0) (t := ⟨#[]⟩) (a := .slice An nn cn) (b := .slice Ak nk ck))] at hF34
         refine hK.out _ _ (trivial) (fun _ => ?_)
         clear hK K
         (try simp only [zP, zQ, zS, zZ, zN])
         refine rdy1 9 (fun K hK => ?_)
         refine stp (by with_unfolding_all rfl) (wp_indexAddr T_vals (hF34.rdOwn (i := 4) rfl) (by with_unfolding_all exact ⟨_, _, _, _, rfl, rfl, rfl⟩) (by omega) (by omega) ?_)
         refine hK.out _ _ (trivial) (fun _ => ?_)
         clear hK K
         (try simp only [zP, zQ, zS, zZ, zN])
         refine rdy1 10 (fun K hK => ?_)
         refine stp (by with_unfolding_all rfl) (wp_fstO hF34 (i := 4) rfl hxl.out (by with_unfolding_all exact ⟨_, _, rfl, rfl, rfl⟩) (by kernel_rfl) hvt31.len hvt31.one ?_)
         intro w35 hF35 hz35
         (try simp only [zZ, zN] at hF35)
         refine hK.out _ _ (trivial) (fun _ => ?_)
         clear hK K
         (try simp only [zP, zQ, zS, zZ, zN])
         refine wpAnyH_done (by kernel_rfl) ?_ _
         go_wp2_with fail
         go_meet
         exact ⟨A33, c33, cs31, es31, hc33, box hvt31, hF35.tail⟩
        exact AllReadyH.nil
       refine AllReadyH.cons (by simp only [List.getElem?_toArray, List.getElem?_cons_zero, List.getElem?_cons_succ]; rfl) (fun K hK => ?_) ?_
       ·refine stp (by with_unfolding_all rfl) (wp_fbs1 T_vals hF31 (by with_unfolding_all rfl) (ds := vl0) (by with_unfolding_all rfl) rfl (by decide) ?_)
        intro w32 g32 hF32 hz32
        refine hK.out _ _ (trivial) (fun _ => ?_)
        clear hK K
        (try simp only [zP, zQ, zS, zZ, zN])
        refine rdy1 1 (fun K hK => ?_)
        refine stp (by with_unfolding_all rfl) (wp_fld hF32 (i := 2) rfl uq74 rfl (by with_unfolding_all exact ⟨_, rfl, rfl⟩) rfl ?_)
        refine hK.out _ _ (trivial) (fun _ => ?_)
        clear hK K
        (try simp only [zP, zQ, zS, zZ, zN])
        refine tkp 6 trivial ?_
        (try simp only [zP, zQ, zS, zZ, zN])
        refine rdy1 8 (fun K hK => ?_)
        refine stp (by with_unfolding_all rfl) (wp_fappG T_vals hF32 (i := 4) rfl (Nat.le_refl _) (hF32.rdOwn (i := 0) rfl) vlL_one (by with_unfolding_all exact ⟨_, _, rfl, rfl, rfl⟩) (by unfold maxLen; omega) (by omega) ?_)
        intro v33 w33 hF33 hz33
        (try simp only [zZ, zN] at hF33)
        obtain ⟨A33, c33, rfl, hc33⟩ := hF33.ownParts (i := 4) rfl
        refine hK.out _ _ (trivial) (fun _ => ?_)
        clear hK K
        (try simp only [zP, zQ, zS, zZ, zN])
        refine tkp 11 trivial ?_
        (try simp only [zP, zQ, zS, zZ, zN])
        refine wpAnyH_ready (rs := [9, 12]) (by kernel_rfl) (by simp) ?_
        refine AllReadyH.cons (by simp only [List.getElem?_toArray, List.getElem?_cons_zero, List.getElem?_cons_succ]; rfl) (fun K hK => ?_) ?_
        ·refine stp (by with_unfolding_all rfl) (wp_indexAddr T_vals (hF33.rdOwn (i := 4) rfl) (by with_unfolding_all exact ⟨_, _, _, _, rfl, rfl, rfl⟩) (by omega) (by omega) ?_)
         refine hK.out _ _ (trivial) (fun _ => ?_)
         clear hK K
         (try simp only [zP, zQ, zS, zZ, zN])
         refine wpAnyH_ready (rs := [10, 12]) (by kernel_rfl) (by simp) ?_
         refine AllReadyH.cons (by simp only [List.getElem?_toArray, List.getElem?_cons_zero, List.getElem?_cons_succ]; rfl) (fun K hK => ?_) ?_
         ·refine stp (by with_unfolding_all rfl) (wp_fstO hF33 (i := 4) rfl hxl.out (by with_unfolding_all exact ⟨_, _, rfl, rfl, rfl⟩) (by kernel_rfl) hvt31.len hvt31.one ?_)
          intro w34 hF34 hz34
          (try simp only [zZ, zN] at hF34)
          refine hK.out _ _ (trivial) (fun _ => ?_)
          clear hK K
          (try simp only [zP, zQ, zS, zZ, zN])
          refine rdy1 12 (fun K hK => ?_)
          refine stp (by with_unfolding_all rfl) (wp_fst hF34 (i := 2) rfl (v := .slice A33 (nk + 1) c33) (by with_unfolding_all exact ⟨_, _, rfl, rfl, rfl⟩) (by kernel_rfl) rfl rfl (by rw [vlL_len]; decide) ?_)
          intro w35 hF35 hz35
          (try simp only [zZ, zN] at hF35)
          rw [(vlL_4 (k := 5) (n := 0) (t := ⟨#[]⟩) (a := .slice An nn cn) (b := .slice Ak nk ck))] at hF35
          refine hK.out _ _ (trivial) (fun _ => ?_)
          clear hK K
          (try simp only [zP, zQ, zS, zZ, zN])
          refine wpAnyH_done (by kernel_rfl) ?_ _
          go_wp2_with fail
          go_meet
          exact ⟨A33, c33, cs31, es31, hc33, box hvt31, hF35.tail⟩
         refine AllReadyH.cons (by simp only [List.getElem?_toArray, List.getElem?_cons_zero, List.getElem?_cons_succ]; rfl) (fun K hK => ?_) ?_
         ·refine stp (by with_unfolding_all rfl) (wp_fst hF33 (i := 2) rfl (v := .slice A33 (nk + 1) c33) (by with_unfolding_all exact ⟨_, _, rfl, rfl, rfl⟩) (by kernel_rfl) rfl rfl (by rw [vlL_len]; decide) ?_)
          intro w34 hF34 hz34
          (try simp only [zZ, zN] at hF34)
          rw [(vlL_4 (k := 5) (n := 0) (t := ⟨#[]⟩) (a := .slice An nn cn) (b := .slice Ak nk ck))] at hF34
          refine hK.out _ _ (trivial) (fun _ => ?_)
          clear hK K
          (try simp only [zP, zQ, zS, zZ, zN])
          refine rdy1 10 (fun K hK => ?_)
          refine stp (by with_unfolding_all rfl) (wp_fstO hF34 (i := 4) rfl hxl.out (by with_unfolding_all exact ⟨_, _, rfl, rfl, rfl⟩) (by kernel_rfl) hvt31.len hvt31.one ?_)
          intro w35 hF35 hz35
          (try simp only [zZ, zN] at hF35)
          refine hK.out _ _ (trivial) (fun _ => ?_)
          clear hK K
          (try simp only [zP, zQ, zS, zZ, zN])
          refine wpAnyH_done (by kernel_rfl) ?_ _
          go_wp2_with fail
          go_meet
          exact ⟨A33, c33, cs31, es31, hc33, box hvt31, hF35.tail⟩
         exact AllReadyH.nil
        refine AllReadyH.cons (by simp only [List.getElem?_toArray, List.getElem?_cons_zero, List.getElem?_cons_succ]; rfl) (fun K hK => ?_) ?_
        ·refine stp (by with_unfolding_all rfl) (wp_fst hF33 (i := 2) rfl (v := .slice A33 (nk + 1) c33) (by with_unfolding_all exact ⟨_, _, rfl, rfl, rfl⟩) (by kernel_rfl) rfl rfl (by rw [vlL_len]; decide) ?_)
         intro w34 hF34 hz34
         (try simp only [zZ, zN] at hF34)
         rw [(vlL_4 (k := 5) (n := 0) (t := ⟨#[]⟩) (a := .slice An nn cn) (b := .slice Ak nk ck))] at hF34
         refine hK.out _ _ (trivial) (fun _ => ?_)
         clear hK K
         (try simp only [zP, zQ, zS, zZ, zN])
         refine rdy1 9 (fun K hK => ?_)
         refine stp (by with_unfolding_all rfl) (wp_indexAddr T_vals (hF34.rdOwn (i := 4) rfl) (by with_unfolding_all exact ⟨_, _, _, _, rfl, rfl, rfl⟩) (by omega) (by omega) ?_)
         refine hK.out _ _ (trivial) (fun _ => ?_)
         clear hK K
         (try simp only [zP, zQ, zS, zZ, zN])
         refine rdy1 10 (fun K hK => ?_)
         refine stp (by with_unfolding_all rfl) (wp_fstO hF34 (i := 4) rfl hxl.out (by with_unfolding_all exact ⟨_, _, rfl, rfl, rfl⟩) (by kernel_rfl) hvt31.len hvt31.one ?_)
         intro w35 hF35 hz35
         (try simp only [zZ, zN] at hF35)
         refine hK.out _ _ (trivial) (fun _ => ?_)
         clear hK K
         (try simp only [zP, zQ, zS, zZ, zN])
         refine wpAnyH_done (by kernel_rfl) ?_ _
         go_wp2_with fail
         go_meet
         exact ⟨A33, c33, cs31, es31, hc33, box hvt31, hF35.tail⟩
        exact AllReadyH.nil
       exact AllReadyH.nil
      refine AllReadyH.cons (by simp only [List.getElem?_toArray, List.getElem?_cons_zero, List.getElem?_cons_succ]; rfl) (fun K hK => ?_) ?_
      ·refine stp (by with_unfolding_all rfl) (wp_fbs1 T_vals hFd (by with_unfolding_all rfl) (ds := vl0) (by with_unfolding_all rfl) rfl (by decide) ?_)
       intro w31 g31 hF31 hz31
       refine hK.out _ _ (trivial) (fun _ => ?_)
       clear hK K
       (try simp only [zP, zQ, zS, zZ, zN])
       refine wpAnyH_ready (rs := [1, 5]) (by kernel_rfl) (by simp) ?_
       refine AllReadyH.cons (by simp only [List.getElem?_toArray, List.getElem?_cons_zero, List.getElem?_cons_succ]; rfl) (fun K hK => ?_) ?_
       ·refine stp (by with_unfolding_all rfl) (wp_fld hF31 (i := 2) rfl uq74 rfl (by with_unfolding_all exact ⟨_, rfl, rfl⟩) rfl ?_)
        refine hK.out _ _ (trivial) (fun _ => ?_)
        clear hK K
        (try simp only [zP, zQ, zS, zZ, zN])
        refine tkp 6 trivial ?_
        (try simp only [zP, zQ, zS, zZ, zN])
        refine rdy1 5 (fun K hK => ?_)
        refine stp (by with_unfolding_all rfl) (wp_call Tryz.func64 rfl (by with_unfolding_all rfl) (by with_unfolding_all rfl) (by with_unfolding_all rfl) (hvc.out _ (hL.on (hF31.belowG hg hB)) (hF31.blk (i := 3) rfl) (Nat.le_trans hB hF31.size) (hF31.rdB hg hB hr)) ?_)
        rintro e w32 ⟨cs32, es32, rfl, hvt32, hv32⟩
        refine ⟨_, rfl, ?_⟩
        have hF32 := hF31.putG (i := 3) rfl hv32
        simp only [List.set_cons_zero, List.set_cons_succ, List.cons_append] at hF32
        refine hK.out _ _ (trivial) (fun _ => ?_)
        clear hK K
        (try simp only [zP, zQ, zS, zZ, zN])
        refine rdy1 8 (fun K hK => ?_)
        refine stp (by with_unfolding_all rfl) (wp_fappG T_vals hF32 (i := 4) rfl (Nat.le_refl _) (hF32.rdOwn (i := 0) rfl) vlL_one (by with_unfolding_all exact ⟨_, _, rfl, rfl, rfl⟩) (by unfold maxLen; omega) (by omega) ?_)
        intro v33 w33 hF33 hz33
        (try simp only [zZ, zN] at hF33)
        obtain ⟨A33, c33, rfl, hc33⟩ := hF33.ownParts (i := 4) rfl
        refine hK.out _ _ (trivial) (fun _ => ?_)
        clear hK K
        (try simp only [zP, zQ, zS, zZ, zN])
        refine tkp 11 trivial ?_
        (try simp only [zP, zQ, zS, zZ, zN])
        refine wpAnyH_ready (rs := [9, 12]) (by kernel_rfl) (by simp) ?_
        refine AllReadyH.cons (by simp only [List.getElem?_toArray, List.getElem?_cons_zero, List.getElem?_cons_succ]; rfl) (fun K hK => ?_) ?_
        ·refine stp (by with_unfolding_all rfl) (wp_indexAddr T_vals (hF33.rdOwn (i := 4) rfl) (by with_unfolding_all exact ⟨_, _, _, _, rfl, rfl, rfl⟩) (by omega) (by omega) ?_)
         refine hK.out _ _ (trivial) (fun _ => ?_)
         clear hK K
         (try simp only [zP, zQ, zS, zZ, zN])
         refine wpAnyH_ready (rs := [10, 12]) (by kernel_rfl) (by simp) ?_
         refine AllReadyH.cons (by simp only [List.getElem?_toArray, List.getElem?_cons_zero, List.getElem?_cons_succ]; rfl) (fun K hK => ?_) ?_
         ·refine stp (by with_unfolding_all rfl) (wp_fstO hF33 (i := 4) rfl hxl.out (by with_unfolding_all exact ⟨_, _, rfl, rfl, rfl⟩) (by kernel_rfl) hvt32.len hvt32.one ?_)
          intro w34 hF34 hz34
          (try simp only [zZ, zN] at hF34)
          refine hK.out _ _ (trivial) (fun _ => ?_)
          clear hK K
          (try simp only [zP, zQ, zS, zZ, zN])
          refine rdy1 12 (fun K hK => ?_)
          refine stp (by with_unfolding_all rfl) (wp_fst hF34 (i := 2) rfl (v := .slice A33 (nk + 1) c33) (by with_unfolding_all exact ⟨_, _, rfl, rfl, rfl⟩) (by kernel_rfl) rfl rfl (by rw [vlL_len]; decide) ?_)
          intro w35 hF35 hz35
          (try simp only [zZ, zN] at hF35)
          rw [(vlL_4 (k := 5) (n := 0) (t := ⟨#[]⟩) (a := .slice An nn cn) (b := .slice Ak nk ck))] at hF35
          refine hK.out _ _ (trivial) (fun _ => ?_)
          clear hK K
          (try simp only [zP, zQ, zS, zZ, zN])
          refine wpAnyH_done (by kernel_rfl) ?_ _
          go_wp2_with fail
          go_meet
          exact ⟨A33, c33, cs32, es32, hc33, box hvt32, hF35.tail⟩
         refine AllReadyH.cons (by simp only [List.getElem?_toArray, List.getElem?_cons_zero, List.getElem?_cons_succ]; rfl) (fun K hK => ?_) ?_
         ·refine stp (by with_unfolding_all rfl) (wp_fst hF33 (i := 2) rfl (v := .slice A33 (nk + 1) c33) (by with_unfolding_all exact ⟨_, _, rfl, rfl, rfl⟩) (by kernel_rfl) rfl rfl (by rw [vlL_len]; decide) ?_)
          intro w34 hF34 hz34
          (try simp only [zZ, zN] at hF34)
          rw [(vlL_4 (k := 5) (n := 0) (t := ⟨#[]⟩) (a := .slice An nn cn) (b := .slice Ak nk ck))] at hF34
          refine hK.out _ _ (trivial) (fun _ => ?_)
          clear hK K
          (try simp only [zP, zQ, zS, zZ, zN])
          refine rdy1 10 (fun K hK => ?_)
          refine stp (by with_unfolding_all rfl) (wp_fstO hF34 (i := 4) rfl hxl.out (by with_unfolding_all exact ⟨_, _, rfl, rfl, rfl⟩) (by kernel_rfl) hvt32.len hvt32.one ?_)
          intro w35 hF35 hz35
          (try simp only [zZ, zN] at hF35)
          refine hK.out _ _ (trivial) (fun _ => ?_)
          clear hK K
          (try simp only [zP, zQ, zS, zZ, zN])
          refine wpAnyH_done (by kernel_rfl) ?_ _
          go_wp2_with fail
          go_meet
          exact ⟨A33, c33, cs32, es32, hc33, box hvt32, hF35.tail⟩
         exact AllReadyH.nil
        refine AllReadyH.cons (by simp only [List.getElem?_toArray, List.getElem?_cons_zero, List.getElem?_cons_succ]; rfl) (fun K hK => ?_) ?_
        ·refine stp (by with_unfolding_all rfl) (wp_fst hF33 (i := 2) rfl (v := .slice A33 (nk + 1) c33) (by with_unfolding_all exact ⟨_, _, rfl, rfl, rfl⟩) (by kernel_rfl) rfl rfl (by rw [vlL_len]; decide) ?_)
         intro w34 hF34 hz34
         (try simp only [zZ, zN] at hF34)
         rw [(vlL_4 (k := 5) (n := 0) (t := ⟨#[]⟩) (a := .slice An nn cn) (b := .slice Ak nk ck))] at hF34
         refine hK.out _ _ (trivial) (fun _ => ?_)
         clear hK K
         (try simp only [zP, zQ, zS, zZ, zN])
         refine rdy1 9 (fun K hK => ?_)
         refine stp (by with_unfolding_all rfl) (wp_indexAddr T_vals (hF34.rdOwn (i := 4) rfl) (by with_unfolding_all exact ⟨_, _, _, _, rfl, rfl, rfl⟩) (by omega) (by omega) ?_)
         refine hK.out _ _ (trivial) (fun _ => ?_)
         clear hK K
         (try simp only [zP, zQ, zS, zZ, zN])
         refine rdy1 10 (fun K hK => ?_)
         refine stp (by with_unfolding_all rfl) (wp_fstO hF34 (i := 4) rfl hxl.out (by with_unfolding_all exact ⟨_, _, rfl, rfl, rfl⟩) (by kernel_rfl) hvt32.len hvt32.one ?_)
         intro w35 hF35 hz35
         (try simp only [zZ, zN] at hF35)
         refine hK.out _ _ (trivial) (fun _ => ?_)
         clear hK K
         (try simp only [zP, zQ, zS, zZ, zN])
         refine wpAnyH_done (by kernel_rfl) ?_ _
         go_wp2_with fail
         go_meet
         exact ⟨A33, c33, cs32, es32, hc33, box hvt32, hF35.tail⟩
        exact AllReadyH.nil
       refine AllReadyH.cons (by simp only [List.getElem?_toArray, List.getElem?_cons_zero, List.getElem?_cons_succ]; rfl) (fun K hK => ?_) ?_
       ·refine stp (by with_unfolding_all rfl) (wp_call Tryz.func64 rfl (by with_unfolding_all rfl) (by with_unfolding_all rfl) (by with_unfolding_all rfl) (hvc.out _ (hL.on (hF31.belowG hg hB)) (hF31.blk (i := 3) rfl) (Nat.le_trans hB hF31.size) (hF31.rdB hg hB hr)) ?_)
        rintro e w32 ⟨cs32, es32, rfl, hvt32, hv32⟩
        refine ⟨_, rfl, ?_⟩
        have hF32 := hF31.putG (i := 3) rfl hv32
        simp only [List.set_cons_zero, List.set_cons_succ, List.cons_append] at hF32
        refine hK.out _ _ (trivial) (fun _ => ?_)
        clear hK K
        (try simp only [zP, zQ, zS, zZ, zN])
        refine rdy1 1 (fun K hK => ?_)
        refine stp (by with_unfolding_all rfl) (wp_fld hF32 (i := 2) rfl uq74 rfl (by with_unfolding_all exact ⟨_, rfl, rfl⟩) rfl ?_)
        refine hK.out _ _ (trivial) (fun _ => ?_)
        clear hK K
        (try simp only [zP, zQ, zS, zZ, zN])
        refine tkp 6 trivial ?_
        (try simp only [zP, zQ, zS, zZ, zN])
        refine rdy1 8 (fun K hK => ?_)
        refine stp (by with_unfolding_all rfl) (wp_fappG T_vals hF32 (i := 4) rfl (Nat.le_refl _) (hF32.rdOwn (i := 0) rfl) vlL_one (by with_unfolding_all exact ⟨_, _, rfl, rfl, rfl⟩) (by unfold maxLen; omega) (by omega) ?_)
        intro v33 w33 hF33 hz33
        (try simp only [zZ, zN] at hF33)
        obtain ⟨A33, c33, rfl, hc33⟩ := hF33.ownParts (i := 4) rfl
        refine hK.out _ _ (trivial) (fun _ => ?_)
        clear hK K
        (try simp only [zP, zQ, zS, zZ, zN])
        refine tkp 11 trivial ?_
        (try simp only [zP, zQ, zS, zZ, zN])
        refine wpAnyH_ready (rs := [9, 12]) (by kernel_rfl) (by simp) ?_
        refine AllReadyH.cons (by simp only [List.getElem?_toArray, List.getElem?_cons_zero, List.getElem?_cons_succ]; rfl) (fun K hK => ?_) ?_
        ·refine stp (by with_unfolding_all rfl) (wp_indexAddr T_vals (hF33.rdOwn (i := 4) rfl) (by with_unfolding_all exact ⟨_, _, _, _, rfl, rfl, rfl⟩) (by omega) (by omega) ?_)
         refine hK.out _ _ (trivial) (fun _ => ?_)
         clear hK K
         (try simp only [zP, zQ, zS, zZ, zN])
         refine wpAnyH_ready (rs := [10, 12]) (by kernel_rfl) (by simp) ?_
         refine AllReadyH.cons (by simp only [List.getElem?_toArray, List.getElem?_cons_zero, List.getElem?_cons_succ]; rfl) (fun K hK => ?_) ?_
         ·refine stp (by with_unfolding_all rfl) (wp_fstO hF33 (i := 4) rfl hxl.out (by with_unfolding_all exact ⟨_, _, rfl, rfl, rfl⟩) (by kernel_rfl) hvt32.len hvt32.one ?_)
          intro w34 hF34 hz34
          (try simp only [zZ, zN] at hF34)
          refine hK.out _ _ (trivial) (fun _ => ?_)
          clear hK K
          (try simp only [zP, zQ, zS, zZ, zN])
          refine rdy1 12 (fun K hK => ?_)
          refine stp (by with_unfolding_all rfl) (wp_fst hF34 (i := 2) rfl (v := .slice A33 (nk + 1) c33) (by with_unfolding_all exact ⟨_, _, rfl, rfl, rfl⟩) (by kernel_rfl) rfl rfl (by rw [vlL_len]; decide) ?_)
          intro w35 hF35 hz35
          (try simp only [zZ, zN] at hF35)
          rw [(vlL_4 (k := 5) (n := 0) (t := ⟨#[]⟩) (a := .slice An nn cn) (b := .slice Ak nk ck))] at hF35
          refine hK.out _ _ (trivial) (fun _ => ?_)
          clear hK K
          (try simp only [zP, zQ, zS, zZ, zN])
          refine wpAnyH_done (by kernel_rfl) ?_ _
          go_wp2_with fail
          go_meet
          exact ⟨A33, c33, cs32, es32, hc33, box hvt32, hF35.tail⟩
         refine AllReadyH.cons (by simp only [List.getElem?_toArray, List.getElem?_cons_zero, List.getElem?_cons_succ]; rfl) (fun K hK => ?_) ?_
         ·refine stp (by with_unfolding_all rfl) (wp_fst hF33 (i := 2) rfl (v := .slice A33 (nk + 1) c33) (by with_unfolding_all exact ⟨_, _, rfl, rfl, rfl⟩) (by kernel_rfl) rfl rfl (by rw [vlL_len]; decide) ?_)
          intro w34 hF34 hz34
          (try simp only [zZ, zN] at hF34)
          rw [(vlL_4 (k := 5) (n := 0) (t := ⟨#[]⟩) (a := .slice An nn cn) (b := .slice Ak nk ck))] at hF34
          refine hK.out _ _ (trivial) (fun _ => ?_)
          clear hK K
          (try simp only [zP, zQ, zS, zZ, zN])
          refine rdy1 10 (fun K hK => ?_)
          refine stp (by with_unfolding_all rfl) (wp_fstO hF34 (i := 4) rfl hxl.out (by with_unfolding_all exact ⟨_, _, rfl, rfl, rfl⟩) (by kernel_rfl) hvt32.len hvt32.one ?_)
          intro w35 hF35 hz35
          (try simp only [zZ, zN] at hF35)
          refine hK.out _ _ (trivial) (fun _ => ?_)
          clear hK K
          (try simp only [zP, zQ, zS, zZ, zN])
          refine wpAnyH_done (by kernel_rfl) ?_ _
          go_wp2_with fail
          go_meet
          exact ⟨A33, c33, cs32, es32, hc33, box hvt32, hF35.tail⟩
         exact AllReadyH.nil
        refine AllReadyH.cons (by simp only [List.getElem?_toArray, List.getElem?_cons_zero, List.getElem?_cons_succ]; rfl) (fun K hK => ?_) ?_
        ·refine stp (by with_unfolding_all rfl) (wp_fst hF33 (i := 2) rfl (v := .slice A33 (nk + 1) c33) (by with_unfolding_all exact ⟨_, _, rfl, rfl, rfl⟩) (by kernel_rfl) rfl rfl (by rw [vlL_len]; decide) ?_)
         intro w34 hF34 hz34
         (try simp only [zZ, zN] at hF34)
         rw [(vlL_4 (k := 5) (n := 0) (t := ⟨#[]⟩) (a := .slice An nn cn) (b := .slice Ak nk ck))] at hF34
         refine hK.out _ _ (trivial) (fun _ => ?_)
         clear hK K
         (try simp only [zP, zQ, zS, zZ, zN])
         refine rdy1 9 (fun K hK => ?_)
         refine stp (by with_unfolding_all rfl) (wp_indexAddr T_vals (hF34.rdOwn (i := 4) rfl) (by with_unfolding_all exact ⟨_, _, _, _, rfl, rfl, rfl⟩) (by omega) (by omega) ?_)
         refine hK.out _ _ (trivial) (fun _ => ?_)
         clear hK K
         (try simp only [zP, zQ, zS, zZ, zN])
         refine rdy1 10 (fun K hK => ?_)
         refine stp (by with_unfolding_all rfl) (wp_fstO hF34 (i := 4) rfl hxl.out (by with_unfolding_all exact ⟨_, _, rfl, rfl, rfl⟩) (by kernel_rfl) hvt32.len hvt32.one ?_)
         intro w35 hF35 hz35
         (try simp only [zZ, zN] at hF35)
         refine hK.out _ _ (trivial) (fun _ => ?_)
         clear hK K
         (try simp only [zP, zQ, zS, zZ, zN])
         refine wpAnyH_done (by kernel_rfl) ?_ _
         go_wp2_with fail
         go_meet
         exact ⟨A33, c33, cs32, es32, hc33, box hvt32, hF35.tail⟩
        exact AllReadyH.nil
       exact AllReadyH.nil
      exact AllReadyH.nil
     case rest =>
      obtain ⟨Ak2, ck2, cs2, es2, hck2, hvt, hF2⟩ := hcut
      clear hF1 hF hvc
      have hr1 : jBlanks b r ≤ n := by have := jBlanks_le b (p := r) (by rw [hl.out]; exact hrn); rw [hl.out] at this; exact this
      have hrg := jBlanks_ge b r
      have hT2 := box (hT.out.snoc hvt.out)
      have hbl := box (blanks_any g A n c r m2 B b wc (hF2.blk (i := 2) rfl) hg (Nat.le_trans hB hF2.size) (by omega) hrn (hF2.rdB hg hB hr))
      go_wp2_with fail
      refine hbl.out.mono ?_
      rintro e w8 ⟨rfl, h8⟩
      have hF8 := hF2.putF (i := 2) rfl h8
      simp only [zN, zZ] at hF8
      clear hbl h8 hF2
      cases hx : b[jBlanks b r]? with
      | none =>
       have hend : Box (jMany b 5 93 (some (jValue b d)) p m = .error (n, 9)) := box (by rw [hJ3.out]; unfold jNext; rw [hx, hl.out])
       have hnx := box (next_x hx (hF8.blk (i := 2) rfl) (hF8.rdB hg hB hr))
       rw [hl.out] at hnx
       clear hx hJ3
       go_wp2_with fail
       refine hnx.out.mono ?_
       rintro e w9 ⟨rfl, hb9⟩
       have hF9 := hF8.call hb9
       dsimp only [flt]
       go_wp2
       exact ⟨rfl, by unfold JEndP; rw [hend.out]; exact ⟨rfl, hF9.grown⟩⟩
      | some y =>
       have hyb := y.toNat_lt
       have hnx := box (next_q hx (hF8.blk (i := 2) rfl) (hF8.rdB hg hB hr) 0)
       have hplt := (List.getElem?_eq_some_iff.1 hx).1
       rw [hl.out] at hplt
       have hJ4 := hJ3.out
       unfold jNext at hJ4
       rw [hx] at hJ4
       simp only [] at hJ4
       clear hJ3 hx
       by_cases hyE : y = 93
       ·subst hyE
        rw [if_pos rfl] at hJ4
        have hend := box hJ4
        clear hJ4
        go_wp2_with fail
        refine hnx.out.mono ?_
        rintro e w9 ⟨rfl, q9, rfl⟩
        have hF9 := hF8.drewN q9
        go_wp2_with (first | (with_reducible refine lsx (wp_fld2 hF9 uq3 rfl (by with_unfolding_all exact ⟨_, rfl, rfl⟩) rfl ?_)) | ((with_reducible refine lsx (wp_fst2 hF9 (by with_unfolding_all exact ⟨_, _, rfl, rfl, rfl⟩) (by kernel_rfl) rfl rfl (by rw [rdrL_len]; decide) (rdrL_at (q := jBlanks b r + 1) (by omega)) ?_)); intro w10 hF10 hz10) | (with_reducible refine lsx (wp_fldA1 hF10 uq76 rfl (by with_unfolding_all exact ⟨_, rfl, rfl⟩) (ds := (vlL 5 0 ⟨#[]⟩ (.slice An nn cn) (.slice Ak2 (nk + 1) ck2))) (by rw [vlL_len]; kernel_rfl) (take_all _) ?_)) | ((with_reducible refine lsx (wp_fstA4 hF10 (by with_unfolding_all exact ⟨_, _, rfl, rfl, rfl⟩) (by rw [vlL_len]; kernel_rfl) vlL_one vlL_fit vlL_spl ?_)); intro w11 hF11 hz11))
        exact bodyPost_ret (results_cellF rfl _ hF11 (i := 4) rfl rfl uq76 rfl (by rw [vlL_len]; kernel_rfl)) rfl (by
         unfold JEndP
         rw [hend.out]
         refine ⟨_, _, rfl, VT.mk_ hcn hck2 hT2.out, ?_⟩
         have h12 := hF11.toRd (i := 0) rfl
         simp only [List.set_cons_zero] at h12
         have h13 := h12.toRd (i := 3) rfl
         simp only [zN, zZ] at h13
         refine (h13.sub (es' := .rd An 1 nn ((names).map strv) :: .blk g 127 (rdrL A n c (jBlanks b r + 1) m2) :: .rd Ak2 5 (nk + 1) (xs ++ cs2) :: (TE ++ es2)) ?_).perm (List.Perm.swap _ _ _)
         exact (((((List.Sublist.refl _).cons _).cons_cons _).cons_cons _).cons _).cons_cons _)
       ·rw [if_neg hyE] at hJ4
        have nE2 : ((y.toNat : Int) == 93) = false := u8_ne hyE
        replace hyE := box hyE
        have hwd := box (fun w' (hF : Fr [g] w w' (.own w.heap.size 9 1 (.slice An nn cn) nn ((names).map strv) :: .blk g2 76 (vlL 5 0 ⟨#[]⟩ (.slice An nn cn) (.slice Ak2 (nk + 1) ck2)) :: .blk g 127 (rdrL A n c (jBlanks b r) m2) :: .own w.heap.size 76 5 (.slice Ak2 (nk + 1) ck2) (nk + 1) (xs ++ cs2) :: .blk g1 76 vl0 :: (TE ++ es2))) => word_any g A n c (jBlanks b r) m2 B b ⟨#[44]⟩ w' (hF.blk (i := 2) rfl) hg (Nat.le_trans hB hF.size) (by omega) hr1 (by decide) (hF.rdB hg hB hr))
        rw [show ((⟨#[44]⟩ : ByteArray).data.toList) = [44] from rfl] at hwd
        cases hW : jWord b [44] (jBlanks b r) with
        | error z =>
         rw [hW] at hJ4 hwd
         simp only [] at hJ4
         have hend := box hJ4
         unfold JPost at hwd
         simp only [] at hwd
         clear hW hJ4
         go_wp2_with fail
         refine hnx.out.mono ?_
         rintro e w9 ⟨rfl, q9, rfl⟩
         have hF9 := hF8.drewN q9
         go_wp2_with fail
         refine (hwd.out _ hF9).mono ?_
         rintro e w10 ⟨rfl, hg10⟩
         dsimp only [flt]
         go_wp2
         exact ⟨rfl, by unfold JEndP; rw [hend.out]; exact ⟨rfl, grown_trans hF9.grown hg10⟩⟩
        | ok t =>
         have htn := (jWord_le hW).2.resolve_left (by simp)
         have htr : t = jBlanks b r + 1 := (jWord_le hW).1
         rw [hl.out] at htn
         have ht1 : jBlanks b t ≤ n := by have := jBlanks_le b (p := t) (by rw [hl.out]; exact htn); rw [hl.out] at this; exact this
         have htg := jBlanks_ge b t
         rw [hW] at hJ4 hwd
         simp only [] at hJ4
         have hgo := box hJ4
         unfold JPost at hwd
         simp only [] at hwd
         clear hW hJ4
         have hms : n + 1 ≤ f' + jBlanks b t := by have := hf.out; omega
         replace hms := box hms
         have hkf : Box (gk = f' + 1) := hk
         clear hk
         go_wp2_with fail
         refine hnx.out.mono ?_
         rintro e w9 ⟨rfl, q9, rfl⟩
         have hF9 := hF8.drewN q9
         clear hF8 hnx
         go_wp2_with fail
         refine (hwd.out _ hF9).mono ?_
         rintro e w10 ⟨rfl, h10⟩
         have hF10 := hF9.putF (i := 2) rfl h10
         simp only [zN, zZ] at hF10
         clear hwd h10 hF9
         have hbl := box (blanks_any g A n c t m2 B b w10 (hF10.blk (i := 2) rfl) hg (Nat.le_trans hB hF10.size) (by omega) htn (hF10.rdB hg hB hr))
         go_wp2_with fail
         refine hbl.out.mono ?_
         rintro e w11 ⟨rfl, h11⟩
         have hF11 := hF10.putF (i := 2) rfl h11
         simp only [zN, zZ] at hF11
         clear hbl h11 hF10
         go_wp2_with fail
         go_roundg f'
         case rel => exact ⟨names, kids ++ [v], jBlanks b t, m2, f', An, nn, cn, Ak2, nk + 1, ck2, xs ++ cs2, TE ++ es2, ht1, hm2, by omega, by omega, hcn, hck2, box rfl, hms, hnl, hgo, hT2, hF11⟩
         case measure => have := hkf.out; omega
set_option maxRecDepth 20000 in
set_option maxHeartbeats 12800000 in
theorem many_6 (d deep : Nat) (hV : ValueOk d (deep + 1)) (hdp : deep < 16) (g : Nat) (A : Option Addr) (n c p m B : Nat) (b : List UInt8) (w : World) (hL : LibsAt B w) (hh : w.heap[g]? = some (.cells (rdrL A n c p m).toArray 127 (0, 0))) (hg : B ≤ g) (hB : B ≤ w.heap.size) (hn : n ≤ 65536) (hnc : n ≤ c) (hp : p < n) (hm : m ≤ 4096) (hr : Rd w (· < B) A 1 n (b.map bv)) :
  Calls Tryz.prog 89 #[.pointer (some ⟨g, 0, none⟩), .int .i64 6, .int .u8 125, .int .i64 (deep : Int)] w (JEndP w g (jMany b 6 125 (some (jValue b d)) p m) (ToldV w g A n c)) := by
 have hl := box hr.bytes_len
 have hF0 := Fr.one hh
 have hd16 : ((deep : Int) == 16) = false := by rw [beq_eq_false_iff_ne]; omega
 have hp1 : jBlanks b (p + 1) ≤ n := by have := jBlanks_le b (p := p + 1) (by rw [hl.out]; exact hp); rw [hl.out] at this; exact this
 have hjm : Box (jMany b 6 125 (some (jValue b d)) p m = match jNext b (jBlanks b (p + 1)) with
  | .error x => .error x
  | .ok c => if c = 125 then .ok (.mk 6 0 [] [] [], jBlanks b (p + 1) + 1, m) else jManyL b 6 125 (jValue b d) (b.length + 1 - (p + 1)) (jBlanks b (p + 1)) m [] []) := box rfl
 clear hh
 go_enter Tryz.func89, Tryz.ntmps89
 go_wp2_with (first | ((with_reducible refine lsx (wp_falloc hF0 (cs := vl0) (z := .agg (List.toArray (vl0))) rfl (by kernel_rfl) (by with_unfolding_all rfl) ?_)); intro w1 g1 hF1 hz1) | (with_reducible refine lsx (wp_fbuild uq76 (z := .agg (List.toArray vl0)) (by kernel_rfl) (pl := vlP) (by kernel_rfl) (cs := (vlL 6 0 ⟨#[]⟩ (.slice none 0 0) (.slice none 0 0))) rfl (vs := [(0, .int .i64 6)]) (by with_unfolding_all rfl) (by with_unfolding_all rfl) ?_)) | ((with_reducible refine lsx (wp_falloc hF1 (cs := vl0) (z := .agg (List.toArray (vl0))) rfl (by kernel_rfl) (by with_unfolding_all rfl) ?_)); intro w2 g2 hF2 hz2) | ((with_reducible refine lsx (wp_fstA0 hF2 (by with_unfolding_all exact ⟨_, _, rfl, rfl, rfl⟩) (by rw [vlL_len]; kernel_rfl) vlL_one vlL_fit vlL_spl ?_)); intro w3 hF3 hz3) | (with_reducible refine lsx (wp_fld2 hF3 uq3 rfl (by with_unfolding_all exact ⟨_, rfl, rfl⟩) rfl ?_)) | ((with_reducible refine lsx (wp_fst2 hF3 (by with_unfolding_all exact ⟨_, _, rfl, rfl, rfl⟩) (by kernel_rfl) rfl rfl (by rw [rdrL_len]; decide) (rdrL_at (q := p + 1) (by omega)) ?_)); intro w4 hF4 hz4))
 clear hF0 hF1 hF2 hF3
 have hbl := box (blanks_any g A n c (p + 1) m B b w4 (hF4.blk (i := 2) rfl) hg (Nat.le_trans hB hF4.size) (by omega) hp (hF4.rdB hg hB hr))
 refine hbl.out.mono ?_
 rintro e w5 ⟨rfl, h5⟩
 have hF5 := hF4.putF (i := 2) rfl h5
 simp only [zN, zZ] at hF5
 clear hbl h5 hF4
 cases hx : b[jBlanks b (p + 1)]? with
 | none =>
  have hend : Box (jMany b 6 125 (some (jValue b d)) p m = .error (n, 9)) := box (by rw [hjm.out]; unfold jNext; rw [hx, hl.out])
  have hnx := box (next_x hx (hF5.blk (i := 2) rfl) (hF5.rdB hg hB hr))
  rw [hl.out] at hnx
  clear hx hjm
  go_wp2_with fail
  refine hnx.out.mono ?_
  rintro e w6 ⟨rfl, hb6⟩
  have hF6 := hF5.call hb6
  dsimp only [flt]
  go_wp2
  exact ⟨rfl, by unfold JEndP; rw [hend.out]; exact ⟨rfl, hF6.grown⟩⟩
 | some x =>
  have hjx : Box (jMany b 6 125 (some (jValue b d)) p m = if x = 125 then .ok (.mk 6 0 [] [] [], jBlanks b (p + 1) + 1, m) else jManyL b 6 125 (jValue b d) (n - p) (jBlanks b (p + 1)) m [] []) := box (by rw [hjm.out]; unfold jNext; rw [hx, hl.out, show n + 1 - (p + 1) = n - p by omega])
  have hxb := x.toNat_lt
  have hnx := box (next_q hx (hF5.blk (i := 2) rfl) (hF5.rdB hg hB hr) 0)
  have hplt := (List.getElem?_eq_some_iff.1 hx).1
  rw [hl.out] at hplt
  clear hjm
  by_cases hxE : x = 125
  ·subst hxE
   have hend := box (hjx.out.trans (if_pos rfl))
   clear hx hjx
   go_wp2_with fail
   refine hnx.out.mono ?_
   rintro e w6 ⟨rfl, q6, rfl⟩
   have hF6 := hF5.drewN q6
   go_wp2_with (first | (with_reducible refine lsx (wp_fld2 hF6 uq3 rfl (by with_unfolding_all exact ⟨_, rfl, rfl⟩) rfl ?_)) | ((with_reducible refine lsx (wp_fst2 hF6 (by with_unfolding_all exact ⟨_, _, rfl, rfl, rfl⟩) (by kernel_rfl) rfl rfl (by rw [rdrL_len]; decide) (rdrL_at (q := jBlanks b (p + 1) + 1) (by omega)) ?_)); intro w7 hF7 hz7) | (with_reducible refine lsx (wp_fldA0 hF7 uq76 rfl (by with_unfolding_all exact ⟨_, rfl, rfl⟩) (ds := (vlL 6 0 ⟨#[]⟩ (.slice none 0 0) (.slice none 0 0))) (by rw [vlL_len]; kernel_rfl) (take_all _) ?_)) | ((with_reducible refine lsx (wp_fstA1 hF7 (by with_unfolding_all exact ⟨_, _, rfl, rfl, rfl⟩) (by rw [vlL_len]; kernel_rfl) vlL_one vlL_fit vlL_spl ?_)); intro w8 hF8 hz8))
   exact bodyPost_ret (results_cellF rfl _ hF8 (i := 1) rfl rfl uq76 rfl (by rw [vlL_len]; kernel_rfl)) rfl (by
    unfold JEndP
    rw [hend.out]
    refine ⟨_, _, rfl, VT.leaf, ?_⟩
    exact (((hF8.tail.tail.pushNone 5).pushNone 1).picks [2, 0, 1] rfl (by decide)))
  ·have hjl := box (hjx.out.trans (if_neg hxE))
   have nE : ((x.toNat : Int) == 125) = false := u8_ne hxE
   replace hxE := box hxE
   clear hx hjx
   go_wp2_with fail
   refine hnx.out.mono ?_
   rintro e w6 ⟨rfl, q6, rfl⟩
   have hF6 := ((((hF5.drewN q6).none_ w.heap.size 76 5).none_ w.heap.size 9 1).picks [0, 2, 4, 1, 3] (fs := (.own w.heap.size 9 1 (.slice none 0 0) 0 ((([] : List (List UInt8))).map strv) :: .blk g2 76 (vlL 6 0 ⟨#[]⟩ (.slice none 0 0) (.slice none 0 0)) :: .blk g 127 (rdrL A n c (jBlanks b (p + 1)) m) :: .own w.heap.size 76 5 (.slice none 0 0) 0 [] :: .blk g1 76 vl0 :: [])) rfl (by decide))
   clear hF5 hnx
   go_wp2_with fail
   go_loopg [] (n - p) (fun k wr => ∃ (names : List (List UInt8)) (kids : List JV) (p' m' f : Nat) (An : Option Addr) (nn cn : Nat) (Ak : Option Addr) (nk ck : Nat) (xs : List Value) (TE : List Ent),
    p' ≤ n ∧ m' ≤ 4096 ∧ nk ≤ m' ∧ nn ≤ nk ∧ nn ≤ cn ∧ nk ≤ ck ∧ Box (k = f) ∧ Box (n + 1 ≤ f + p') ∧ Box (names.length = nn) ∧ Box (jMany b 6 125 (some (jValue b d)) p m = jManyL b 6 125 (jValue b d) f p' m' names kids) ∧ Box (VTL kids xs TE) ∧
    Fr [g] w wr (.own w.heap.size 9 1 (.slice An nn cn) nn ((names).map strv) :: .blk g2 76 (vlL 6 0 ⟨#[]⟩ (.slice An nn cn) (.slice Ak nk ck)) :: .blk g 127 (rdrL A n c p' m') :: .own w.heap.size 76 5 (.slice Ak nk ck) nk xs :: .blk g1 76 vl0 :: TE))
   case atStart => exact ⟨[], [], jBlanks b (p + 1), m, n - p, none, 0, 0, none, 0, 0, [], [], hp1, hm, by omega, by omega, by omega, by omega, box rfl, box (by have := jBlanks_ge b (p + 1); omega), box rfl, hjl, box VTL.nil, hF6⟩
   case round =>
    clear hF6 hjl
    obtain ⟨names, kids, p', m', f, An, nn, cn, Ak, nk, ck, xs, TE, hpn, hmm, hkm, hnk, hcn, hck, hk, hf, hnl, hJ, hT, hF⟩ := hrel
    obtain ⟨f', rfl⟩ : ∃ f', f = f' + 1 := ⟨f - 1, by have := hf.out; omega⟩
    have hxl := box (hF.ownLen (i := 3) rfl)
    have hnm := box (name_any w wr g g2 A n c p' m' B b names An nn cn (.slice Ak nk ck) (.own w.heap.size 76 5 (.slice Ak nk ck) nk xs :: .blk g1 76 vl0 :: TE) hL hg hB hn hnc hpn hr (by omega) hnl.out hcn hF)
    cases hN : jName b names p' with
    | error z =>
     have hend : Box (jMany b 6 125 (some (jValue b d)) p m = .error z) := box (by rw [hJ.out]; exact jManyL_bad (by rw [if_pos rfl]; exact hN))
     rw [hN] at hnm
     unfold JEndP at hnm
     simp only [] at hnm
     clear hN
     go_wp2_with fail
     refine hnm.out.mono ?_
     rintro e w7 ⟨rfl, hg7⟩
     dsimp only [flt]
     go_wp2
     exact ⟨rfl, by unfold JEndP; rw [hend.out]; exact ⟨rfl, hg7⟩⟩
    | ok y =>
    obtain ⟨s, q⟩ := y
    have hlen := jName_len hN
    rw [hl.out] at hlen
    have hpq : p' ≤ q := by omega
    have hqn := hlen.2
    clear hlen
    have hJ2 : Box (jMany b 6 125 (some (jValue b d)) p m = _) := box (hJ.out.trans (jManyL_go (by rw [if_pos rfl]; exact hN)))
    rw [if_pos (rfl : (6 : Int) = 6)] at hJ2
    rw [hN] at hnm
    unfold JEndP ToldNm at hnm
    simp only [] at hnm
    clear hN hJ
    go_wp2_with fail
    refine hnm.out.mono ?_
    rintro e w7 ⟨An1, cn1, rfl, hcn1, hF1⟩
    rw [hnl.out] at hF1 hcn1
    clear hnm
    have hd1 : ((deep : Int) + 1) = ((deep + 1 : Nat) : Int) := rfl
    have hvc := box (fun w' (h1 : LibsAt B w') (h2 : w'.heap[g]? = some (.cells (rdrL A n c q m').toArray 127 (0, 0))) (h3 : B ≤ w'.heap.size) (h4 : Rd w' (· < B) A 1 n (b.map bv)) => hV w' g A n c q m' B b h1 h2 hg h3 hn hnc hqn hmm h4)
    rw [← hd1] at hvc
    clear hd1
    have hwr : IntKind.i64.wrap ((deep : Int) + 1) = (deep : Int) + 1 := wrap64_deep hdp
    go_upto_region 11 with (fail)
    cases hvr : jValue b d q m' with
    | error z =>
     have hend : Box (jMany b 6 125 (some (jValue b d)) p m = .error z) := box (by rw [hJ2.out, hvr])
     rw [hvr] at hvc
     unfold JEndP at hvc
     simp only [] at hvc
     clear hvr hJ2
     have hFd := hF1.drew
     refine wp_region_held (S := fun _ => True) (by kernel_rfl) ?_
     change wpAnyH _ _ _ _ _ _ _ _ (World.drew _)
     refine tkp 0 trivial ?_
     (try simp only [zP, zQ, zS, zZ, zN])
     refine tkp 2 trivial ?_
     (try simp only [zP, zQ, zS, zZ, zN])
     refine tkp 3 trivial ?_
     (try simp only [zP, zQ, zS, zZ, zN])
     refine tkp 4 trivial ?_
     (try simp only [zP, zQ, zS, zZ, zN])
     refine wpAnyH_ready (rs := [1, 5, 7]) (by kernel_rfl) (by simp) ?_
     refine AllReadyH.cons (by simp only [List.getElem?_toArray, List.getElem?_cons_zero, List.getElem?_cons_succ]; rfl) (fun K hK => ?_) ?_
     ·refine stp (by with_unfolding_all rfl) (wp_fld hFd (i := 1) rfl uq74 rfl (by with_unfolding_all exact ⟨_, rfl, rfl⟩) rfl ?_)
      refine hK.out _ _ (trivial) (fun _ => ?_)
      clear hK K
      (try simp only [zP, zQ, zS, zZ, zN])
      refine tkp 6 trivial ?_
      (try simp only [zP, zQ, zS, zZ, zN])
      refine wpAnyH_ready (rs := [5, 7]) (by kernel_rfl) (by simp) ?_
      refine AllReadyH.cons (by simp only [List.getElem?_toArray, List.getElem?_cons_zero, List.getElem?_cons_succ]; rfl) (fun K hK => ?_) ?_
      ·refine stp (by with_unfolding_all rfl) (wp_callP Tryz.func64 rfl (by with_unfolding_all rfl) (by with_unfolding_all rfl) (by with_unfolding_all rfl) (hvc.out _ (hL.on (hFd.belowG hg hB)) (hFd.blk (i := 2) rfl) (Nat.le_trans hB hFd.size) (hFd.rdB hg hB hr)) ?_)
       rintro e w31 ⟨rfl, hg31⟩
       refine ⟨_, rfl, ?_⟩
       (try simp only [Exit.inBlock, Exit.then])
       exact ⟨rfl, by unfold JEndP; rw [hend.out]; exact ⟨rfl, grown_trans hFd.grown hg31⟩⟩
      refine AllReadyH.cons (by simp only [List.getElem?_toArray, List.getElem?_cons_zero, List.getElem?_cons_succ]; rfl) (fun K hK => ?_) ?_
      ·refine stp (by with_unfolding_all rfl) (wp_fbs1 T_vals hFd (by with_unfolding_all rfl) (ds := vl0) (by with_unfolding_all rfl) rfl (by decide) ?_)
       intro w31 g31 hF31 hz31
       refine hK.out _ _ (trivial) (fun _ => ?_)
       clear hK K
       (try simp only [zP, zQ, zS, zZ, zN])
       refine rdy1 5 (fun K hK => ?_)
       refine stp (by with_unfolding_all rfl) (wp_callP Tryz.func64 rfl (by with_unfolding_all rfl) (by with_unfolding_all rfl) (by with_unfolding_all rfl) (hvc.out _ (hL.on (hF31.belowG hg hB)) (hF31.blk (i := 3) rfl) (Nat.le_trans hB hF31.size) (hF31.rdB hg hB hr)) ?_)
       rintro e w32 ⟨rfl, hg32⟩
       refine ⟨_, rfl, ?_⟩
       (try simp only [Exit.inBlock, Exit.then])
       exact ⟨rfl, by unfold JEndP; rw [hend.out]; exact ⟨rfl, grown_trans hF31.grown hg32⟩⟩
      exact AllReadyH.nil
     refine AllReadyH.cons (by simp only [List.getElem?_toArray, List.getElem?_cons_zero, List.getElem?_cons_succ]; rfl) (fun K hK => ?_) ?_
     ·refine stp (by with_unfolding_all rfl) (wp_callP Tryz.func64 rfl (by with_unfolding_all rfl) (by with_unfolding_all rfl) (by with_unfolding_all rfl) (hvc.out _ (hL.on (hFd.belowG hg hB)) (hFd.blk (i := 2) rfl) (Nat.le_trans hB hFd.size) (hFd.rdB hg hB hr)) ?_)
      rintro e w31 ⟨rfl, hg31⟩
      refine ⟨_, rfl, ?_⟩
      (try simp only [Exit.inBlock, Exit.then])
      exact ⟨rfl, by unfold JEndP; rw [hend.out]; exact ⟨rfl, grown_trans hFd.grown hg31⟩⟩
     refine AllReadyH.cons (by simp only [List.getElem?_toArray, List.getElem?_cons_zero, List.getElem?_cons_succ]; rfl) (fun K hK => ?_) ?_
     ·refine stp (by with_unfolding_all rfl) (wp_fbs1 T_vals hFd (by with_unfolding_all rfl) (ds := vl0) (by with_unfolding_all rfl) rfl (by decide) ?_)
      intro w31 g31 hF31 hz31
      refine hK.out _ _ (trivial) (fun _ => ?_)
      clear hK K
      (try simp only [zP, zQ, zS, zZ, zN])
      refine wpAnyH_ready (rs := [1, 5]) (by kernel_rfl) (by simp) ?_
      refine AllReadyH.cons (by simp only [List.getElem?_toArray, List.getElem?_cons_zero, List.getElem?_cons_succ]; rfl) (fun K hK => ?_) ?_
      ·refine stp (by with_unfolding_all rfl) (wp_fld hF31 (i := 2) rfl uq74 rfl (by with_unfolding_all exact ⟨_, rfl, rfl⟩) rfl ?_)
       refine hK.out _ _ (trivial) (fun _ => ?_)
       clear hK K
       (try simp only [zP, zQ, zS, zZ, zN])
       refine tkp 6 trivial ?_
       (try simp only [zP, zQ, zS, zZ, zN])
       refine rdy1 5 (fun K hK => ?_)
       refine stp (by with_unfolding_all rfl) (wp_callP Tryz.func64 rfl (by with_unfolding_all rfl) (by with_unfolding_all rfl) (by with_unfolding_all rfl) (hvc.out _ (hL.on (hF31.belowG hg hB)) (hF31.blk (i := 3) rfl) (Nat.le_trans hB hF31.size) (hF31.rdB hg hB hr)) ?_)
       rintro e w32 ⟨rfl, hg32⟩
       refine ⟨_, rfl, ?_⟩
       (try simp only [Exit.inBlock, Exit.then])
       exact ⟨rfl, by unfold JEndP; rw [hend.out]; exact ⟨rfl, grown_trans hF31.grown hg32⟩⟩
      refine AllReadyH.cons (by simp only [List.getElem?_toArray, List.getElem?_cons_zero, List.getElem?_cons_succ]; rfl) (fun K hK => ?_) ?_
      ·refine stp (by with_unfolding_all rfl) (wp_callP Tryz.func64 rfl (by with_unfolding_all rfl) (by with_unfolding_all rfl) (by with_unfolding_all rfl) (hvc.out _ (hL.on (hF31.belowG hg hB)) (hF31.blk (i := 3) rfl) (Nat.le_trans hB hF31.size) (hF31.rdB hg hB hr)) ?_)
       rintro e w32 ⟨rfl, hg32⟩
       refine ⟨_, rfl, ?_⟩
       (try simp only [Exit.inBlock, Exit.then])
       exact ⟨rfl, by unfold JEndP; rw [hend.out]; exact ⟨rfl, grown_trans hF31.grown hg32⟩⟩
      exact AllReadyH.nil
     exact AllReadyH.nil
    | ok x =>
     obtain ⟨v, r, m2⟩ := x
     have hlen := jValue_len d q m' v r m2 hmm hvr
     rw [hl.out] at hlen
     obtain ⟨hqr, hrn, hmm2, hm2⟩ := hlen
     have hJ3 := hJ2.out
     rw [hvr] at hvc hJ3
     simp only [] at hJ3
     replace hJ3 := box hJ3
     unfold JEndP ToldV at hvc
     simp only [] at hvc
     clear hvr hJ2
     go_cut [] (fun wx => ∃ (Ak2 : Option Addr) (ck2 : Nat) (cs2 : List Value) (es2 : List Ent), nk + 1 ≤ ck2 ∧ Box (VT v cs2 es2) ∧ Fr [g] w wx (.own w.heap.size 9 1 (.slice An1 (nn + 1) cn1) (nn + 1) ((names ++ [s]).map strv) :: .blk g2 76 (vlL 6 0 ⟨#[]⟩ (.slice An1 (nn + 1) cn1) (.slice Ak2 (nk + 1) ck2)) :: .blk g 127 (rdrL A n c r m2) :: .own w.heap.size 76 5 (.slice Ak2 (nk + 1) ck2) (nk + 1) (xs ++ cs2) :: .blk g1 76 vl0 :: (TE ++ es2)))
     case first =>
      have hFd := hF1.drew
      refine wp_region_held (S := fun _ => True) (by kernel_rfl) ?_
      change wpAnyH _ _ _ _ _ _ _ _ (World.drew _)
      refine tkp 0 trivial ?_
      (try simp only [zP, zQ, zS, zZ, zN])
      refine tkp 2 trivial ?_
      (try simp only [zP, zQ, zS, zZ, zN])
      refine tkp 3 trivial ?_
      (try simp only [zP, zQ, zS, zZ, zN])
      refine tkp 4 trivial ?_
      (try simp only [zP, zQ, zS, zZ, zN])
      refine wpAnyH_ready (rs := [1, 5, 7]) (by kernel_rfl) (by simp) ?_
      refine AllReadyH.cons (by simp only [List.getElem?_toArray, List.getElem?_cons_zero, List.getElem?_cons_succ]; rfl) (fun K hK => ?_) ?_
      ·refine stp (by with_unfolding_all rfl) (wp_fld hFd (i := 1) rfl uq74 rfl (by with_unfolding_all exact ⟨_, rfl, rfl⟩) rfl ?_)
       refine hK.out _ _ (trivial) (fun _ => ?_)
       clear hK K
       (try simp only [zP, zQ, zS, zZ, zN])
       refine tkp 6 trivial ?_
       (try simp only [zP, zQ, zS, zZ, zN])
       refine wpAnyH_ready (rs := [5, 7]) (by kernel_rfl) (by simp) ?_
       refine AllReadyH.cons (by simp only [List.getElem?_toArray, List.getElem?_cons_zero, List.getElem?_cons_succ]; rfl) (fun K hK => ?_) ?_
       ·refine stp (by with_unfolding_all rfl) (wp_call Tryz.func64 rfl (by with_unfolding_all rfl) (by with_unfolding_all rfl) (by with_unfolding_all rfl) (hvc.out _ (hL.on (hFd.belowG hg hB)) (hFd.blk (i := 2) rfl) (Nat.le_trans hB hFd.size) (hFd.rdB hg hB hr)) ?_)
        rintro e w31 ⟨cs31, es31, rfl, hvt31, hv31⟩
        refine ⟨_, rfl, ?_⟩
        have hF31 := hFd.putG (i := 2) rfl hv31
        simp only [List.set_cons_zero, List.set_cons_succ, List.cons_append] at hF31
        refine hK.out _ _ (trivial) (fun _ => ?_)
        clear hK K
        (try simp only [zP, zQ, zS, zZ, zN])
        refine rdy1 7 (fun K hK => ?_)
        refine stp (by with_unfolding_all rfl) (wp_fbs1 T_vals hF31 (by with_unfolding_all rfl) (ds := vl0) (by with_unfolding_all rfl) rfl (by decide) ?_)
        intro w32 g32 hF32 hz32
        refine hK.out _ _ (trivial) (fun _ => ?_)
        clear hK K
        (try simp only [zP, zQ, zS, zZ, zN])
        refine rdy1 8 (fun K hK => ?_)
        refine stp (by with_unfolding_all rfl) (wp_fappG T_vals hF32 (i := 4) rfl (Nat.le_refl _) (hF32.rdOwn (i := 0) rfl) vlL_one (by with_unfolding_all exact ⟨_, _, rfl, rfl, rfl⟩) (by unfold maxLen; omega) (by omega) ?_)
        intro v33 w33 hF33 hz33
        (try simp only [zZ, zN] at hF33)
        obtain ⟨A33, c33, rfl, hc33⟩ := hF33.ownParts (i := 4) rfl
        refine hK.out _ _ (trivial) (fun _ => ?_)
        clear hK K
        (try simp only [zP, zQ, zS, zZ, zN])
        refine tkp 11 trivial ?_
        (try simp only [zP, zQ, zS, zZ, zN])
        refine wpAnyH_ready (rs := [9, 12]) (by kernel_rfl) (by simp) ?_
        refine AllReadyH.cons (by simp only [List.getElem?_toArray, List.getElem?_cons_zero, List.getElem?_cons_succ]; rfl) (fun K hK => ?_) ?_
        ·refine stp (by with_unfolding_all rfl) (wp_indexAddr T_vals (hF33.rdOwn (i := 4) rfl) (by with_unfolding_all exact ⟨_, _, _, _, rfl, rfl, rfl⟩) (by omega) (by omega) ?_)
         refine hK.out _ _ (trivial) (fun _ => ?_)
         clear hK K
         (try simp only [zP, zQ, zS, zZ, zN])
         refine wpAnyH_ready (rs := [10, 12]) (by kernel_rfl) (by simp) ?_
         refine AllReadyH.cons (by simp only [List.getElem?_toArray, List.getElem?_cons_zero, List.getElem?_cons_succ]; rfl) (fun K hK => ?_) ?_
         ·refine stp (by with_unfolding_all rfl) (wp_fstO hF33 (i := 4) rfl hxl.out (by with_unfolding_all exact ⟨_, _, rfl, rfl, rfl⟩) (by kernel_rfl) hvt31.len hvt31.one ?_)
          intro w34 hF34 hz34
          (try simp only [zZ, zN] at hF34)
          refine hK.out _ _ (trivial) (fun _ => ?_)
          clear hK K
          (try simp only [zP, zQ, zS, zZ, zN])
          refine rdy1 12 (fun K hK => ?_)
          refine stp (by with_unfolding_all rfl) (wp_fst hF34 (i := 2) rfl (v := .slice A33 (nk + 1) c33) (by with_unfolding_all exact ⟨_, _, rfl, rfl, rfl⟩) (by kernel_rfl) rfl rfl (by rw [vlL_len]; decide) ?_)
          intro w35 hF35 hz35
          (try simp only [zZ, zN] at hF35)
          rw [(vlL_4 (k := 6) (n := 0) (t := ⟨#[]⟩) (a := .slice An1 (nn + 1) cn1) (b := .slice Ak nk ck))] at hF35
          refine hK.out _ _ (trivial) (fun _ => ?_)
          clear hK K
          (try simp only [zP, zQ, zS, zZ, zN])
          refine wpAnyH_done (by kernel_rfl) ?_ _
          go_wp2_with fail
          go_meet
          exact ⟨A33, c33, cs31, es31, hc33, box hvt31, hF35.tail⟩
         refine AllReadyH.cons (by simp only [List.getElem?_toArray, List.getElem?_cons_zero, List.getElem?_cons_succ]; rfl) (fun K hK => ?_) ?_
         ·refine stp (by with_unfolding_all rfl) (wp_fst hF33 (i := 2) rfl (v := .slice A33 (nk + 1) c33) (by with_unfolding_all exact ⟨_, _, rfl, rfl, rfl⟩) (by kernel_rfl) rfl rfl (by rw [vlL_len]; decide) ?_)
          intro w34 hF34 hz34
          (try simp only [zZ, zN] at hF34)
          rw [(vlL_4 (k := 6) (n := 0) (t := ⟨#[]⟩) (a := .slice An1 (nn + 1) cn1) (b := .slice Ak nk ck))] at hF34
          refine hK.out _ _ (trivial) (fun _ => ?_)
          clear hK K
          (try simp only [zP, zQ, zS, zZ, zN])
          refine rdy1 10 (fun K hK => ?_)
          refine stp (by with_unfolding_all rfl) (wp_fstO hF34 (i := 4) rfl hxl.out (by with_unfolding_all exact ⟨_, _, rfl, rfl, rfl⟩) (by kernel_rfl) hvt31.len hvt31.one ?_)
          intro w35 hF35 hz35
          (try simp only [zZ, zN] at hF35)
          refine hK.out _ _ (trivial) (fun _ => ?_)
          clear hK K
          (try simp only [zP, zQ, zS, zZ, zN])
          refine wpAnyH_done (by kernel_rfl) ?_ _
          go_wp2_with fail
          go_meet
          exact ⟨A33, c33, cs31, es31, hc33, box hvt31, hF35.tail⟩
         exact AllReadyH.nil
        refine AllReadyH.cons (by simp only [List.getElem?_toArray, List.getElem?_cons_zero, List.getElem?_cons_succ]; rfl) (fun K hK => ?_) ?_
        ·refine stp (by with_unfolding_all rfl) (wp_fst hF33 (i := 2) rfl (v := .slice A33 (nk + 1) c33) (by with_unfolding_all exact ⟨_, _, rfl, rfl, rfl⟩) (by kernel_rfl) rfl rfl (by rw [vlL_len]; decide) ?_)
         intro w34 hF34 hz34
         (try simp only [zZ, zN] at hF34)
         rw [(vlL_4 (k := 6) (n := 0) (t := ⟨#[]⟩) (a := .slice An1 (nn + 1) cn1) (b := .slice Ak nk ck))] at hF34
         refine hK.out _ _ (trivial) (fun _ => ?_)
         clear hK K
         (try simp only [zP, zQ, zS, zZ, zN])
         refine rdy1 9 (fun K hK => ?_)
         refine stp (by with_unfolding_all rfl) (wp_indexAddr T_vals (hF34.rdOwn (i := 4) rfl) (by with_unfolding_all exact ⟨_, _, _, _, rfl, rfl, rfl⟩) (by omega) (by omega) ?_)
         refine hK.out _ _ (trivial) (fun _ => ?_)
         clear hK K
         (try simp only [zP, zQ, zS, zZ, zN])
         refine rdy1 10 (fun K hK => ?_)
         refine stp (by with_unfolding_all rfl) (wp_fstO hF34 (i := 4) rfl hxl.out (by with_unfolding_all exact ⟨_, _, rfl, rfl, rfl⟩) (by kernel_rfl) hvt31.len hvt31.one ?_)
         intro w35 hF35 hz35
         (try simp only [zZ, zN] at hF35)
         refine hK.out _ _ (trivial) (fun _ => ?_)
         clear hK K
         (try simp only [zP, zQ, zS, zZ, zN])
         refine wpAnyH_done (by kernel_rfl) ?_ _
         go_wp2_with fail
         go_meet
         exact ⟨A33, c33, cs31, es31, hc33, box hvt31, hF35.tail⟩
        exact AllReadyH.nil
       refine AllReadyH.cons (by simp only [List.getElem?_toArray, List.getElem?_cons_zero, List.getElem?_cons_succ]; rfl) (fun K hK => ?_) ?_
       ·refine stp (by with_unfolding_all rfl) (wp_fbs1 T_vals hFd (by with_unfolding_all rfl) (ds := vl0) (by with_unfolding_all rfl) rfl (by decide) ?_)
        intro w31 g31 hF31 hz31
        refine hK.out _ _ (trivial) (fun _ => ?_)
        clear hK K
        (try simp only [zP, zQ, zS, zZ, zN])
        refine rdy1 5 (fun K hK => ?_)
        refine stp (by with_unfolding_all rfl) (wp_call Tryz.func64 rfl (by with_unfolding_all rfl) (by with_unfolding_all rfl) (by with_unfolding_all rfl) (hvc.out _ (hL.on (hF31.belowG hg hB)) (hF31.blk (i := 3) rfl) (Nat.le_trans hB hF31.size) (hF31.rdB hg hB hr)) ?_)
        rintro e w32 ⟨cs32, es32, rfl, hvt32, hv32⟩
        refine ⟨_, rfl, ?_⟩
        have hF32 := hF31.putG (i := 3) rfl hv32
        simp only [List.set_cons_zero, List.set_cons_succ, List.cons_append] at hF32
        refine hK.out _ _ (trivial) (fun _ => ?_)
        clear hK K
        (try simp only [zP, zQ, zS, zZ, zN])
        refine rdy1 8 (fun K hK => ?_)
        refine stp (by with_unfolding_all rfl) (wp_fappG T_vals hF32 (i := 4) rfl (Nat.le_refl _) (hF32.rdOwn (i := 0) rfl) vlL_one (by with_unfolding_all exact ⟨_, _, rfl, rfl, rfl⟩) (by unfold maxLen; omega) (by omega) ?_)
        intro v33 w33 hF33 hz33
        (try simp only [zZ, zN] at hF33)
        obtain ⟨A33, c33, rfl, hc33⟩ := hF33.ownParts (i := 4) rfl
        refine hK.out _ _ (trivial) (fun _ => ?_)
        clear hK K
        (try simp only [zP, zQ, zS, zZ, zN])
        refine tkp 11 trivial ?_
        (try simp only [zP, zQ, zS, zZ, zN])
        refine wpAnyH_ready (rs := [9, 12]) (by kernel_rfl) (by simp) ?_
        refine AllReadyH.cons (by simp only [List.getElem?_toArray, List.getElem?_cons_zero, List.getElem?_cons_succ]; rfl) (fun K hK => ?_) ?_
        ·refine stp (by with_unfolding_all rfl) (wp_indexAddr T_vals (hF33.rdOwn (i := 4) rfl) (by with_unfolding_all exact ⟨_, _, _, _, rfl, rfl, rfl⟩) (by omega) (by omega) ?_)
         refine hK.out _ _ (trivial) (fun _ => ?_)
         clear hK K
         (try simp only [zP, zQ, zS, zZ, zN])
         refine wpAnyH_ready (rs := [10, 12]) (by kernel_rfl) (by simp) ?_
         refine AllReadyH.cons (by simp only [List.getElem?_toArray, List.getElem?_cons_zero, List.getElem?_cons_succ]; rfl) (fun K hK => ?_) ?_
         ·refine stp (by with_unfolding_all rfl) (wp_fstO hF33 (i := 4) rfl hxl.out (by with_unfolding_all exact ⟨_, _, rfl, rfl, rfl⟩) (by kernel_rfl) hvt32.len hvt32.one ?_)
          intro w34 hF34 hz34
          (try simp only [zZ, zN] at hF34)
          refine hK.out _ _ (trivial) (fun _ => ?_)
          clear hK K
          (try simp only [zP, zQ, zS, zZ, zN])
          refine rdy1 12 (fun K hK => ?_)
          refine stp (by with_unfolding_all rfl) (wp_fst hF34 (i := 2) rfl (v := .slice A33 (nk + 1) c33) (by with_unfolding_all exact ⟨_, _, rfl, rfl, rfl⟩) (by kernel_rfl) rfl rfl (by rw [vlL_len]; decide) ?_)
          intro w35 hF35 hz35
          (try simp only [zZ, zN] at hF35)
          rw [(vlL_4 (k := 6) (n := 0) (t := ⟨#[]⟩) (a := .slice An1 (nn + 1) cn1) (b := .slice Ak nk ck))] at hF35
          refine hK.out _ _ (trivial) (fun _ => ?_)
          clear hK K
          (try simp only [zP, zQ, zS, zZ, zN])
          refine wpAnyH_done (by kernel_rfl) ?_ _
          go_wp2_with fail
          go_meet
          exact ⟨A33, c33, cs32, es32, hc33, box hvt32, hF35.tail⟩
         refine AllReadyH.cons (by simp only [List.getElem?_toArray, List.getElem?_cons_zero, List.getElem?_cons_succ]; rfl) (fun K hK => ?_) ?_
         ·refine stp (by with_unfolding_all rfl) (wp_fst hF33 (i := 2) rfl (v := .slice A33 (nk + 1) c33) (by with_unfolding_all exact ⟨_, _, rfl, rfl, rfl⟩) (by kernel_rfl) rfl rfl (by rw [vlL_len]; decide) ?_)
          intro w34 hF34 hz34
          (try simp only [zZ, zN] at hF34)
          rw [(vlL_4 (k := 6) (n := 0) (t := ⟨#[]⟩) (a := .slice An1 (nn + 1) cn1) (b := .slice Ak nk ck))] at hF34
          refine hK.out _ _ (trivial) (fun _ => ?_)
          clear hK K
          (try simp only [zP, zQ, zS, zZ, zN])
          refine rdy1 10 (fun K hK => ?_)
          refine stp (by with_unfolding_all rfl) (wp_fstO hF34 (i := 4) rfl hxl.out (by with_unfolding_all exact ⟨_, _, rfl, rfl, rfl⟩) (by kernel_rfl) hvt32.len hvt32.one ?_)
          intro w35 hF35 hz35
          (try simp only [zZ, zN] at hF35)
          refine hK.out _ _ (trivial) (fun _ => ?_)
          clear hK K
          (try simp only [zP, zQ, zS, zZ, zN])
          refine wpAnyH_done (by kernel_rfl) ?_ _
          go_wp2_with fail
          go_meet
          exact ⟨A33, c33, cs32, es32, hc33, box hvt32, hF35.tail⟩
         exact AllReadyH.nil
        refine AllReadyH.cons (by simp only [List.getElem?_toArray, List.getElem?_cons_zero, List.getElem?_cons_succ]; rfl) (fun K hK => ?_) ?_
        ·refine stp (by with_unfolding_all rfl) (wp_fst hF33 (i := 2) rfl (v := .slice A33 (nk + 1) c33) (by with_unfolding_all exact ⟨_, _, rfl, rfl, rfl⟩) (by kernel_rfl) rfl rfl (by rw [vlL_len]; decide) ?_)
         intro w34 hF34 hz34
         (try simp only [zZ, zN] at hF34)
         rw [(vlL_4 (k := 6) (n := 0) (t := ⟨#[]⟩) (a := .slice An1 (nn + 1) cn1) (b := .slice Ak nk ck))] at hF34
         refine hK.out _ _ (trivial) (fun _ => ?_)
         clear hK K
         (try simp only [zP, zQ, zS, zZ, zN])
         refine rdy1 9 (fun K hK => ?_)
         refine stp (by with_unfolding_all rfl) (wp_indexAddr T_vals (hF34.rdOwn (i := 4) rfl) (by with_unfolding_all exact ⟨_, _, _, _, rfl, rfl, rfl⟩) (by omega) (by omega) ?_)
         refine hK.out _ _ (trivial) (fun _ => ?_)
         clear hK K
         (try simp only [zP, zQ, zS, zZ, zN])
         refine rdy1 10 (fun K hK => ?_)
         refine stp (by with_unfolding_all rfl) (wp_fstO hF34 (i := 4) rfl hxl.out (by with_unfolding_all exact ⟨_, _, rfl, rfl, rfl⟩) (by kernel_rfl) hvt32.len hvt32.one ?_)
         intro w35 hF35 hz35
         (try simp only [zZ, zN] at hF35)
         refine hK.out _ _ (trivial) (fun _ => ?_)
         clear hK K
         (try simp only [zP, zQ, zS, zZ, zN])
         refine wpAnyH_done (by kernel_rfl) ?_ _
         go_wp2_with fail
         go_meet
         exact ⟨A33, c33, cs32, es32, hc33, box hvt32, hF35.tail⟩
        exact AllReadyH.nil
       exact AllReadyH.nil
      refine AllReadyH.cons (by simp only [List.getElem?_toArray, List.getElem?_cons_zero, List.getElem?_cons_succ]; rfl) (fun K hK => ?_) ?_
      ·refine stp (by with_unfolding_all rfl) (wp_call Tryz.func64 rfl (by with_unfolding_all rfl) (by with_unfolding_all rfl) (by with_unfolding_all rfl) (hvc.out _ (hL.on (hFd.belowG hg hB)) (hFd.blk (i := 2) rfl) (Nat.le_trans hB hFd.size) (hFd.rdB hg hB hr)) ?_)
       rintro e w31 ⟨cs31, es31, rfl, hvt31, hv31⟩
       refine ⟨_, rfl, ?_⟩
       have hF31 := hFd.putG (i := 2) rfl hv31
       simp only [List.set_cons_zero, List.set_cons_succ, List.cons_append] at hF31
       refine hK.out _ _ (trivial) (fun _ => ?_)
       clear hK K
       (try simp only [zP, zQ, zS, zZ, zN])
       refine wpAnyH_ready (rs := [1, 7]) (by kernel_rfl) (by simp) ?_
       refine AllReadyH.cons (by simp only [List.getElem?_toArray, List.getElem?_cons_zero, List.getElem?_cons_succ]; rfl) (fun K hK => ?_) ?_
       ·refine stp (by with_unfolding_all rfl) (wp_fld hF31 (i := 1) rfl uq74 rfl (by with_unfolding_all exact ⟨_, rfl, rfl⟩) rfl ?_)
        refine hK.out _ _ (trivial) (fun _ => ?_)
        clear hK K
        (try simp only [zP, zQ, zS, zZ, zN])
        refine tkp 6 trivial ?_
        (try simp only [zP, zQ, zS, zZ, zN])
        refine rdy1 7 (fun K hK => ?_)
        refine stp (by with_unfolding_all rfl) (wp_fbs1 T_vals hF31 (by with_unfolding_all rfl) (ds := vl0) (by with_unfolding_all rfl) rfl (by decide) ?_)
        intro w32 g32 hF32 hz32
        refine hK.out _ _ (trivial) (fun _ => ?_)
        clear hK K
        (try simp only [zP, zQ, zS, zZ, zN])
        refine rdy1 8 (fun K hK => ?_)
        refine stp (by with_unfolding_all rfl) (wp_fappG T_vals hF32 (i := 4) rfl (Nat.le_refl _) (hF32.rdOwn (i := 0) rfl) vlL_one (by with_unfolding_all exact ⟨_, _, rfl, rfl, rfl⟩) (by unfold maxLen; omega) (by omega) ?_)
        intro v33 w33 hF33 hz33
        (try simp only [zZ, zN] at hF33)
        obtain ⟨A33, c33, rfl, hc33⟩ := hF33.ownParts (i := 4) rfl
        refine hK.out _ _ (trivial) (fun _ => ?_)
        clear hK K
        (try simp only [zP, zQ, zS, zZ, zN])
        refine tkp 11 trivial ?_
        (try simp only [zP, zQ, zS, zZ, zN])
        refine wpAnyH_ready (rs := [9, 12]) (by kernel_rfl) (by simp) ?_
        refine AllReadyH.cons (by simp only [List.getElem?_toArray, List.getElem?_cons_zero, List.getElem?_cons_succ]; rfl) (fun K hK => ?_) ?_
        ·refine stp (by with_unfolding_all rfl) (wp_indexAddr T_vals (hF33.rdOwn (i := 4) rfl) (by with_unfolding_all exact ⟨_, _, _, _, rfl, rfl, rfl⟩) (by omega) (by omega) ?_)
         refine hK.out _ _ (trivial) (fun _ => ?_)
         clear hK K
         (try simp only [zP, zQ, zS, zZ, zN])
         refine wpAnyH_ready (rs := [10, 12]) (by kernel_rfl) (by simp) ?_
         refine AllReadyH.cons (by simp only [List.getElem?_toArray, List.getElem?_cons_zero, List.getElem?_cons_succ]; rfl) (fun K hK => ?_) ?_
         ·refine stp (by with_unfolding_all rfl) (wp_fstO hF33 (i := 4) rfl hxl.out (by with_unfolding_all exact ⟨_, _, rfl, rfl, rfl⟩) (by kernel_rfl) hvt31.len hvt31.one ?_)
          intro w34 hF34 hz34
          (try simp only [zZ, zN] at hF34)
          refine hK.out _ _ (trivial) (fun _ => ?_)
          clear hK K
          (try simp only [zP, zQ, zS, zZ, zN])
          refine rdy1 12 (fun K hK => ?_)
          refine stp (by with_unfolding_all rfl) (wp_fst hF34 (i := 2) rfl (v := .slice A33 (nk + 1) c33) (by with_unfolding_all exact ⟨_, _, rfl, rfl, rfl⟩) (by kernel_rfl) rfl rfl (by rw [vlL_len]; decide) ?_)
          intro w35 hF35 hz35
          (try simp only [zZ, zN] at hF35)
          rw [(vlL_4 (k := 6) (n := 0) (t := ⟨#[]⟩) (a := .slice An1 (nn + 1) cn1) (b := .slice Ak nk ck))] at hF35
          refine hK.out _ _ (trivial) (fun _ => ?_)
          clear hK K
          (try simp only [zP, zQ, zS, zZ, zN])
          refine wpAnyH_done (by kernel_rfl) ?_ _
          go_wp2_with fail
          go_meet
          exact ⟨A33, c33, cs31, es31, hc33, box hvt31, hF35.tail⟩
         refine AllReadyH.cons (by simp only [List.getElem?_toArray, List.getElem?_cons_zero, List.getElem?_cons_succ]; rfl) (fun K hK => ?_) ?_
         ·refine stp (by with_unfolding_all rfl) (wp_fst hF33 (i := 2) rfl (v := .slice A33 (nk + 1) c33) (by with_unfolding_all exact ⟨_, _, rfl, rfl, rfl⟩) (by kernel_rfl) rfl rfl (by rw [vlL_len]; decide) ?_)
          intro w34 hF34 hz34
          (try simp only [zZ, zN] at hF34)
          rw [(vlL_4 (k := 6) (n := 0) (t := ⟨#[]⟩) (a := .slice An1 (nn + 1) cn1) (b := .slice Ak nk ck))] at hF34
          refine hK.out _ _ (trivial) (fun _ => ?_)
          clear hK K
          (try simp only [zP, zQ, zS, zZ, zN])
          refine rdy1 10 (fun K hK => ?_)
          refine stp (by with_unfolding_all rfl) (wp_fstO hF34 (i := 4) rfl hxl.out (by with_unfolding_all exact ⟨_, _, rfl, rfl, rfl⟩) (by kernel_rfl) hvt31.len hvt31.one ?_)
          intro w35 hF35 hz35
          (try simp only [zZ, zN] at hF35)
          refine hK.out _ _ (trivial) (fun _ => ?_)
          clear hK K
          (try simp only [zP, zQ, zS, zZ, zN])
          refine wpAnyH_done (by kernel_rfl) ?_ _
          go_wp2_with fail
          go_meet
          exact ⟨A33, c33, cs31, es31, hc33, box hvt31, hF35.tail⟩
         exact AllReadyH.nil
        refine AllReadyH.cons (by simp only [List.getElem?_toArray, List.getElem?_cons_zero, List.getElem?_cons_succ]; rfl) (fun K hK => ?_) ?_
        ·refine stp (by with_unfolding_all rfl) (wp_fst hF33 (i := 2) rfl (v := .slice A33 (nk + 1) c33) (by with_unfolding_all exact ⟨_, _, rfl, rfl, rfl⟩) (by kernel_rfl) rfl rfl (by rw [vlL_len]; decide) ?_)
         intro w34 hF34 hz34
         (try simp only [zZ, zN] at hF34)
         rw [(vlL_4 (k := 6) (n := 0) (t := ⟨#[]⟩) (a := .slice An1 (nn + 1) cn1) (b := .slice Ak nk ck))] at hF34
         refine hK.out _ _ (trivial) (fun _ => ?_)
         clear hK K
         (try simp only [zP, zQ, zS, zZ, zN])
         refine rdy1 9 (fun K hK => ?_)
         refine stp (by with_unfolding_all rfl) (wp_indexAddr T_vals (hF34.rdOwn (i := 4) rfl) (by with_unfolding_all exact ⟨_, _, _, _, rfl, rfl, rfl⟩) (by omega) (by omega) ?_)
         refine hK.out _ _ (trivial) (fun _ => ?_)
         clear hK K
         (try simp only [zP, zQ, zS, zZ, zN])
         refine rdy1 10 (fun K hK => ?_)
         refine stp (by with_unfolding_all rfl) (wp_fstO hF34 (i := 4) rfl hxl.out (by with_unfolding_all exact ⟨_, _, rfl, rfl, rfl⟩) (by kernel_rfl) hvt31.len hvt31.one ?_)
         intro w35 hF35 hz35
         (try simp only [zZ, zN] at hF35)
         refine hK.out _ _ (trivial) (fun _ => ?_)
         clear hK K
         (try simp only [zP, zQ, zS, zZ, zN])
         refine wpAnyH_done (by kernel_rfl) ?_ _
         go_wp2_with fail
         go_meet
         exact ⟨A33, c33, cs31, es31, hc33, box hvt31, hF35.tail⟩
        exact AllReadyH.nil
       refine AllReadyH.cons (by simp only [List.getElem?_toArray, List.getElem?_cons_zero, List.getElem?_cons_succ]; rfl) (fun K hK => ?_) ?_
       ·refine stp (by with_unfolding_all rfl) (wp_fbs1 T_vals hF31 (by with_unfolding_all rfl) (ds := vl0) (by with_unfolding_all rfl) rfl (by decide) ?_)
        intro w32 g32 hF32 hz32
        refine hK.out _ _ (trivial) (fun _ => ?_)
        clear hK K
        (try simp only [zP, zQ, zS, zZ, zN])
        refine rdy1 1 (fun K hK => ?_)
        refine stp (by with_unfolding_all rfl) (wp_fld hF32 (i := 2) rfl uq74 rfl (by with_unfolding_all exact ⟨_, rfl, rfl⟩) rfl ?_)
        refine hK.out _ _ (trivial) (fun _ => ?_)
        clear hK K
        (try simp only [zP, zQ, zS, zZ, zN])
        refine tkp 6 trivial ?_
        (try simp only [zP, zQ, zS, zZ, zN])
        refine rdy1 8 (fun K hK => ?_)
        refine stp (by with_unfolding_all rfl) (wp_fappG T_vals hF32 (i := 4) rfl (Nat.le_refl _) (hF32.rdOwn (i := 0) rfl) vlL_one (by with_unfolding_all exact ⟨_, _, rfl, rfl, rfl⟩) (by unfold maxLen; omega) (by omega) ?_)
        intro v33 w33 hF33 hz33
        (try simp only [zZ, zN] at hF33)
        obtain ⟨A33, c33, rfl, hc33⟩ := hF33.ownParts (i := 4) rfl
        refine hK.out _ _ (trivial) (fun _ => ?_)
        clear hK K
        (try simp only [zP, zQ, zS, zZ, zN])
        refine tkp 11 trivial ?_
        (try simp only [zP, zQ, zS, zZ, zN])
        refine wpAnyH_ready (rs := [9, 12]) (by kernel_rfl) (by simp) ?_
        refine AllReadyH.cons (by simp only [List.getElem?_toArray, List.getElem?_cons_zero, List.getElem?_cons_succ]; rfl) (fun K hK => ?_) ?_
        ·refine stp (by with_unfolding_all rfl) (wp_indexAddr T_vals (hF33.rdOwn (i := 4) rfl) (by with_unfolding_all exact ⟨_, _, _, _, rfl, rfl, rfl⟩) (by omega) (by omega) ?_)
         refine hK.out _ _ (trivial) (fun _ => ?_)
         clear hK K
         (try simp only [zP, zQ, zS, zZ, zN])
         refine wpAnyH_ready (rs := [10, 12]) (by kernel_rfl) (by simp) ?_
         refine AllReadyH.cons (by simp only [List.getElem?_toArray, List.getElem?_cons_zero, List.getElem?_cons_succ]; rfl) (fun K hK => ?_) ?_
         ·refine stp (by with_unfolding_all rfl) (wp_fstO hF33 (i := 4) rfl hxl.out (by with_unfolding_all exact ⟨_, _, rfl, rfl, rfl⟩) (by kernel_rfl) hvt31.len hvt31.one ?_)
          intro w34 hF34 hz34
          (try simp only [zZ, zN] at hF34)
          refine hK.out _ _ (trivial) (fun _ => ?_)
          clear hK K
          (try simp only [zP, zQ, zS, zZ, zN])
          refine rdy1 12 (fun K hK => ?_)
          refine stp (by with_unfolding_all rfl) (wp_fst hF34 (i := 2) rfl (v := .slice A33 (nk + 1) c33) (by with_unfolding_all exact ⟨_, _, rfl, rfl, rfl⟩) (by kernel_rfl) rfl rfl (by rw [vlL_len]; decide) ?_)
          intro w35 hF35 hz35
          (try simp only [zZ, zN] at hF35)
          rw [(vlL_4 (k := 6) (n := 0) (t := ⟨#[]⟩) (a := .slice An1 (nn + 1) cn1) (b := .slice Ak nk ck))] at hF35
          refine hK.out _ _ (trivial) (fun _ => ?_)
          clear hK K
          (try simp only [zP, zQ, zS, zZ, zN])
          refine wpAnyH_done (by kernel_rfl) ?_ _
          go_wp2_with fail
          go_meet
          exact ⟨A33, c33, cs31, es31, hc33, box hvt31, hF35.tail⟩
         refine AllReadyH.cons (by simp only [List.getElem?_toArray, List.getElem?_cons_zero, List.getElem?_cons_succ]; rfl) (fun K hK => ?_) ?_
         ·refine stp (by with_unfolding_all rfl) (wp_fst hF33 (i := 2) rfl (v := .slice A33 (nk + 1) c33) (by with_unfolding_all exact ⟨_, _, rfl, rfl, rfl⟩) (by kernel_rfl) rfl rfl (by rw [vlL_len]; decide) ?_)
          intro w34 hF34 hz34
          (try simp only [zZ, zN] at hF34)
          rw [(vlL_4 (k := 6) (n := 0) (t := ⟨#[]⟩) (a := .slice An1 (nn + 1) cn1) (b := .slice Ak nk ck))] at hF34
          refine hK.out _ _ (trivial) (fun _ => ?_)
          clear hK K
          (try simp only [zP, zQ, zS, zZ, zN])
          refine rdy1 10 (fun K hK => ?_)
          refine stp (by with_unfolding_all rfl) (wp_fstO hF34 (i := 4) rfl hxl.out (by with_unfolding_all exact ⟨_, _, rfl, rfl, rfl⟩) (by kernel_rfl) hvt31.len hvt31.one ?_)
          intro w35 hF35 hz35
          (try simp only [zZ, zN] at hF35)
          refine hK.out _ _ (trivial) (fun _ => ?_)
          clear hK K
          (try simp only [zP, zQ, zS, zZ, zN])
          refine wpAnyH_done (by kernel_rfl) ?_ _
          go_wp2_with fail
          go_meet
          exact ⟨A33, c33, cs31, es31, hc33, box hvt31, hF35.tail⟩
         exact AllReadyH.nil
        refine AllReadyH.cons (by simp only [List.getElem?_toArray, List.getElem?_cons_zero, List.getElem?_cons_succ]; rfl) (fun K hK => ?_) ?_
        ·refine stp (by with_unfolding_all rfl) (wp_fst hF33 (i := 2) rfl (v := .slice A33 (nk + 1) c33) (by with_unfolding_all exact ⟨_, _, rfl, rfl, rfl⟩) (by kernel_rfl) rfl rfl (by rw [vlL_len]; decide) ?_)
         intro w34 hF34 hz34
         (try simp only [zZ, zN] at hF34)
         rw [(vlL_4 (k := 6) (n := 0) (t := ⟨#[]⟩) (a := .slice An1 (nn + 1) cn1) (b := .slice Ak nk ck))] at hF34
         refine hK.out _ _ (trivial) (fun _ => ?_)
         clear hK K
         (try simp only [zP, zQ, zS, zZ, zN])
         refine rdy1 9 (fun K hK => ?_)
         refine stp (by with_unfolding_all rfl) (wp_indexAddr T_vals (hF34.rdOwn (i := 4) rfl) (by with_unfolding_all exact ⟨_, _, _, _, rfl, rfl, rfl⟩) (by omega) (by omega) ?_)
         refine hK.out _ _ (trivial) (fun _ => ?_)
         clear hK K
         (try simp only [zP, zQ, zS, zZ, zN])
         refine rdy1 10 (fun K hK => ?_)
         refine stp (by with_unfolding_all rfl) (wp_fstO hF34 (i := 4) rfl hxl.out (by with_unfolding_all exact ⟨_, _, rfl, rfl, rfl⟩) (by kernel_rfl) hvt31.len hvt31.one ?_)
         intro w35 hF35 hz35
         (try simp only [zZ, zN] at hF35)
         refine hK.out _ _ (trivial) (fun _ => ?_)
         clear hK K
         (try simp only [zP, zQ, zS, zZ, zN])
         refine wpAnyH_done (by kernel_rfl) ?_ _
         go_wp2_with fail
         go_meet
         exact ⟨A33, c33, cs31, es31, hc33, box hvt31, hF35.tail⟩
        exact AllReadyH.nil
       exact AllReadyH.nil
      refine AllReadyH.cons (by simp only [List.getElem?_toArray, List.getElem?_cons_zero, List.getElem?_cons_succ]; rfl) (fun K hK => ?_) ?_
      ·refine stp (by with_unfolding_all rfl) (wp_fbs1 T_vals hFd (by with_unfolding_all rfl) (ds := vl0) (by with_unfolding_all rfl) rfl (by decide) ?_)
       intro w31 g31 hF31 hz31
       refine hK.out _ _ (trivial) (fun _ => ?_)
       clear hK K
       (try simp only [zP, zQ, zS, zZ, zN])
       refine wpAnyH_ready (rs := [1, 5]) (by kernel_rfl) (by simp) ?_
       refine AllReadyH.cons (by simp only [List.getElem?_toArray, List.getElem?_cons_zero, List.getElem?_cons_succ]; rfl) (fun K hK => ?_) ?_
       ·refine stp (by with_unfolding_all rfl) (wp_fld hF31 (i := 2) rfl uq74 rfl (by with_unfolding_all exact ⟨_, rfl, rfl⟩) rfl ?_)
        refine hK.out _ _ (trivial) (fun _ => ?_)
        clear hK K
        (try simp only [zP, zQ, zS, zZ, zN])
        refine tkp 6 trivial ?_
        (try simp only [zP, zQ, zS, zZ, zN])
        refine rdy1 5 (fun K hK => ?_)
        refine stp (by with_unfolding_all rfl) (wp_call Tryz.func64 rfl (by with_unfolding_all rfl) (by with_unfolding_all rfl) (by with_unfolding_all rfl) (hvc.out _ (hL.on (hF31.belowG hg hB)) (hF31.blk (i := 3) rfl) (Nat.le_trans hB hF31.size) (hF31.rdB hg hB hr)) ?_)
        rintro e w32 ⟨cs32, es32, rfl, hvt32, hv32⟩
        refine ⟨_, rfl, ?_⟩
        have hF32 := hF31.putG (i := 3) rfl hv32
        simp only [List.set_cons_zero, List.set_cons_succ, List.cons_append] at hF32
        refine hK.out _ _ (trivial) (fun _ => ?_)
        clear hK K
        (try simp only [zP, zQ, zS, zZ, zN])
        refine rdy1 8 (fun K hK => ?_)
        refine stp (by with_unfolding_all rfl) (wp_fappG T_vals hF32 (i := 4) rfl (Nat.le_refl _) (hF32.rdOwn (i := 0) rfl) vlL_one (by with_unfolding_all exact ⟨_, _, rfl, rfl, rfl⟩) (by unfold maxLen; omega) (by omega) ?_)
        intro v33 w33 hF33 hz33
        (try simp only [zZ, zN] at hF33)
        obtain ⟨A33, c33, rfl, hc33⟩ := hF33.ownParts (i := 4) rfl
        refine hK.out _ _ (trivial) (fun _ => ?_)
        clear hK K
        (try simp only [zP, zQ, zS, zZ, zN])
        refine tkp 11 trivial ?_
        (try simp only [zP, zQ, zS, zZ, zN])
        refine wpAnyH_ready (rs := [9, 12]) (by kernel_rfl) (by simp) ?_
        refine AllReadyH.cons (by simp only [List.getElem?_toArray, List.getElem?_cons_zero, List.getElem?_cons_succ]; rfl) (fun K hK => ?_) ?_
        ·refine stp (by with_unfolding_all rfl) (wp_indexAddr T_vals (hF33.rdOwn (i := 4) rfl) (by with_unfolding_all exact ⟨_, _, _, _, rfl, rfl, rfl⟩) (by omega) (by omega) ?_)
         refine hK.out _ _ (trivial) (fun _ => ?_)
         clear hK K
         (try simp only [zP, zQ, zS, zZ, zN])
         refine wpAnyH_ready (rs := [10, 12]) (by kernel_rfl) (by simp) ?_
         refine AllReadyH.cons (by simp only [List.getElem?_toArray, List.getElem?_cons_zero, List.getElem?_cons_succ]; rfl) (fun K hK => ?_) ?_
         ·refine stp (by with_unfolding_all rfl) (wp_fstO hF33 (i := 4) rfl hxl.out (by with_unfolding_all exact ⟨_, _, rfl, rfl, rfl⟩) (by kernel_rfl) hvt32.len hvt32.one ?_)
          intro w34 hF34 hz34
          (try simp only [zZ, zN] at hF34)
          refine hK.out _ _ (trivial) (fun _ => ?_)
          clear hK K
          (try simp only [zP, zQ, zS, zZ, zN])
          refine rdy1 12 (fun K hK => ?_)
          refine stp (by with_unfolding_all rfl) (wp_fst hF34 (i := 2) rfl (v := .slice A33 (nk + 1) c33) (by with_unfolding_all exact ⟨_, _, rfl, rfl, rfl⟩) (by kernel_rfl) rfl rfl (by rw [vlL_len]; decide) ?_)
          intro w35 hF35 hz35
          (try simp only [zZ, zN] at hF35)
          rw [(vlL_4 (k := 6) (n := 0) (t := ⟨#[]⟩) (a := .slice An1 (nn + 1) cn1) (b := .slice Ak nk ck))] at hF35
          refine hK.out _ _ (trivial) (fun _ => ?_)
          clear hK K
          (try simp only [zP, zQ, zS, zZ, zN])
          refine wpAnyH_done (by kernel_rfl) ?_ _
          go_wp2_with fail
          go_meet
          exact ⟨A33, c33, cs32, es32, hc33, box hvt32, hF35.tail⟩
         refine AllReadyH.cons (by simp only [List.getElem?_toArray, List.getElem?_cons_zero, List.getElem?_cons_succ]; rfl) (fun K hK => ?_) ?_
         ·refine stp (by with_unfolding_all rfl) (wp_fst hF33 (i := 2) rfl (v := .slice A33 (nk + 1) c33) (by with_unfolding_all exact ⟨_, _, rfl, rfl, rfl⟩) (by kernel_rfl) rfl rfl (by rw [vlL_len]; decide) ?_)
          intro w34 hF34 hz34
          (try simp only [zZ, zN] at hF34)
          rw [(vlL_4 (k := 6) (n := 0) (t := ⟨#[]⟩) (a := .slice An1 (nn + 1) cn1) (b := .slice Ak nk ck))] at hF34
          refine hK.out _ _ (trivial) (fun _ => ?_)
          clear hK K
          (try simp only [zP, zQ, zS, zZ, zN])
          refine rdy1 10 (fun K hK => ?_)
          refine stp (by with_unfolding_all rfl) (wp_fstO hF34 (i := 4) rfl hxl.out (by with_unfolding_all exact ⟨_, _, rfl, rfl, rfl⟩) (by kernel_rfl) hvt32.len hvt32.one ?_)
          intro w35 hF35 hz35
          (try simp only [zZ, zN] at hF35)
          refine hK.out _ _ (trivial) (fun _ => ?_)
          clear hK K
          (try simp only [zP, zQ, zS, zZ, zN])
          refine wpAnyH_done (by kernel_rfl) ?_ _
          go_wp2_with fail
          go_meet
          exact ⟨A33, c33, cs32, es32, hc33, box hvt32, hF35.tail⟩
         exact AllReadyH.nil
        refine AllReadyH.cons (by simp only [List.getElem?_toArray, List.getElem?_cons_zero, List.getElem?_cons_succ]; rfl) (fun K hK => ?_) ?_
        ·refine stp (by with_unfolding_all rfl) (wp_fst hF33 (i := 2) rfl (v := .slice A33 (nk + 1) c33) (by with_unfolding_all exact ⟨_, _, rfl, rfl, rfl⟩) (by kernel_rfl) rfl rfl (by rw [vlL_len]; decide) ?_)
         intro w34 hF34 hz34
         (try simp only [zZ, zN] at hF34)
         rw [(vlL_4 (k := 6) (n := 0) (t := ⟨#[]⟩) (a := .slice An1 (nn + 1) cn1) (b := .slice Ak nk ck))] at hF34
         refine hK.out _ _ (trivial) (fun _ => ?_)
         clear hK K
         (try simp only [zP, zQ, zS, zZ, zN])
         refine rdy1 9 (fun K hK => ?_)
         refine stp (by with_unfolding_all rfl) (wp_indexAddr T_vals (hF34.rdOwn (i := 4) rfl) (by with_unfolding_all exact ⟨_, _, _, _, rfl, rfl, rfl⟩) (by omega) (by omega) ?_)
         refine hK.out _ _ (trivial) (fun _ => ?_)
         clear hK K
         (try simp only [zP, zQ, zS, zZ, zN])
         refine rdy1 10 (fun K hK => ?_)
         refine stp (by with_unfolding_all rfl) (wp_fstO hF34 (i := 4) rfl hxl.out (by with_unfolding_all exact ⟨_, _, rfl, rfl, rfl⟩) (by kernel_rfl) hvt32.len hvt32.one ?_)
         intro w35 hF35 hz35
         (try simp only [zZ, zN] at hF35)
         refine hK.out _ _ (trivial) (fun _ => ?_)
         clear hK K
         (try simp only [zP, zQ, zS, zZ, zN])
         refine wpAnyH_done (by kernel_rfl) ?_ _
         go_wp2_with fail
         go_meet
         exact ⟨A33, c33, cs32, es32, hc33, box hvt32, hF35.tail⟩
        exact AllReadyH.nil
       refine AllReadyH.cons (by simp only [List.getElem?_toArray, List.getElem?_cons_zero, List.getElem?_cons_succ]; rfl) (fun K hK => ?_) ?_
       ·refine stp (by with_unfolding_all rfl) (wp_call Tryz.func64 rfl (by with_unfolding_all rfl) (by with_unfolding_all rfl) (by with_unfolding_all rfl) (hvc.out _ (hL.on (hF31.belowG hg hB)) (hF31.blk (i := 3) rfl) (Nat.le_trans hB hF31.size) (hF31.rdB hg hB hr)) ?_)
        rintro e w32 ⟨cs32, es32, rfl, hvt32, hv32⟩
        refine ⟨_, rfl, ?_⟩
        have hF32 := hF31.putG (i := 3) rfl hv32
        simp only [List.set_cons_zero, List.set_cons_succ, List.cons_append] at hF32
        refine hK.out _ _ (trivial) (fun _ => ?_)
        clear hK K
        (try simp only [zP, zQ, zS, zZ, zN])
        refine rdy1 1 (fun K hK => ?_)
        refine stp (by with_unfolding_all rfl) (wp_fld hF32 (i := 2) rfl uq74 rfl (by with_unfolding_all exact ⟨_, rfl, rfl⟩) rfl ?_)
        refine hK.out _ _ (trivial) (fun _ => ?_)
        clear hK K
        (try simp only [zP, zQ, zS, zZ, zN])
        refine tkp 6 trivial ?_
        (try simp only [zP, zQ, zS, zZ, zN])
        refine rdy1 8 (fun K hK => ?_)
        refine stp (by with_unfolding_all rfl) (wp_fappG T_vals hF32 (i := 4) rfl (Nat.le_refl _) (hF32.rdOwn (i := 0) rfl) vlL_one (by with_unfolding_all exact ⟨_, _, rfl, rfl, rfl⟩) (by unfold maxLen; omega) (by omega) ?_)
        intro v33 w33 hF33 hz33
        (try simp only [zZ, zN] at hF33)
        obtain ⟨A33, c33, rfl, hc33⟩ := hF33.ownParts (i := 4) rfl
        refine hK.out _ _ (trivial) (fun _ => ?_)
        clear hK K
        (try simp only [zP, zQ, zS, zZ, zN])
        refine tkp 11 trivial ?_
        (try simp only [zP, zQ, zS, zZ, zN])
        refine wpAnyH_ready (rs := [9, 12]) (by kernel_rfl) (by simp) ?_
        refine AllReadyH.cons (by simp only [List.getElem?_toArray, List.getElem?_cons_zero, List.getElem?_cons_succ]; rfl) (fun K hK => ?_) ?_
        ·refine stp (by with_unfolding_all rfl) (wp_indexAddr T_vals (hF33.rdOwn (i := 4) rfl) (by with_unfolding_all exact ⟨_, _, _, _, rfl, rfl, rfl⟩) (by omega) (by omega) ?_)
         refine hK.out _ _ (trivial) (fun _ => ?_)
         clear hK K
         (try simp only [zP, zQ, zS, zZ, zN])
         refine wpAnyH_ready (rs := [10, 12]) (by kernel_rfl) (by simp) ?_
         refine AllReadyH.cons (by simp only [List.getElem?_toArray, List.getElem?_cons_zero, List.getElem?_cons_succ]; rfl) (fun K hK => ?_) ?_
         ·refine stp (by with_unfolding_all rfl) (wp_fstO hF33 (i := 4) rfl hxl.out (by with_unfolding_all exact ⟨_, _, rfl, rfl, rfl⟩) (by kernel_rfl) hvt32.len hvt32.one ?_)
          intro w34 hF34 hz34
          (try simp only [zZ, zN] at hF34)
          refine hK.out _ _ (trivial) (fun _ => ?_)
          clear hK K
          (try simp only [zP, zQ, zS, zZ, zN])
          refine rdy1 12 (fun K hK => ?_)
          refine stp (by with_unfolding_all rfl) (wp_fst hF34 (i := 2) rfl (v := .slice A33 (nk + 1) c33) (by with_unfolding_all exact ⟨_, _, rfl, rfl, rfl⟩) (by kernel_rfl) rfl rfl (by rw [vlL_len]; decide) ?_)
          intro w35 hF35 hz35
          (try simp only [zZ, zN] at hF35)
          rw [(vlL_4 (k := 6) (n := 0) (t := ⟨#[]⟩) (a := .slice An1 (nn + 1) cn1) (b := .slice Ak nk ck))] at hF35
          refine hK.out _ _ (trivial) (fun _ => ?_)
          clear hK K
          (try simp only [zP, zQ, zS, zZ, zN])
          refine wpAnyH_done (by kernel_rfl) ?_ _
          go_wp2_with fail
          go_meet
          exact ⟨A33, c33, cs32, es32, hc33, box hvt32, hF35.tail⟩
         refine AllReadyH.cons (by simp only [List.getElem?_toArray, List.getElem?_cons_zero, List.getElem?_cons_succ]; rfl) (fun K hK => ?_) ?_
         ·refine stp (by with_unfolding_all rfl) (wp_fst hF33 (i := 2) rfl (v := .slice A33 (nk + 1) c33) (by with_unfolding_all exact ⟨_, _, rfl, rfl, rfl⟩) (by kernel_rfl) rfl rfl (by rw [vlL_len]; decide) ?_)
          intro w34 hF34 hz34
          (try simp only [zZ, zN] at hF34)
          rw [(vlL_4 (k := 6) (n := 0) (t := ⟨#[]⟩) (a := .slice An1 (nn + 1) cn1) (b := .slice Ak nk ck))] at hF34
          refine hK.out _ _ (trivial) (fun _ => ?_)
          clear hK K
          (try simp only [zP, zQ, zS, zZ, zN])
          refine rdy1 10 (fun K hK => ?_)
          refine stp (by with_unfolding_all rfl) (wp_fstO hF34 (i := 4) rfl hxl.out (by with_unfolding_all exact ⟨_, _, rfl, rfl, rfl⟩) (by kernel_rfl) hvt32.len hvt32.one ?_)
          intro w35 hF35 hz35
          (try simp only [zZ, zN] at hF35)
          refine hK.out _ _ (trivial) (fun _ => ?_)
          clear hK K
          (try simp only [zP, zQ, zS, zZ, zN])
          refine wpAnyH_done (by kernel_rfl) ?_ _
          go_wp2_with fail
          go_meet
          exact ⟨A33, c33, cs32, es32, hc33, box hvt32, hF35.tail⟩
         exact AllReadyH.nil
        refine AllReadyH.cons (by simp only [List.getElem?_toArray, List.getElem?_cons_zero, List.getElem?_cons_succ]; rfl) (fun K hK => ?_) ?_
        ·refine stp (by with_unfolding_all rfl) (wp_fst hF33 (i := 2) rfl (v := .slice A33 (nk + 1) c33) (by with_unfolding_all exact ⟨_, _, rfl, rfl, rfl⟩) (by kernel_rfl) rfl rfl (by rw [vlL_len]; decide) ?_)
         intro w34 hF34 hz34
         (try simp only [zZ, zN] at hF34)
         rw [(vlL_4 (k := 6) (n := 0) (t := ⟨#[]⟩) (a := .slice An1 (nn + 1) cn1) (b := .slice Ak nk ck))] at hF34
         refine hK.out _ _ (trivial) (fun _ => ?_)
         clear hK K
         (try simp only [zP, zQ, zS, zZ, zN])
         refine rdy1 9 (fun K hK => ?_)
         refine stp (by with_unfolding_all rfl) (wp_indexAddr T_vals (hF34.rdOwn (i := 4) rfl) (by with_unfolding_all exact ⟨_, _, _, _, rfl, rfl, rfl⟩) (by omega) (by omega) ?_)
         refine hK.out _ _ (trivial) (fun _ => ?_)
         clear hK K
         (try simp only [zP, zQ, zS, zZ, zN])
         refine rdy1 10 (fun K hK => ?_)
         refine stp (by with_unfolding_all rfl) (wp_fstO hF34 (i := 4) rfl hxl.out (by with_unfolding_all exact ⟨_, _, rfl, rfl, rfl⟩) (by kernel_rfl) hvt32.len hvt32.one ?_)
         intro w35 hF35 hz35
         (try simp only [zZ, zN] at hF35)
         refine hK.out _ _ (trivial) (fun _ => ?_)
         clear hK K
         (try simp only [zP, zQ, zS, zZ, zN])
         refine wpAnyH_done (by kernel_rfl) ?_ _
         go_wp2_with fail
         go_meet
         exact ⟨A33, c33, cs32, es32, hc33, box hvt32, hF35.tail⟩
        exact AllReadyH.nil
       exact AllReadyH.nil
      exact AllReadyH.nil
     case rest =>
      obtain ⟨Ak2, ck2, cs2, es2, hck2, hvt, hF2⟩ := hcut
      clear hF1 hF hvc
      have hr1 : jBlanks b r ≤ n := by have := jBlanks_le b (p := r) (by rw [hl.out]; exact hrn); rw [hl.out] at this; exact this
      have hrg := jBlanks_ge b r
      have hT2 := box (hT.out.snoc hvt.out)
      have hbl := box (blanks_any g A n c r m2 B b wc (hF2.blk (i := 2) rfl) hg (Nat.le_trans hB hF2.size) (by omega) hrn (hF2.rdB hg hB hr))
      go_wp2_with fail
      refine hbl.out.mono ?_
      rintro e w8 ⟨rfl, h8⟩
      have hF8 := hF2.putF (i := 2) rfl h8
      simp only [zN, zZ] at hF8
      clear hbl h8 hF2
      cases hx : b[jBlanks b r]? with
      | none =>
       have hend : Box (jMany b 6 125 (some (jValue b d)) p m = .error (n, 9)) := box (by rw [hJ3.out]; unfold jNext; rw [hx, hl.out])
       have hnx := box (next_x hx (hF8.blk (i := 2) rfl) (hF8.rdB hg hB hr))
       rw [hl.out] at hnx
       clear hx hJ3
       go_wp2_with fail
       refine hnx.out.mono ?_
       rintro e w9 ⟨rfl, hb9⟩
       have hF9 := hF8.call hb9
       dsimp only [flt]
       go_wp2
       exact ⟨rfl, by unfold JEndP; rw [hend.out]; exact ⟨rfl, hF9.grown⟩⟩
      | some y =>
       have hyb := y.toNat_lt
       have hnx := box (next_q hx (hF8.blk (i := 2) rfl) (hF8.rdB hg hB hr) 0)
       have hplt := (List.getElem?_eq_some_iff.1 hx).1
       rw [hl.out] at hplt
       have hJ4 := hJ3.out
       unfold jNext at hJ4
       rw [hx] at hJ4
       simp only [] at hJ4
       clear hJ3 hx
       by_cases hyE : y = 125
       ·subst hyE
        rw [if_pos rfl] at hJ4
        have hend := box hJ4
        clear hJ4
        go_wp2_with fail
        refine hnx.out.mono ?_
        rintro e w9 ⟨rfl, q9, rfl⟩
        have hF9 := hF8.drewN q9
        go_wp2_with (first | (with_reducible refine lsx (wp_fld2 hF9 uq3 rfl (by with_unfolding_all exact ⟨_, rfl, rfl⟩) rfl ?_)) | ((with_reducible refine lsx (wp_fst2 hF9 (by with_unfolding_all exact ⟨_, _, rfl, rfl, rfl⟩) (by kernel_rfl) rfl rfl (by rw [rdrL_len]; decide) (rdrL_at (q := jBlanks b r + 1) (by omega)) ?_)); intro w10 hF10 hz10) | (with_reducible refine lsx (wp_fldA1 hF10 uq76 rfl (by with_unfolding_all exact ⟨_, rfl, rfl⟩) (ds := (vlL 6 0 ⟨#[]⟩ (.slice An1 (nn + 1) cn1) (.slice Ak2 (nk + 1) ck2))) (by rw [vlL_len]; kernel_rfl) (take_all _) ?_)) | ((with_reducible refine lsx (wp_fstA4 hF10 (by with_unfolding_all exact ⟨_, _, rfl, rfl, rfl⟩) (by rw [vlL_len]; kernel_rfl) vlL_one vlL_fit vlL_spl ?_)); intro w11 hF11 hz11))
        exact bodyPost_ret (results_cellF rfl _ hF11 (i := 4) rfl rfl uq76 rfl (by rw [vlL_len]; kernel_rfl)) rfl (by
         unfold JEndP
         rw [hend.out]
         refine ⟨_, _, rfl, VT.mk_ hcn1 hck2 hT2.out, ?_⟩
         have h12 := hF11.toRd (i := 0) rfl
         simp only [List.set_cons_zero] at h12
         have h13 := h12.toRd (i := 3) rfl
         simp only [zN, zZ] at h13
         refine (h13.sub (es' := .rd An1 1 (nn + 1) ((names ++ [s]).map strv) :: .blk g 127 (rdrL A n c (jBlanks b r + 1) m2) :: .rd Ak2 5 (nk + 1) (xs ++ cs2) :: (TE ++ es2)) ?_).perm (List.Perm.swap _ _ _)
         exact (((((List.Sublist.refl _).cons _).cons_cons _).cons_cons _).cons _).cons_cons _)
       ·rw [if_neg hyE] at hJ4
        have nE2 : ((y.toNat : Int) == 125) = false := u8_ne hyE
        replace hyE := box hyE
        have hwd := box (fun w' (hF : Fr [g] w w' (.own w.heap.size 9 1 (.slice An1 (nn + 1) cn1) (nn + 1) ((names ++ [s]).map strv) :: .blk g2 76 (vlL 6 0 ⟨#[]⟩ (.slice An1 (nn + 1) cn1) (.slice Ak2 (nk + 1) ck2)) :: .blk g 127 (rdrL A n c (jBlanks b r) m2) :: .own w.heap.size 76 5 (.slice Ak2 (nk + 1) ck2) (nk + 1) (xs ++ cs2) :: .blk g1 76 vl0 :: (TE ++ es2))) => word_any g A n c (jBlanks b r) m2 B b ⟨#[44]⟩ w' (hF.blk (i := 2) rfl) hg (Nat.le_trans hB hF.size) (by omega) hr1 (by decide) (hF.rdB hg hB hr))
        rw [show ((⟨#[44]⟩ : ByteArray).data.toList) = [44] from rfl] at hwd
        cases hW : jWord b [44] (jBlanks b r) with
        | error z =>
         rw [hW] at hJ4 hwd
         simp only [] at hJ4
         have hend := box hJ4
         unfold JPost at hwd
         simp only [] at hwd
         clear hW hJ4
         go_wp2_with fail
         refine hnx.out.mono ?_
         rintro e w9 ⟨rfl, q9, rfl⟩
         have hF9 := hF8.drewN q9
         go_wp2_with fail
         refine (hwd.out _ hF9).mono ?_
         rintro e w10 ⟨rfl, hg10⟩
         dsimp only [flt]
         go_wp2
         exact ⟨rfl, by unfold JEndP; rw [hend.out]; exact ⟨rfl, grown_trans hF9.grown hg10⟩⟩
        | ok t =>
         have htn := (jWord_le hW).2.resolve_left (by simp)
         have htr : t = jBlanks b r + 1 := (jWord_le hW).1
         rw [hl.out] at htn
         have ht1 : jBlanks b t ≤ n := by have := jBlanks_le b (p := t) (by rw [hl.out]; exact htn); rw [hl.out] at this; exact this
         have htg := jBlanks_ge b t
         rw [hW] at hJ4 hwd
         simp only [] at hJ4
         have hgo := box hJ4
         unfold JPost at hwd
         simp only [] at hwd
         clear hW hJ4
         have hms : n + 1 ≤ f' + jBlanks b t := by have := hf.out; omega
         replace hms := box hms
         have hkf : Box (gk = f' + 1) := hk
         clear hk
         go_wp2_with fail
         refine hnx.out.mono ?_
         rintro e w9 ⟨rfl, q9, rfl⟩
         have hF9 := hF8.drewN q9
         clear hF8 hnx
         go_wp2_with fail
         refine (hwd.out _ hF9).mono ?_
         rintro e w10 ⟨rfl, h10⟩
         have hF10 := hF9.putF (i := 2) rfl h10
         simp only [zN, zZ] at hF10
         clear hwd h10 hF9
         have hbl := box (blanks_any g A n c t m2 B b w10 (hF10.blk (i := 2) rfl) hg (Nat.le_trans hB hF10.size) (by omega) htn (hF10.rdB hg hB hr))
         go_wp2_with fail
         refine hbl.out.mono ?_
         rintro e w11 ⟨rfl, h11⟩
         have hF11 := hF10.putF (i := 2) rfl h11
         simp only [zN, zZ] at hF11
         clear hbl h11 hF10
         go_wp2_with fail
         go_roundg f'
         case rel => exact ⟨names ++ [s], kids ++ [v], jBlanks b t, m2, f', An1, (nn + 1), cn1, Ak2, nk + 1, ck2, xs ++ cs2, TE ++ es2, ht1, hm2, by omega, by omega, hcn1, hck2, box rfl, hms, (box (by rw [List.length_append, hnl.out]; rfl)), hgo, hT2, hF11⟩
         case measure => have := hkf.out; omega
end Go.Proofs.YtlhicfpmlncomaaGreatDoor
