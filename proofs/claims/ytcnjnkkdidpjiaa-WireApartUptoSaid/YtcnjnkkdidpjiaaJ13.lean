/-
  Layer 19: the walk of DecodeReply.
-/
import Derived.Test.YtcnjnkkdidpjiaaJ11
import Derived.Test.YtcnjnkkdidpjiaaJ07
import Derived.Test.YtcnjnkkdidpjiaaJ12
import Derived.Deep.DeepCutAuto
namespace Go.Proofs.Ytcnjnkkdidpjiaa
open Go.RowKit

theorem sumC_snoc (l : List (List UInt8)) (s : List UInt8) : sumC (l ++ [s]) = sumC l ++ s.map bv := by simp [sumC]
theorem str_one1 (s : ByteArray) : ∀ u ∈ [Value.string s], u.oneCell' = true := by simp [Value.oneCell']

set_option maxRecDepth 20000 in
set_option maxHeartbeats 3200000 in
theorem decRep_any (A : Option Addr) (n c : Nat) (l : List UInt8) (w : World) (hn : n ≤ 140737488355000) (hnc : n ≤ c) (hr : Rd w (· < w.heap.size) A 1 n (l.map bv)) :
    Calls Try.prog 20 #[.slice A n c] w (ToldRep w 5 9 29 (decRep l)) := by
  have hl := hr.bytes_len
  have hF0 := Fr.nil w
  have hz0 := zeros_len
  replace hz0 := box hz0
  cases l with
  | nil =>
    obtain rfl : n = 0 := by simpa using hl.symm
    go_enter Try.func20, Try.ntmps20
    go_wp2_with (first | ((with_reducible refine lst (by with_unfolding_all rfl) (wp_falloc hF0 (cs := rp0) (z := .agg (List.toArray (rp0))) rfl (by kernel_rfl) (by with_unfolding_all rfl) ?_)); intro w1 g1 hF1 hz1) | (with_reducible refine lst (by with_unfolding_all rfl) (wp_fbuild Try.underlying51 (z := .agg (List.toArray rp0)) (by kernel_rfl) (pl := rpP) (by kernel_rfl) (cs := rp0) rfl (vs := []) (by with_unfolding_all rfl) (by with_unfolding_all exact rp0_fill) ?_)) | ((with_reducible refine lst (by with_unfolding_all rfl) (wp_fstA0 hF1 (by with_unfolding_all exact ⟨_, _, rfl, rfl, rfl⟩) (by kernel_rfl) (by decide +kernel) (by simp) (spl_all rfl) ?_)); intro w2 hF2 hz2))
    refine bodyPost_ret (results_cellF2_0 hF2 rfl _ rfl Try.underlying51 rfl (by kernel_rfl)) rfl ?_
    exact ⟨none, none, none, 0, 0, 0, rfl, told_none hF2⟩
  | cons x l =>
    obtain rfl : n = l.length + 1 := by simpa using hl.symm
    have hx0 : Box ((x :: l)[0]? = some x) := box rfl
    have hxb := x.toNat_lt
    clear hl
    have hdec : Box (decRep (x :: l) = if 100 < (tookP l).k.1 then none else if 4096 < (tookP l).j.1 then none else if (tookP l).ss.2 = some [] then some ((tookP l).rep x) else none) := box rfl
    go_enter Try.func20, Try.ntmps20
    go_wp2_with (first | ((with_reducible refine lst (by with_unfolding_all rfl) (wp_falloc hF0 (cs := rp0) (z := .agg (List.toArray (rp0))) rfl (by kernel_rfl) (by with_unfolding_all rfl) ?_)); intro w1 g1 hF1 hz1) | (with_reducible refine lst (by with_unfolding_all rfl) (wp_indexAddr T_u8 (hF1.rdOld hr) (by with_unfolding_all exact ⟨_, _, _, _, rfl, rfl, rfl⟩) (by omega) (by omega) ?_)) | (with_reducible refine lst (by with_unfolding_all rfl) (wp_loadC (hF1.rdOld hr) hx0 Try.underlying5 rfl (by with_unfolding_all exact ⟨_, rfl, rfl⟩) (by first | (simp; done) | (simp; omega) | omega) ?_)) | ((with_reducible refine lst (by with_unfolding_all rfl) (wp_cutB T_u8 (hr.below hF1.below) hnc (lo := (some (1:Int))) (hi := none) (mx := none) ?_ (l := 1) (h := (l.length + 1)) (m := c) (by first | (simp; done) | (simp; omega)) (by first | (simp; done) | (simp; omega)) (by first | (simp; done) | (simp; omega)) (by simp) (by omega) (by omega) (by omega) (by omega) ?_)); exact ⟨_, _, _, _, .i64, .i64, .i64, rfl, rfl, rfl, rfl, rfl⟩; intro A2 c2 hr2 hc2 hc3) | ((with_reducible refine lst (by with_unfolding_all rfl) (wp_fbox hF1 (cs := [.slice A2 l.length c2, .bool true]) rfl (by with_unfolding_all rfl) (by with_unfolding_all rfl) ?_)); intro w2 g2 hF2 hz2) | (with_reducible refine lst (by with_unfolding_all rfl) (wp_indexAddr T_u8 (hF2.rdOld hr) (by with_unfolding_all exact ⟨_, _, _, _, rfl, rfl, rfl⟩) (by omega) (by omega) ?_)) | (with_reducible refine lst (by with_unfolding_all rfl) (wp_loadC (hF2.rdOld hr) hx0 Try.underlying5 rfl (by with_unfolding_all exact ⟨_, rfl, rfl⟩) (by first | (simp; done) | (simp; omega) | omega) ?_)) | (with_reducible refine lst (by with_unfolding_all rfl) (wp_fbuild Try.underlying51 (z := .agg (List.toArray rp0)) (by kernel_rfl) (pl := rpP) (by kernel_rfl) (cs := (rpL (.int .i64 (x.toNat : Int)) (zeros.map bv) (.int .i64 0) (.int .i64 0) (.slice none 0 0) (.slice none 0 0) (.slice none 0 0))) rfl (vs := [(0, .int .i64 (x.toNat : Int))]) (by with_unfolding_all rfl) (by with_unfolding_all exact rp0_fill1 rfl) ?_)) | ((with_reducible refine lst (by with_unfolding_all rfl) (wp_falloc hF2 (cs := rp0) (z := .agg (List.toArray (rp0))) rfl (by kernel_rfl) (by with_unfolding_all rfl) ?_)); intro w3 g3 hF3 hz3) | ((with_reducible refine lst (by with_unfolding_all rfl) (wp_fstA0 hF3 (by with_unfolding_all exact ⟨_, _, rfl, rfl, rfl⟩) (by rw [rpL_length hz0.out]; kernel_rfl) (rpL_one (bv_one _) rfl rfl rfl rfl rfl rfl) (by simp only [rp0, rpL_length hz0.out] <;> omega) (spl_all (by simp only [rp0, rpL_length hz0.out])) ?_)); intro w4 hF4 hz4))
    have hR : RdrAt w w.heap.size (l.length + 1) (some l) [.slice A2 l.length c2, .bool true] := by
      rw [List.take_of_length_le (by simp), Nat.add_sub_cancel] at hr2
      exact ⟨A2, l.length, c2, l, true, rfl, hr2.same (fun k hk => (hF1.block k hk (by simp)).symm), hc2, by omega, box rfl⟩
    clear hr2 hF0 hF1 hF2 hF3
    have hg2 : w.heap.size ≤ g2 := by simpa using hF4.fresh 1 _ rfl g2 rfl
    obtain ⟨d1, hd1⟩ : ∃ t, t = rSum (some l) := ⟨_, rfl⟩
    obtain ⟨n1, hn1⟩ : ∃ t, t = rCount d1.2 := ⟨_, rfl⟩
    obtain ⟨n2, hn2⟩ : ∃ t, t = rCount n1.2 := ⟨_, rfl⟩
    obtain ⟨t4, ht4⟩ : ∃ t, t = rText 1048576 n2.2 := ⟨_, rfl⟩
    obtain ⟨k1, hk1⟩ : ∃ t, t = rCount t4.2 := ⟨_, rfl⟩
    obtain ⟨ws, hws⟩ : ∃ t, t = rWords k1.1 k1.2 := ⟨_, rfl⟩
    obtain ⟨j1, hj1⟩ : ∃ t, t = rCount ws.2 := ⟨_, rfl⟩
    obtain ⟨ss, hss⟩ : ∃ t, t = rSums j1.1 j1.2 := ⟨_, rfl⟩
    have htk : tookP l = ⟨d1, n1, n2, t4, k1, ws, j1, ss⟩ := by unfold tookP; simp only []; rw [← hd1, ← hn1, ← hn2, ← ht4, ← hk1, ← hws, ← hj1, ← hss]
    rw [htk] at hdec
    have hd3 : (d1.1.map bv).length = 32 := by rw [hd1, List.length_map, rSum_len]
    replace hd3 := box hd3
    replace hd1 := box hd1
    replace hn1 := box hn1
    replace hn2 := box hn2
    replace ht4 := box ht4
    replace hk1 := box hk1
    replace hws := box hws
    replace hj1 := box hj1
    replace hss := box hss
    clear htk
    refine (rdSum_any w.heap.size g2 (l.length + 1) (some l) _ w w4 hF4.below (Nat.le_refl _) hg2 hF4.heap1 hR).mono ?_
    rintro e w9 ⟨cs9, rfl, hg9, hh9, hR9⟩
    rw [← hd1.out] at hR9 ⊢
    have hF9 := hF4.put1 hg9 hh9
    clear hR hF4 hg9 hh9
    go_wp2_with (first | ((with_reducible refine lst (by with_unfolding_all rfl) (wp_fstA0 hF9 (by with_unfolding_all exact ⟨_, _, rfl, rfl, rfl⟩) (by rw [hd3.out]; kernel_rfl) (bv_one _) (by rw [rpL_length hz0.out, hd3.out]; omega) (rpL_1 hz0.out hd3.out) ?_)); intro w10 hF10 hz10))
    refine (rdCount_any w.heap.size g2 (l.length + 1) d1.2 _ w w10 hF10.below (Nat.le_refl _) hF10.heap1 hR9 (by omega)).mono ?_
    rintro e w11 ⟨cs11, rfl, hg11, hh11, hR11⟩
    rw [← hn1.out] at hR11 ⊢
    have hF11 := hF10.put1 hg11 hh11
    clear hR9 hF9 hF10 hg11 hh11
    go_wp2_with fail
    refine (rdCount_any w.heap.size g2 (l.length + 1) n1.2 _ w w11 hF11.below (Nat.le_refl _) hF11.heap1 hR11 (by omega)).mono ?_
    rintro e w12 ⟨cs12, rfl, hg12, hh12, hR12⟩
    rw [← hn2.out] at hR12 ⊢
    have hF12 := hF11.put1 hg12 hh12
    clear hR11 hF11 hg12 hh12
    go_wp2_with (first | ((with_reducible refine lst (by with_unfolding_all rfl) (wp_fst0 hF12 (by with_unfolding_all exact ⟨_, _, rfl, rfl, rfl⟩) (by kernel_rfl) rfl rfl (by rw [rpL_length hd3.out]; omega) (rpL_33 (v := .int .i64 (n1.1 : Int)) hd3.out) ?_)); intro w14 hF14 hz14) | ((with_reducible refine lst (by with_unfolding_all rfl) (wp_fst0 hF14 (by with_unfolding_all exact ⟨_, _, rfl, rfl, rfl⟩) (by kernel_rfl) rfl rfl (by rw [rpL_length hd3.out]; omega) (rpL_34 (v := .int .i64 (n2.1 : Int)) hd3.out) ?_)); intro w15 hF15 hz15))
    refine (rdText_any w.heap.size g2 (l.length + 1) n2.2 _ 1048576 w w15 hF15.below (Nat.le_refl _) hF15.heap1 hR12 (by omega) (by omega)).mono ?_
    rintro e w17 ⟨v17, cs17, rfl, ho17, hg17, hh17, hR17⟩
    rw [← ht4.out] at ho17 hR17
    obtain ⟨A17, c17, rfl, hc17, hr17⟩ := ho17.arg
    have hF17 := hF15.putGot1 hg17 hh17 ho17
    clear hR12 hF12 hF14 hF15 hg17 hh17 ho17
    go_wp2_with (first | ((with_reducible refine lst (by with_unfolding_all rfl) (wp_fst1 hF17 (by with_unfolding_all exact ⟨_, _, rfl, rfl, rfl⟩) (by kernel_rfl) rfl rfl (by rw [rpL_length hd3.out]; omega) (rpL_35 (v := .slice A17 t4.1.length c17) hd3.out) ?_)); intro w18 hF18 hz18))
    refine (rdCount_any w.heap.size g2 (l.length + 1) t4.2 _ w w18 hF18.below (Nat.le_refl _) hF18.heap2 hR17 (by omega)).mono ?_
    rintro e w19 ⟨cs19, rfl, hg19, hh19, hR19⟩
    rw [← hk1.out] at hR19 ⊢
    have hF19 := hF18.put2 hg19 hh19
    clear hR17 hF17 hF18 hg19 hh19
    by_cases hbig : 100 < k1.1
    · have hno : Box (decRep (x :: l) = none) := box (by rw [hdec.out, if_pos hbig])
      have b7 : decide (100 < (k1.1 : Int)) = true := by simp; omega
      go_wp2_with (first | (with_reducible refine lst (by with_unfolding_all rfl) (wp_fbuild Try.underlying51 (z := .agg (List.toArray rp0)) (by kernel_rfl) (pl := rpP) (by kernel_rfl) (cs := rp0) rfl (vs := []) (by with_unfolding_all rfl) (by with_unfolding_all exact rp0_fill) ?_)) | ((with_reducible refine lst (by with_unfolding_all rfl) (wp_fstA3 hF19 (by with_unfolding_all exact ⟨_, _, rfl, rfl, rfl⟩) (by kernel_rfl) (by decide +kernel) (by simp) (spl_all rfl) ?_)); intro w20 hF20 hz20))
      refine bodyPost_ret (results_cellF2_3 hF20 rfl _ rfl Try.underlying51 rfl (by kernel_rfl)) rfl ?_
      rw [hno.out]
      exact ⟨none, none, none, 0, 0, 0, rfl, told_none hF20⟩
    · have b7 : decide (100 < (k1.1 : Int)) = false := by simp; omega
      have hk100 : k1.1 ≤ 100 := by omega
      go_wp2_with fail
      have hFw := (hF19.none_ w.heap.size 29 32).none_ w.heap.size 9 1
      go_loopw [7] (fun i wr => ∃ (k : Nat) (us : List ByteArray) (s : Option (List UInt8)) (cs : List Value) (A' : Option Addr) (c' : Nat), k ≤ k1.1 ∧ i = .int .i64 k ∧ Box (WAt k1.1 k1.2 k us s) ∧ RdrAt w w.heap.size (l.length + 1) s cs ∧ Fr [] w wr [.own w.heap.size 9 1 (.slice A' us.length c') us.length (us.map Value.string), .own w.heap.size 29 32 (.slice none 0 0) 0 [], Ent.bytes w.heap.size 5 (.slice A17 t4.1.length c17) t4.1, .blk g3 51 (rpL (.int .i64 (x.toNat : Int)) (d1.1.map bv) (.int .i64 (n1.1 : Int)) (.int .i64 (n2.1 : Int)) (.slice A17 t4.1.length c17) (.slice A' us.length c') (.slice none 0 0)), .blk g2 72 cs, .blk g1 51 rp0]) (fun i _ => k1.1 - (intOf i).toNat)
      case atStart => exact ⟨0, [], _, _, none, 0, by omega, rfl, box (WAt.zero _ _), hR19, hFw⟩
      case round =>
        clear hFw hF19 hR19
        obtain ⟨k, us, s, cs, A', c', hk, rfl, HW, hRs, hF⟩ := hrel
        obtain ⟨Ar, nr, cr, lr, okr, rfl, hrr, hncr, hnr, hsr⟩ := hRs.ex
        go_upto_region 12 with fail
        go_cut [47] (fun s47 wx => wx = wr ∧ s47 = .bool (decide (k < k1.1) && okr))
        case first =>
          by_cases hlt : k < k1.1
          · have e9 : (decide (k < k1.1) && okr) = okr := by simp [hlt]
            go_wp2_with (first | (with_reducible refine lst (by with_unfolding_all rfl) (wp_fld4 hF Try.underlying4 rfl (by with_unfolding_all exact ⟨_, rfl, rfl⟩) (by first | with_unfolding_all rfl | assumption) ?_)))
            go_meet
            exact ⟨rfl, by rw [e9]⟩
          · have e9 : (decide (k < k1.1) && okr) = false := by simp [hlt]
            go_wp2
            go_meet
            exact ⟨rfl, by rw [e9]⟩
        case rest =>
          obtain ⟨rfl, rfl⟩ := hcut
          by_cases hgo : (decide (k < k1.1) && okr) = true
          · rw [hgo]
            simp only [Bool.and_eq_true, decide_eq_true_eq] at hgo
            obtain ⟨hlt, rfl⟩ := hgo
            go_upto_region 14 with fail
            have hs1 : s = some lr := by rw [hsr.out, if_pos rfl]
            subst hs1
            have hRx : RdrAt w w.heap.size (l.length + 1) (some lr) [.slice Ar nr cr, .bool true] := ⟨Ar, nr, cr, lr, true, rfl, hrr, hncr, hnr, box rfl⟩
            have hus : us.length = k := HW.out.2
            have hst := box (HW.out.step hlt)
            have hFd := hF.drew
            refine wp_region_held (S := fun _ => True) (by kernel_rfl) ?_
            change wpAnyH _ _ _ _ _ _ _ _ (World.drew _)
            refine wpAnyH_take (i := 0) (v := ?_) (by simp only [List.getElem?_toArray, List.getElem?_cons_zero]; rfl) (by kernel_rfl) (by kernel_rfl) (by kernel_rfl) (by exact fun _ _ _ h => h) (Or.inl ⟨by with_unfolding_all rfl, ?_⟩) trivial ?_
            rotate_left
            · (intro w hSw; (try dsimp only at hSw); go_simp; try with_reducible rfl)
            (try simp only [Act.put, List.setIfInBounds_toArray, List.set_cons_zero, List.set_cons_succ])
            refine wpAnyH_take (i := 2) (v := ?_) (by simp only [List.getElem?_toArray, List.getElem?_cons_zero, List.getElem?_cons_succ]; rfl) (by kernel_rfl) (by kernel_rfl) (by kernel_rfl) (by exact fun _ _ _ h => h) (Or.inl ⟨by with_unfolding_all rfl, ?_⟩) trivial ?_
            rotate_left
            · (intro w hSw; (try dsimp only at hSw); go_simp; try with_reducible rfl)
            (try simp only [Act.put, List.setIfInBounds_toArray, List.set_cons_zero, List.set_cons_succ])
            refine wpAnyH_ready (rs := [1, 3]) (by kernel_rfl) (by simp) ?_
            refine AllReadyH.cons (by simp only [List.getElem?_toArray, List.getElem?_cons_zero, List.getElem?_cons_succ]; rfl) (fun K hK => ?_) ?_
            · refine stp (by with_unfolding_all rfl) (wp_fld hFd (i := 3) rfl Try.underlying44 rfl (by with_unfolding_all exact ⟨_, rfl, rfl⟩) (by exact (rpL_at hd3.out).2.2.2.1) ?_)
              refine hK.out _ _ (trivial) (fun _ => ?_)
              clear hK K
              (try simp only [Act.put, List.setIfInBounds_toArray, List.set_cons_zero, List.set_cons_succ])
              refine wpAnyH_ready (rs := [3]) (by kernel_rfl) (by simp) ?_
              refine AllReadyH.cons (by simp only [List.getElem?_toArray, List.getElem?_cons_zero, List.getElem?_cons_succ]; rfl) (fun K hK => ?_) ?_
              · refine stp (by with_unfolding_all rfl) (wp_call Try.func31 rfl (by with_unfolding_all rfl) (by with_unfolding_all rfl) (by with_unfolding_all rfl) (rdText_any w.heap.size g2 (l.length + 1) (some lr) _ 128 w _ hFd.below (Nat.le_refl _) (hFd.blk (i := 4) rfl) hRx (by omega) (by omega)) ?_)
                rintro e w11 ⟨v11, cs11, rfl, ho11, hg11, hh11, hR11⟩
                refine ⟨_, rfl, ?_⟩
                obtain ⟨A11, c11, rfl, hc11, hr11⟩ := ho11.arg
                have hF11 := put_got hFd (i := 4) rfl hg11 hh11 ho11
                (try simp only [List.set_cons_zero, List.set_cons_succ] at hF11)
                refine hK.out _ _ (trivial) (fun _ => ?_)
                clear hK K
                (try simp only [Act.put, List.setIfInBounds_toArray, List.set_cons_zero, List.set_cons_succ])
                refine wpAnyH_ready (rs := [4]) (by kernel_rfl) (by simp) ?_
                refine AllReadyH.cons (by simp only [List.getElem?_toArray, List.getElem?_cons_zero, List.getElem?_cons_succ]; rfl) (fun K hK => ?_) ?_
                · refine stp (by with_unfolding_all rfl) (wp_b2s T_u8 Try.underlying5 Try.underlying9 (hF11.rdOwn (i := 0) rfl) (by with_unfolding_all exact ⟨_, rfl, rfl⟩) ?_)
                  refine hK.out _ _ (trivial) (fun _ => ?_)
                  clear hK K
                  (try simp only [Act.put, List.setIfInBounds_toArray, List.set_cons_zero, List.set_cons_succ])
                  refine wpAnyH_ready (rs := [5]) (by kernel_rfl) (by simp) ?_
                  refine AllReadyH.cons (by simp only [List.getElem?_toArray, List.getElem?_cons_zero, List.getElem?_cons_succ]; rfl) (fun K hK => ?_) ?_
                  · refine stp (by with_unfolding_all rfl) (wp_fbsl T_str hF11 (vs := [.string ⟨(rText 128 (some lr)).1.toArray⟩]) (by with_unfolding_all rfl) (by with_unfolding_all rfl) (by with_unfolding_all rfl) (by decide) (by simp [Value.cells]) ?_)
                    intro w12 g12 hF12 hz12
                    refine hK.out _ _ (trivial) (fun _ => ?_)
                    clear hK K
                    (try simp only [Act.put, List.setIfInBounds_toArray, List.set_cons_zero, List.set_cons_succ])
                    refine wpAnyH_ready (rs := [6]) (by kernel_rfl) (by simp) ?_
                    refine AllReadyH.cons (by simp only [List.getElem?_toArray, List.getElem?_cons_zero, List.getElem?_cons_succ]; rfl) (fun K hK => ?_) ?_
                    · refine stp (by with_unfolding_all rfl) (wp_fappG T_str hF12 (i := 2) rfl (Nat.le_refl _) (hF12.rdOwn (i := 0) rfl) (str_one1 _) (by with_unfolding_all exact ⟨_, _, rfl, rfl, rfl⟩) (by unfold maxLen; omega) (by omega) ?_)
                      intro v13 w13 hF13 hz13
                      (try simp only [List.set_cons_zero, List.set_cons_succ] at hF13)
                      obtain ⟨A13, c13, rfl, hc13⟩ := hF13.ownParts (i := 2) rfl
                      refine hK.out _ _ (trivial) (fun _ => ?_)
                      clear hK K
                      (try simp only [Act.put, List.setIfInBounds_toArray, List.set_cons_zero, List.set_cons_succ])
                      refine wpAnyH_take (i := 7) (v := ?_) (by simp only [List.getElem?_toArray, List.getElem?_cons_zero, List.getElem?_cons_succ]; rfl) (by kernel_rfl) (by kernel_rfl) (by kernel_rfl) (by exact fun _ _ _ h => h) (Or.inl ⟨by with_unfolding_all rfl, ?_⟩) trivial ?_
                      rotate_left
                      · (intro w hSw; (try dsimp only at hSw); go_simp; try with_reducible rfl)
                      (try simp only [Act.put, List.setIfInBounds_toArray, List.set_cons_zero, List.set_cons_succ])
                      refine wpAnyH_ready (rs := [8]) (by kernel_rfl) (by simp) ?_
                      refine AllReadyH.cons (by simp only [List.getElem?_toArray, List.getElem?_cons_zero, List.getElem?_cons_succ]; rfl) (fun K hK => ?_) ?_
                      · refine stp (by with_unfolding_all rfl) (wp_fst hF13 (i := 5) rfl (v := .slice A13 (us.length + 1) c13) (by with_unfolding_all exact ⟨_, _, rfl, rfl, rfl⟩) (by kernel_rfl) rfl rfl (by rw [rpL_length hd3.out]; omega) ?_)
                        intro w14 hF14 hz14
                        (try simp only [List.set_cons_zero, List.set_cons_succ] at hF14)
                        rw [rpL_36 hd3.out] at hF14
                        refine hK.out _ _ (trivial) (fun _ => ?_)
                        clear hK K
                        (try simp only [Act.put])
                        refine wpAnyH_done (by kernel_rfl) ?_ _
                        go_wp2_with fail
                        go_roundw
                        case rel => exact ⟨k + 1, _, _, _, A13, c13, by omega, by go_num, hst, hR11, by have h := hF14.tail.tail; simpa only [List.length_append, List.length_cons, List.length_nil, List.map_append, List.map_cons, List.map_nil, Nat.zero_add] using h⟩
                        case measure => simp [intOf]; omega
                      exact AllReadyH.nil
                    exact AllReadyH.nil
                  exact AllReadyH.nil
                exact AllReadyH.nil
              exact AllReadyH.nil
            refine AllReadyH.cons (by simp only [List.getElem?_toArray, List.getElem?_cons_zero, List.getElem?_cons_succ]; rfl) (fun K hK => ?_) ?_
            · refine stp (by with_unfolding_all rfl) (wp_call Try.func31 rfl (by with_unfolding_all rfl) (by with_unfolding_all rfl) (by with_unfolding_all rfl) (rdText_any w.heap.size g2 (l.length + 1) (some lr) _ 128 w _ hFd.below (Nat.le_refl _) (hFd.blk (i := 4) rfl) hRx (by omega) (by omega)) ?_)
              rintro e w11 ⟨v11, cs11, rfl, ho11, hg11, hh11, hR11⟩
              refine ⟨_, rfl, ?_⟩
              obtain ⟨A11, c11, rfl, hc11, hr11⟩ := ho11.arg
              have hF11 := put_got hFd (i := 4) rfl hg11 hh11 ho11
              (try simp only [List.set_cons_zero, List.set_cons_succ] at hF11)
              refine hK.out _ _ (trivial) (fun _ => ?_)
              clear hK K
              (try simp only [Act.put, List.setIfInBounds_toArray, List.set_cons_zero, List.set_cons_succ])
              refine wpAnyH_ready (rs := [1, 4]) (by kernel_rfl) (by simp) ?_
              refine AllReadyH.cons (by simp only [List.getElem?_toArray, List.getElem?_cons_zero, List.getElem?_cons_succ]; rfl) (fun K hK => ?_) ?_
              · refine stp (by with_unfolding_all rfl) (wp_fld hF11 (i := 4) rfl Try.underlying44 rfl (by with_unfolding_all exact ⟨_, rfl, rfl⟩) (by exact (rpL_at hd3.out).2.2.2.1) ?_)
                refine hK.out _ _ (trivial) (fun _ => ?_)
                clear hK K
                (try simp only [Act.put, List.setIfInBounds_toArray, List.set_cons_zero, List.set_cons_succ])
                refine wpAnyH_ready (rs := [4]) (by kernel_rfl) (by simp) ?_
                refine AllReadyH.cons (by simp only [List.getElem?_toArray, List.getElem?_cons_zero, List.getElem?_cons_succ]; rfl) (fun K hK => ?_) ?_
                · refine stp (by with_unfolding_all rfl) (wp_b2s T_u8 Try.underlying5 Try.underlying9 (hF11.rdOwn (i := 0) rfl) (by with_unfolding_all exact ⟨_, rfl, rfl⟩) ?_)
                  refine hK.out _ _ (trivial) (fun _ => ?_)
                  clear hK K
                  (try simp only [Act.put, List.setIfInBounds_toArray, List.set_cons_zero, List.set_cons_succ])
                  refine wpAnyH_ready (rs := [5]) (by kernel_rfl) (by simp) ?_
                  refine AllReadyH.cons (by simp only [List.getElem?_toArray, List.getElem?_cons_zero, List.getElem?_cons_succ]; rfl) (fun K hK => ?_) ?_
                  · refine stp (by with_unfolding_all rfl) (wp_fbsl T_str hF11 (vs := [.string ⟨(rText 128 (some lr)).1.toArray⟩]) (by with_unfolding_all rfl) (by with_unfolding_all rfl) (by with_unfolding_all rfl) (by decide) (by simp [Value.cells]) ?_)
                    intro w12 g12 hF12 hz12
                    refine hK.out _ _ (trivial) (fun _ => ?_)
                    clear hK K
                    (try simp only [Act.put, List.setIfInBounds_toArray, List.set_cons_zero, List.set_cons_succ])
                    refine wpAnyH_ready (rs := [6]) (by kernel_rfl) (by simp) ?_
                    refine AllReadyH.cons (by simp only [List.getElem?_toArray, List.getElem?_cons_zero, List.getElem?_cons_succ]; rfl) (fun K hK => ?_) ?_
                    · refine stp (by with_unfolding_all rfl) (wp_fappG T_str hF12 (i := 2) rfl (Nat.le_refl _) (hF12.rdOwn (i := 0) rfl) (str_one1 _) (by with_unfolding_all exact ⟨_, _, rfl, rfl, rfl⟩) (by unfold maxLen; omega) (by omega) ?_)
                      intro v13 w13 hF13 hz13
                      (try simp only [List.set_cons_zero, List.set_cons_succ] at hF13)
                      obtain ⟨A13, c13, rfl, hc13⟩ := hF13.ownParts (i := 2) rfl
                      refine hK.out _ _ (trivial) (fun _ => ?_)
                      clear hK K
                      (try simp only [Act.put, List.setIfInBounds_toArray, List.set_cons_zero, List.set_cons_succ])
                      refine wpAnyH_take (i := 7) (v := ?_) (by simp only [List.getElem?_toArray, List.getElem?_cons_zero, List.getElem?_cons_succ]; rfl) (by kernel_rfl) (by kernel_rfl) (by kernel_rfl) (by exact fun _ _ _ h => h) (Or.inl ⟨by with_unfolding_all rfl, ?_⟩) trivial ?_
                      rotate_left
                      · (intro w hSw; (try dsimp only at hSw); go_simp; try with_reducible rfl)
                      (try simp only [Act.put, List.setIfInBounds_toArray, List.set_cons_zero, List.set_cons_succ])
                      refine wpAnyH_ready (rs := [8]) (by kernel_rfl) (by simp) ?_
                      refine AllReadyH.cons (by simp only [List.getElem?_toArray, List.getElem?_cons_zero, List.getElem?_cons_succ]; rfl) (fun K hK => ?_) ?_
                      · refine stp (by with_unfolding_all rfl) (wp_fst hF13 (i := 5) rfl (v := .slice A13 (us.length + 1) c13) (by with_unfolding_all exact ⟨_, _, rfl, rfl, rfl⟩) (by kernel_rfl) rfl rfl (by rw [rpL_length hd3.out]; omega) ?_)
                        intro w14 hF14 hz14
                        (try simp only [List.set_cons_zero, List.set_cons_succ] at hF14)
                        rw [rpL_36 hd3.out] at hF14
                        refine hK.out _ _ (trivial) (fun _ => ?_)
                        clear hK K
                        (try simp only [Act.put])
                        refine wpAnyH_done (by kernel_rfl) ?_ _
                        go_wp2_with fail
                        go_roundw
                        case rel => exact ⟨k + 1, _, _, _, A13, c13, by omega, by go_num, hst, hR11, by have h := hF14.tail.tail; simpa only [List.length_append, List.length_cons, List.length_nil, List.map_append, List.map_cons, List.map_nil, Nat.zero_add] using h⟩
                        case measure => simp [intOf]; omega
                      exact AllReadyH.nil
                    exact AllReadyH.nil
                  exact AllReadyH.nil
                exact AllReadyH.nil
              refine AllReadyH.cons (by simp only [List.getElem?_toArray, List.getElem?_cons_zero, List.getElem?_cons_succ]; rfl) (fun K hK => ?_) ?_
              · refine stp (by with_unfolding_all rfl) (wp_b2s T_u8 Try.underlying5 Try.underlying9 (hF11.rdOwn (i := 0) rfl) (by with_unfolding_all exact ⟨_, rfl, rfl⟩) ?_)
                refine hK.out _ _ (trivial) (fun _ => ?_)
                clear hK K
                (try simp only [Act.put, List.setIfInBounds_toArray, List.set_cons_zero, List.set_cons_succ])
                refine wpAnyH_ready (rs := [1, 5]) (by kernel_rfl) (by simp) ?_
                refine AllReadyH.cons (by simp only [List.getElem?_toArray, List.getElem?_cons_zero, List.getElem?_cons_succ]; rfl) (fun K hK => ?_) ?_
                · refine stp (by with_unfolding_all rfl) (wp_fld hF11 (i := 4) rfl Try.underlying44 rfl (by with_unfolding_all exact ⟨_, rfl, rfl⟩) (by exact (rpL_at hd3.out).2.2.2.1) ?_)
                  refine hK.out _ _ (trivial) (fun _ => ?_)
                  clear hK K
                  (try simp only [Act.put, List.setIfInBounds_toArray, List.set_cons_zero, List.set_cons_succ])
                  refine wpAnyH_ready (rs := [5]) (by kernel_rfl) (by simp) ?_
                  refine AllReadyH.cons (by simp only [List.getElem?_toArray, List.getElem?_cons_zero, List.getElem?_cons_succ]; rfl) (fun K hK => ?_) ?_
                  · refine stp (by with_unfolding_all rfl) (wp_fbsl T_str hF11 (vs := [.string ⟨(rText 128 (some lr)).1.toArray⟩]) (by with_unfolding_all rfl) (by with_unfolding_all rfl) (by with_unfolding_all rfl) (by decide) (by simp [Value.cells]) ?_)
                    intro w12 g12 hF12 hz12
                    refine hK.out _ _ (trivial) (fun _ => ?_)
                    clear hK K
                    (try simp only [Act.put, List.setIfInBounds_toArray, List.set_cons_zero, List.set_cons_succ])
                    refine wpAnyH_ready (rs := [6]) (by kernel_rfl) (by simp) ?_
                    refine AllReadyH.cons (by simp only [List.getElem?_toArray, List.getElem?_cons_zero, List.getElem?_cons_succ]; rfl) (fun K hK => ?_) ?_
                    · refine stp (by with_unfolding_all rfl) (wp_fappG T_str hF12 (i := 2) rfl (Nat.le_refl _) (hF12.rdOwn (i := 0) rfl) (str_one1 _) (by with_unfolding_all exact ⟨_, _, rfl, rfl, rfl⟩) (by unfold maxLen; omega) (by omega) ?_)
                      intro v13 w13 hF13 hz13
                      (try simp only [List.set_cons_zero, List.set_cons_succ] at hF13)
                      obtain ⟨A13, c13, rfl, hc13⟩ := hF13.ownParts (i := 2) rfl
                      refine hK.out _ _ (trivial) (fun _ => ?_)
                      clear hK K
                      (try simp only [Act.put, List.setIfInBounds_toArray, List.set_cons_zero, List.set_cons_succ])
                      refine wpAnyH_take (i := 7) (v := ?_) (by simp only [List.getElem?_toArray, List.getElem?_cons_zero, List.getElem?_cons_succ]; rfl) (by kernel_rfl) (by kernel_rfl) (by kernel_rfl) (by exact fun _ _ _ h => h) (Or.inl ⟨by with_unfolding_all rfl, ?_⟩) trivial ?_
                      rotate_left
                      · (intro w hSw; (try dsimp only at hSw); go_simp; try with_reducible rfl)
                      (try simp only [Act.put, List.setIfInBounds_toArray, List.set_cons_zero, List.set_cons_succ])
                      refine wpAnyH_ready (rs := [8]) (by kernel_rfl) (by simp) ?_
                      refine AllReadyH.cons (by simp only [List.getElem?_toArray, List.getElem?_cons_zero, List.getElem?_cons_succ]; rfl) (fun K hK => ?_) ?_
                      · refine stp (by with_unfolding_all rfl) (wp_fst hF13 (i := 5) rfl (v := .slice A13 (us.length + 1) c13) (by with_unfolding_all exact ⟨_, _, rfl, rfl, rfl⟩) (by kernel_rfl) rfl rfl (by rw [rpL_length hd3.out]; omega) ?_)
                        intro w14 hF14 hz14
                        (try simp only [List.set_cons_zero, List.set_cons_succ] at hF14)
                        rw [rpL_36 hd3.out] at hF14
                        refine hK.out _ _ (trivial) (fun _ => ?_)
                        clear hK K
                        (try simp only [Act.put])
                        refine wpAnyH_done (by kernel_rfl) ?_ _
                        go_wp2_with fail
                        go_roundw
                        case rel => exact ⟨k + 1, _, _, _, A13, c13, by omega, by go_num, hst, hR11, by have h := hF14.tail.tail; simpa only [List.length_append, List.length_cons, List.length_nil, List.map_append, List.map_cons, List.map_nil, Nat.zero_add] using h⟩
                        case measure => simp [intOf]; omega
                      exact AllReadyH.nil
                    exact AllReadyH.nil
                  exact AllReadyH.nil
                refine AllReadyH.cons (by simp only [List.getElem?_toArray, List.getElem?_cons_zero, List.getElem?_cons_succ]; rfl) (fun K hK => ?_) ?_
                · refine stp (by with_unfolding_all rfl) (wp_fbsl T_str hF11 (vs := [.string ⟨(rText 128 (some lr)).1.toArray⟩]) (by with_unfolding_all rfl) (by with_unfolding_all rfl) (by with_unfolding_all rfl) (by decide) (by simp [Value.cells]) ?_)
                  intro w12 g12 hF12 hz12
                  refine hK.out _ _ (trivial) (fun _ => ?_)
                  clear hK K
                  (try simp only [Act.put, List.setIfInBounds_toArray, List.set_cons_zero, List.set_cons_succ])
                  refine wpAnyH_ready (rs := [1]) (by kernel_rfl) (by simp) ?_
                  refine AllReadyH.cons (by simp only [List.getElem?_toArray, List.getElem?_cons_zero, List.getElem?_cons_succ]; rfl) (fun K hK => ?_) ?_
                  · refine stp (by with_unfolding_all rfl) (wp_fld hF12 (i := 5) rfl Try.underlying44 rfl (by with_unfolding_all exact ⟨_, rfl, rfl⟩) (by exact (rpL_at hd3.out).2.2.2.1) ?_)
                    refine hK.out _ _ (trivial) (fun _ => ?_)
                    clear hK K
                    (try simp only [Act.put, List.setIfInBounds_toArray, List.set_cons_zero, List.set_cons_succ])
                    refine wpAnyH_ready (rs := [6]) (by kernel_rfl) (by simp) ?_
                    refine AllReadyH.cons (by simp only [List.getElem?_toArray, List.getElem?_cons_zero, List.getElem?_cons_succ]; rfl) (fun K hK => ?_) ?_
                    · refine stp (by with_unfolding_all rfl) (wp_fappG T_str hF12 (i := 2) rfl (Nat.le_refl _) (hF12.rdOwn (i := 0) rfl) (str_one1 _) (by with_unfolding_all exact ⟨_, _, rfl, rfl, rfl⟩) (by unfold maxLen; omega) (by omega) ?_)
                      intro v13 w13 hF13 hz13
                      (try simp only [List.set_cons_zero, List.set_cons_succ] at hF13)
                      obtain ⟨A13, c13, rfl, hc13⟩ := hF13.ownParts (i := 2) rfl
                      refine hK.out _ _ (trivial) (fun _ => ?_)
                      clear hK K
                      (try simp only [Act.put, List.setIfInBounds_toArray, List.set_cons_zero, List.set_cons_succ])
                      refine wpAnyH_take (i := 7) (v := ?_) (by simp only [List.getElem?_toArray, List.getElem?_cons_zero, List.getElem?_cons_succ]; rfl) (by kernel_rfl) (by kernel_rfl) (by kernel_rfl) (by exact fun _ _ _ h => h) (Or.inl ⟨by with_unfolding_all rfl, ?_⟩) trivial ?_
                      rotate_left
                      · (intro w hSw; (try dsimp only at hSw); go_simp; try with_reducible rfl)
                      (try simp only [Act.put, List.setIfInBounds_toArray, List.set_cons_zero, List.set_cons_succ])
                      refine wpAnyH_ready (rs := [8]) (by kernel_rfl) (by simp) ?_
                      refine AllReadyH.cons (by simp only [List.getElem?_toArray, List.getElem?_cons_zero, List.getElem?_cons_succ]; rfl) (fun K hK => ?_) ?_
                      · refine stp (by with_unfolding_all rfl) (wp_fst hF13 (i := 5) rfl (v := .slice A13 (us.length + 1) c13) (by with_unfolding_all exact ⟨_, _, rfl, rfl, rfl⟩) (by kernel_rfl) rfl rfl (by rw [rpL_length hd3.out]; omega) ?_)
                        intro w14 hF14 hz14
                        (try simp only [List.set_cons_zero, List.set_cons_succ] at hF14)
                        rw [rpL_36 hd3.out] at hF14
                        refine hK.out _ _ (trivial) (fun _ => ?_)
                        clear hK K
                        (try simp only [Act.put])
                        refine wpAnyH_done (by kernel_rfl) ?_ _
                        go_wp2_with fail
                        go_roundw
                        case rel => exact ⟨k + 1, _, _, _, A13, c13, by omega, by go_num, hst, hR11, by have h := hF14.tail.tail; simpa only [List.length_append, List.length_cons, List.length_nil, List.map_append, List.map_cons, List.map_nil, Nat.zero_add] using h⟩
                        case measure => simp [intOf]; omega
                      exact AllReadyH.nil
                    exact AllReadyH.nil
                  exact AllReadyH.nil
                exact AllReadyH.nil
              exact AllReadyH.nil
            exact AllReadyH.nil
          · have hend : ws = (us, s) := by
              rw [hws.out]
              by_cases hlt : k < k1.1
              · have h0 : okr = false := by simpa [hlt] using hgo
                subst h0
                have hs1 : s = none := by rw [hsr.out]; rfl
                subst hs1
                exact HW.out.none_
              · exact HW.out.all (by omega)
            have hgo' : (decide (k < k1.1) && okr) = false := by simpa using hgo
            have husl : us.length ≤ 100 := by have := HW.out.2; omega
            rw [hgo']
            clear hgo hgo' HW hws hsr hrr hncr
            subst hend
            replace hj1 : Box (j1 = rCount s) := hj1
            go_wp2_with fail
            refine (rdCount_any w.heap.size g2 (l.length + 1) s _ w _ hF.below (Nat.le_refl _) hF.heap4 hRs (by omega)).mono ?_
            rintro e w21 ⟨cs21, rfl, hg21, hh21, hR21⟩
            rw [← hj1.out] at hR21 ⊢
            have hF21 := hF.put4 hg21 hh21
            clear hF hRs hg21 hh21
            by_cases hbig2 : 4096 < j1.1
            · have hno : Box (decRep (x :: l) = none) := box (by rw [hdec.out, if_neg hbig, if_pos hbig2])
              have b8 : decide (4096 < (j1.1 : Int)) = true := by simp; omega
              go_wp2_with (first | (with_reducible refine lst (by with_unfolding_all rfl) (wp_fbuild Try.underlying51 (z := .agg (List.toArray rp0)) (by kernel_rfl) (pl := rpP) (by kernel_rfl) (cs := rp0) rfl (vs := []) (by with_unfolding_all rfl) (by with_unfolding_all exact rp0_fill) ?_)) | ((with_reducible refine lst (by with_unfolding_all rfl) (wp_fstA5 hF21 (by with_unfolding_all exact ⟨_, _, rfl, rfl, rfl⟩) (by kernel_rfl) (by decide +kernel) (by simp) (spl_all rfl) ?_)); intro w22 hF22 hz22))
              refine bodyPost_ret (results_cellF2_5 hF22 rfl _ rfl Try.underlying51 rfl (by kernel_rfl)) rfl ?_
              rw [hno.out]
              exact ⟨none, none, none, 0, 0, 0, rfl, told_none hF22⟩
            · have b8 : decide (4096 < (j1.1 : Int)) = false := by simp; omega
              have hj4 : j1.1 ≤ 4096 := by omega
              go_wp2_with fail
              go_loopw [8] (fun i wr => ∃ (k : Nat) (vs : List (List UInt8)) (s : Option (List UInt8)) (cs : List Value) (C' : Option Addr) (d' : Nat), k ≤ j1.1 ∧ i = .int .i64 k ∧ Box (SAt j1.1 j1.2 k vs s) ∧ RdrAt w w.heap.size (l.length + 1) s cs ∧ Fr [] w wr [.own w.heap.size 9 1 (.slice A' us.length c') us.length (us.map Value.string), .own w.heap.size 29 32 (.slice C' vs.length d') vs.length (sumC vs), Ent.bytes w.heap.size 5 (.slice A17 t4.1.length c17) t4.1, .blk g3 51 (rpL (.int .i64 (x.toNat : Int)) (d1.1.map bv) (.int .i64 (n1.1 : Int)) (.int .i64 (n2.1 : Int)) (.slice A17 t4.1.length c17) (.slice A' us.length c') (.slice C' vs.length d')), .blk g2 72 cs, .blk g1 51 rp0]) (fun i _ => j1.1 - (intOf i).toNat)
              case atStart => exact ⟨0, [], _, _, none, 0, by omega, rfl, box (SAt.zero _ _), hR21, hF21⟩
              case round =>
                clear hF21 hR21
                obtain ⟨k, vs, s, cs, C', d', hk, rfl, HW, hRs, hF⟩ := hrel
                obtain ⟨Ar, nr, cr, lr, okr, rfl, hrr, hncr, hnr, hsr⟩ := hRs.ex
                go_upto_region 19 with fail
                go_cut [71] (fun s71 wx => wx = wr ∧ s71 = .bool (decide (k < j1.1) && okr))
                case first =>
                  by_cases hlt : k < j1.1
                  · have e9 : (decide (k < j1.1) && okr) = okr := by simp [hlt]
                    go_wp2_with (first | (with_reducible refine lst (by with_unfolding_all rfl) (wp_fld4 hF Try.underlying4 rfl (by with_unfolding_all exact ⟨_, rfl, rfl⟩) (by first | with_unfolding_all rfl | assumption) ?_)))
                    go_meet
                    exact ⟨rfl, by rw [e9]⟩
                  · have e9 : (decide (k < j1.1) && okr) = false := by simp [hlt]
                    go_wp2
                    go_meet
                    exact ⟨rfl, by rw [e9]⟩
                case rest =>
                  obtain ⟨rfl, rfl⟩ := hcut
                  by_cases hgo : (decide (k < j1.1) && okr) = true
                  · rw [hgo]
                    simp only [Bool.and_eq_true, decide_eq_true_eq] at hgo
                    obtain ⟨hlt, rfl⟩ := hgo
                    go_upto_region 21 with fail
                    have hs1 : s = some lr := by rw [hsr.out, if_pos rfl]
                    subst hs1
                    have hRx : RdrAt w w.heap.size (l.length + 1) (some lr) [.slice Ar nr cr, .bool true] := ⟨Ar, nr, cr, lr, true, rfl, hrr, hncr, hnr, box rfl⟩
                    have hus : vs.length = k := HW.out.2.1
                    have hst := box (HW.out.step hlt)
                    have hFd := hF.drew
                    refine wp_region_held (S := fun _ => True) (by kernel_rfl) ?_
                    change wpAnyH _ _ _ _ _ _ _ _ (World.drew _)
                    refine wpAnyH_take (i := 0) (v := ?_) (by simp only [List.getElem?_toArray, List.getElem?_cons_zero]; rfl) (by kernel_rfl) (by kernel_rfl) (by kernel_rfl) (by exact fun _ _ _ h => h) (Or.inl ⟨by with_unfolding_all rfl, ?_⟩) trivial ?_
                    rotate_left
                    · (intro w hSw; (try dsimp only at hSw); go_simp; try with_reducible rfl)
                    (try simp only [Act.put, List.setIfInBounds_toArray, List.set_cons_zero, List.set_cons_succ])
                    refine wpAnyH_take (i := 2) (v := ?_) (by simp only [List.getElem?_toArray, List.getElem?_cons_zero, List.getElem?_cons_succ]; rfl) (by kernel_rfl) (by kernel_rfl) (by kernel_rfl) (by exact fun _ _ _ h => h) (Or.inl ⟨by with_unfolding_all rfl, ?_⟩) trivial ?_
                    rotate_left
                    · (intro w hSw; (try dsimp only at hSw); go_simp; try with_reducible rfl)
                    (try simp only [Act.put, List.setIfInBounds_toArray, List.set_cons_zero, List.set_cons_succ])
                    refine wpAnyH_ready (rs := [1, 3]) (by kernel_rfl) (by simp) ?_
                    refine AllReadyH.cons (by simp only [List.getElem?_toArray, List.getElem?_cons_zero, List.getElem?_cons_succ]; rfl) (fun K hK => ?_) ?_
                    · refine stp (by with_unfolding_all rfl) (wp_fld hFd (i := 3) rfl Try.underlying49 rfl (by with_unfolding_all exact ⟨_, rfl, rfl⟩) (by exact (rpL_at hd3.out).2.2.2.2) ?_)
                      refine hK.out _ _ (trivial) (fun _ => ?_)
                      clear hK K
                      (try simp only [Act.put, List.setIfInBounds_toArray, List.set_cons_zero, List.set_cons_succ])
                      refine wpAnyH_ready (rs := [3]) (by kernel_rfl) (by simp) ?_
                      refine AllReadyH.cons (by simp only [List.getElem?_toArray, List.getElem?_cons_zero, List.getElem?_cons_succ]; rfl) (fun K hK => ?_) ?_
                      · refine stp (by with_unfolding_all rfl) (wp_call Try.func32 rfl (by with_unfolding_all rfl) (by with_unfolding_all rfl) (by with_unfolding_all rfl) (rdSum_any w.heap.size g2 (l.length + 1) (some lr) _ w _ hFd.below (Nat.le_refl _) hg2 (hFd.blk (i := 4) rfl) hRx) ?_)
                        rintro e w11 ⟨cs11, rfl, hg11, hh11, hR11⟩
                        refine ⟨_, rfl, ?_⟩
                        have hF11 := hFd.put (i := 4) (e' := .blk _ _ cs11) rfl hg11 hh11 (.inl rfl)
                        (try simp only [List.set_cons_zero, List.set_cons_succ] at hF11)
                        refine hK.out _ _ (trivial) (fun _ => ?_)
                        clear hK K
                        (try simp only [Act.put, List.setIfInBounds_toArray, List.set_cons_zero, List.set_cons_succ])
                        refine wpAnyH_ready (rs := [4]) (by kernel_rfl) (by simp) ?_
                        refine AllReadyH.cons (by simp only [List.getElem?_toArray, List.getElem?_cons_zero, List.getElem?_cons_succ]; rfl) (fun K hK => ?_) ?_
                        · refine stp (by with_unfolding_all rfl) (wp_fbs1 T_digs hF11 (by with_unfolding_all rfl) (ds := ((rSum (some lr)).1.map bv)) (by with_unfolding_all rfl) (by rw [List.length_map]; exact rSum_len _) (by decide) ?_)
                          intro w12 g12 hF12 hz12
                          refine hK.out _ _ (trivial) (fun _ => ?_)
                          clear hK K
                          (try simp only [Act.put, List.setIfInBounds_toArray, List.set_cons_zero, List.set_cons_succ])
                          refine wpAnyH_ready (rs := [5]) (by kernel_rfl) (by simp) ?_
                          refine AllReadyH.cons (by simp only [List.getElem?_toArray, List.getElem?_cons_zero, List.getElem?_cons_succ]; rfl) (fun K hK => ?_) ?_
                          · refine stp (by with_unfolding_all rfl) (wp_fappG T_digs hF12 (i := 2) rfl (Nat.le_refl _) (hF12.rdOwn (i := 0) rfl) (bv_one _) (by with_unfolding_all exact ⟨_, _, rfl, rfl, rfl⟩) (by unfold maxLen; omega) (by omega) ?_)
                            intro v13 w13 hF13 hz13
                            (try simp only [List.set_cons_zero, List.set_cons_succ] at hF13)
                            obtain ⟨A13, c13, rfl, hc13⟩ := hF13.ownParts (i := 2) rfl
                            refine hK.out _ _ (trivial) (fun _ => ?_)
                            clear hK K
                            (try simp only [Act.put, List.setIfInBounds_toArray, List.set_cons_zero, List.set_cons_succ])
                            refine wpAnyH_take (i := 6) (v := ?_) (by simp only [List.getElem?_toArray, List.getElem?_cons_zero, List.getElem?_cons_succ]; rfl) (by kernel_rfl) (by kernel_rfl) (by kernel_rfl) (by exact fun _ _ _ h => h) (Or.inl ⟨by with_unfolding_all rfl, ?_⟩) trivial ?_
                            rotate_left
                            · (intro w hSw; (try dsimp only at hSw); go_simp; try with_reducible rfl)
                            (try simp only [Act.put, List.setIfInBounds_toArray, List.set_cons_zero, List.set_cons_succ])
                            refine wpAnyH_ready (rs := [7]) (by kernel_rfl) (by simp) ?_
                            refine AllReadyH.cons (by simp only [List.getElem?_toArray, List.getElem?_cons_zero, List.getElem?_cons_succ]; rfl) (fun K hK => ?_) ?_
                            · refine stp (by with_unfolding_all rfl) (wp_fst hF13 (i := 4) rfl (v := .slice A13 (vs.length + 1) c13) (by with_unfolding_all exact ⟨_, _, rfl, rfl, rfl⟩) (by kernel_rfl) rfl rfl (by rw [rpL_length hd3.out]; omega) ?_)
                              intro w14 hF14 hz14
                              (try simp only [List.set_cons_zero, List.set_cons_succ] at hF14)
                              rw [rpL_37 hd3.out] at hF14
                              refine hK.out _ _ (trivial) (fun _ => ?_)
                              clear hK K
                              (try simp only [Act.put])
                              refine wpAnyH_done (by kernel_rfl) ?_ _
                              go_wp2_with fail
                              go_roundw
                              case rel => exact ⟨k + 1, _, _, _, A13, c13, by omega, by go_num, hst, hR11, by have h := hF14.tail; simpa only [sumC_snoc, List.length_append, List.length_cons, List.length_nil, List.map_append, List.map_cons, List.map_nil, Nat.zero_add] using h⟩
                              case measure => simp [intOf]; omega
                            exact AllReadyH.nil
                          exact AllReadyH.nil
                        exact AllReadyH.nil
                      exact AllReadyH.nil
                    refine AllReadyH.cons (by simp only [List.getElem?_toArray, List.getElem?_cons_zero, List.getElem?_cons_succ]; rfl) (fun K hK => ?_) ?_
                    · refine stp (by with_unfolding_all rfl) (wp_call Try.func32 rfl (by with_unfolding_all rfl) (by with_unfolding_all rfl) (by with_unfolding_all rfl) (rdSum_any w.heap.size g2 (l.length + 1) (some lr) _ w _ hFd.below (Nat.le_refl _) hg2 (hFd.blk (i := 4) rfl) hRx) ?_)
                      rintro e w11 ⟨cs11, rfl, hg11, hh11, hR11⟩
                      refine ⟨_, rfl, ?_⟩
                      have hF11 := hFd.put (i := 4) (e' := .blk _ _ cs11) rfl hg11 hh11 (.inl rfl)
                      (try simp only [List.set_cons_zero, List.set_cons_succ] at hF11)
                      refine hK.out _ _ (trivial) (fun _ => ?_)
                      clear hK K
                      (try simp only [Act.put, List.setIfInBounds_toArray, List.set_cons_zero, List.set_cons_succ])
                      refine wpAnyH_ready (rs := [1, 4]) (by kernel_rfl) (by simp) ?_
                      refine AllReadyH.cons (by simp only [List.getElem?_toArray, List.getElem?_cons_zero, List.getElem?_cons_succ]; rfl) (fun K hK => ?_) ?_
                      · refine stp (by with_unfolding_all rfl) (wp_fld hF11 (i := 3) rfl Try.underlying49 rfl (by with_unfolding_all exact ⟨_, rfl, rfl⟩) (by exact (rpL_at hd3.out).2.2.2.2) ?_)
                        refine hK.out _ _ (trivial) (fun _ => ?_)
                        clear hK K
                        (try simp only [Act.put, List.setIfInBounds_toArray, List.set_cons_zero, List.set_cons_succ])
                        refine wpAnyH_ready (rs := [4]) (by kernel_rfl) (by simp) ?_
                        refine AllReadyH.cons (by simp only [List.getElem?_toArray, List.getElem?_cons_zero, List.getElem?_cons_succ]; rfl) (fun K hK => ?_) ?_
                        · refine stp (by with_unfolding_all rfl) (wp_fbs1 T_digs hF11 (by with_unfolding_all rfl) (ds := ((rSum (some lr)).1.map bv)) (by with_unfolding_all rfl) (by rw [List.length_map]; exact rSum_len _) (by decide) ?_)
                          intro w12 g12 hF12 hz12
                          refine hK.out _ _ (trivial) (fun _ => ?_)
                          clear hK K
                          (try simp only [Act.put, List.setIfInBounds_toArray, List.set_cons_zero, List.set_cons_succ])
                          refine wpAnyH_ready (rs := [5]) (by kernel_rfl) (by simp) ?_
                          refine AllReadyH.cons (by simp only [List.getElem?_toArray, List.getElem?_cons_zero, List.getElem?_cons_succ]; rfl) (fun K hK => ?_) ?_
                          · refine stp (by with_unfolding_all rfl) (wp_fappG T_digs hF12 (i := 2) rfl (Nat.le_refl _) (hF12.rdOwn (i := 0) rfl) (bv_one _) (by with_unfolding_all exact ⟨_, _, rfl, rfl, rfl⟩) (by unfold maxLen; omega) (by omega) ?_)
                            intro v13 w13 hF13 hz13
                            (try simp only [List.set_cons_zero, List.set_cons_succ] at hF13)
                            obtain ⟨A13, c13, rfl, hc13⟩ := hF13.ownParts (i := 2) rfl
                            refine hK.out _ _ (trivial) (fun _ => ?_)
                            clear hK K
                            (try simp only [Act.put, List.setIfInBounds_toArray, List.set_cons_zero, List.set_cons_succ])
                            refine wpAnyH_take (i := 6) (v := ?_) (by simp only [List.getElem?_toArray, List.getElem?_cons_zero, List.getElem?_cons_succ]; rfl) (by kernel_rfl) (by kernel_rfl) (by kernel_rfl) (by exact fun _ _ _ h => h) (Or.inl ⟨by with_unfolding_all rfl, ?_⟩) trivial ?_
                            rotate_left
                            · (intro w hSw; (try dsimp only at hSw); go_simp; try with_reducible rfl)
                            (try simp only [Act.put, List.setIfInBounds_toArray, List.set_cons_zero, List.set_cons_succ])
                            refine wpAnyH_ready (rs := [7]) (by kernel_rfl) (by simp) ?_
                            refine AllReadyH.cons (by simp only [List.getElem?_toArray, List.getElem?_cons_zero, List.getElem?_cons_succ]; rfl) (fun K hK => ?_) ?_
                            · refine stp (by with_unfolding_all rfl) (wp_fst hF13 (i := 4) rfl (v := .slice A13 (vs.length + 1) c13) (by with_unfolding_all exact ⟨_, _, rfl, rfl, rfl⟩) (by kernel_rfl) rfl rfl (by rw [rpL_length hd3.out]; omega) ?_)
                              intro w14 hF14 hz14
                              (try simp only [List.set_cons_zero, List.set_cons_succ] at hF14)
                              rw [rpL_37 hd3.out] at hF14
                              refine hK.out _ _ (trivial) (fun _ => ?_)
                              clear hK K
                              (try simp only [Act.put])
                              refine wpAnyH_done (by kernel_rfl) ?_ _
                              go_wp2_with fail
                              go_roundw
                              case rel => exact ⟨k + 1, _, _, _, A13, c13, by omega, by go_num, hst, hR11, by have h := hF14.tail; simpa only [sumC_snoc, List.length_append, List.length_cons, List.length_nil, List.map_append, List.map_cons, List.map_nil, Nat.zero_add] using h⟩
                              case measure => simp [intOf]; omega
                            exact AllReadyH.nil
                          exact AllReadyH.nil
                        exact AllReadyH.nil
                      refine AllReadyH.cons (by simp only [List.getElem?_toArray, List.getElem?_cons_zero, List.getElem?_cons_succ]; rfl) (fun K hK => ?_) ?_
                      · refine stp (by with_unfolding_all rfl) (wp_fbs1 T_digs hF11 (by with_unfolding_all rfl) (ds := ((rSum (some lr)).1.map bv)) (by with_unfolding_all rfl) (by rw [List.length_map]; exact rSum_len _) (by decide) ?_)
                        intro w12 g12 hF12 hz12
                        refine hK.out _ _ (trivial) (fun _ => ?_)
                        clear hK K
                        (try simp only [Act.put, List.setIfInBounds_toArray, List.set_cons_zero, List.set_cons_succ])
                        refine wpAnyH_ready (rs := [1]) (by kernel_rfl) (by simp) ?_
                        refine AllReadyH.cons (by simp only [List.getElem?_toArray, List.getElem?_cons_zero, List.getElem?_cons_succ]; rfl) (fun K hK => ?_) ?_
                        · refine stp (by with_unfolding_all rfl) (wp_fld hF12 (i := 4) rfl Try.underlying49 rfl (by with_unfolding_all exact ⟨_, rfl, rfl⟩) (by exact (rpL_at hd3.out).2.2.2.2) ?_)
                          refine hK.out _ _ (trivial) (fun _ => ?_)
                          clear hK K
                          (try simp only [Act.put, List.setIfInBounds_toArray, List.set_cons_zero, List.set_cons_succ])
                          refine wpAnyH_ready (rs := [5]) (by kernel_rfl) (by simp) ?_
                          refine AllReadyH.cons (by simp only [List.getElem?_toArray, List.getElem?_cons_zero, List.getElem?_cons_succ]; rfl) (fun K hK => ?_) ?_
                          · refine stp (by with_unfolding_all rfl) (wp_fappG T_digs hF12 (i := 2) rfl (Nat.le_refl _) (hF12.rdOwn (i := 0) rfl) (bv_one _) (by with_unfolding_all exact ⟨_, _, rfl, rfl, rfl⟩) (by unfold maxLen; omega) (by omega) ?_)
                            intro v13 w13 hF13 hz13
                            (try simp only [List.set_cons_zero, List.set_cons_succ] at hF13)
                            obtain ⟨A13, c13, rfl, hc13⟩ := hF13.ownParts (i := 2) rfl
                            refine hK.out _ _ (trivial) (fun _ => ?_)
                            clear hK K
                            (try simp only [Act.put, List.setIfInBounds_toArray, List.set_cons_zero, List.set_cons_succ])
                            refine wpAnyH_take (i := 6) (v := ?_) (by simp only [List.getElem?_toArray, List.getElem?_cons_zero, List.getElem?_cons_succ]; rfl) (by kernel_rfl) (by kernel_rfl) (by kernel_rfl) (by exact fun _ _ _ h => h) (Or.inl ⟨by with_unfolding_all rfl, ?_⟩) trivial ?_
                            rotate_left
                            · (intro w hSw; (try dsimp only at hSw); go_simp; try with_reducible rfl)
                            (try simp only [Act.put, List.setIfInBounds_toArray, List.set_cons_zero, List.set_cons_succ])
                            refine wpAnyH_ready (rs := [7]) (by kernel_rfl) (by simp) ?_
                            refine AllReadyH.cons (by simp only [List.getElem?_toArray, List.getElem?_cons_zero, List.getElem?_cons_succ]; rfl) (fun K hK => ?_) ?_
                            · refine stp (by with_unfolding_all rfl) (wp_fst hF13 (i := 4) rfl (v := .slice A13 (vs.length + 1) c13) (by with_unfolding_all exact ⟨_, _, rfl, rfl, rfl⟩) (by kernel_rfl) rfl rfl (by rw [rpL_length hd3.out]; omega) ?_)
                              intro w14 hF14 hz14
                              (try simp only [List.set_cons_zero, List.set_cons_succ] at hF14)
                              rw [rpL_37 hd3.out] at hF14
                              refine hK.out _ _ (trivial) (fun _ => ?_)
                              clear hK K
                              (try simp only [Act.put])
                              refine wpAnyH_done (by kernel_rfl) ?_ _
                              go_wp2_with fail
                              go_roundw
                              case rel => exact ⟨k + 1, _, _, _, A13, c13, by omega, by go_num, hst, hR11, by have h := hF14.tail; simpa only [sumC_snoc, List.length_append, List.length_cons, List.length_nil, List.map_append, List.map_cons, List.map_nil, Nat.zero_add] using h⟩
                              case measure => simp [intOf]; omega
                            exact AllReadyH.nil
                          exact AllReadyH.nil
                        exact AllReadyH.nil
                      exact AllReadyH.nil
                    exact AllReadyH.nil
                  · have hend : ss = (vs, s) := by
                      rw [hss.out]
                      by_cases hlt : k < j1.1
                      · have h0 : okr = false := by simpa [hlt] using hgo
                        subst h0
                        have hs1 : s = none := by rw [hsr.out]; rfl
                        subst hs1
                        exact HW.out.none_
                      · exact HW.out.all (by omega)
                    have hgo' : (decide (k < j1.1) && okr) = false := by simpa using hgo
                    rw [hgo']
                    clear hgo hgo' HW hss
                    subst hend
                    cases okr with
                    | false =>
                      have hno : Box (decRep (x :: l) = none) := box (by rw [hdec.out, if_neg hbig, if_neg hbig2, if_neg (by show ¬ s = some []; rw [hsr.out]; simp)])
                      go_wp2_with (first | (with_reducible refine lst (by with_unfolding_all rfl) (wp_fld4 hF Try.underlying4 rfl (by with_unfolding_all exact ⟨_, rfl, rfl⟩) (by first | with_unfolding_all rfl | assumption) ?_)) | (with_reducible refine lst (by with_unfolding_all rfl) (wp_fld4 hF Try.underlying23 rfl (by with_unfolding_all exact ⟨_, rfl, rfl⟩) (by first | with_unfolding_all rfl | assumption) ?_)) | (with_reducible refine lst (by with_unfolding_all rfl) (wp_fbuild Try.underlying51 (z := .agg (List.toArray rp0)) (by kernel_rfl) (pl := rpP) (by kernel_rfl) (cs := rp0) rfl (vs := []) (by with_unfolding_all rfl) (by with_unfolding_all exact rp0_fill) ?_)) | ((with_reducible refine lst (by with_unfolding_all rfl) (wp_fstA5 hF (by with_unfolding_all exact ⟨_, _, rfl, rfl, rfl⟩) (by kernel_rfl) (by decide +kernel) (by simp) (spl_all rfl) ?_)); intro w23 hF23 hz23))
                      refine bodyPost_ret (results_cellF2_5 hF23 rfl _ rfl Try.underlying51 rfl (by kernel_rfl)) rfl ?_
                      rw [hno.out]
                      exact ⟨none, none, none, 0, 0, 0, rfl, told_none hF23⟩
                    | true =>
                      by_cases hnr0 : nr = 0
                      · subst hnr0
                        obtain rfl : lr = [] := List.eq_nil_of_length_eq_zero hrr.bytes_len
                        have hyes : Box (decRep (x :: l) = some ⟨(x.toNat : Int), d1.1, n1.1, n2.1, t4.1, us, vs⟩) := box (by rw [hdec.out, if_neg hbig, if_neg hbig2, if_pos (by show s = some []; rw [hsr.out]; rfl)]; rfl)
                        go_wp2_with (first | (with_reducible refine lst (by with_unfolding_all rfl) (wp_fld4 hF Try.underlying4 rfl (by with_unfolding_all exact ⟨_, rfl, rfl⟩) (by first | with_unfolding_all rfl | assumption) ?_)) | (with_reducible refine lst (by with_unfolding_all rfl) (wp_fld4 hF Try.underlying23 rfl (by with_unfolding_all exact ⟨_, rfl, rfl⟩) (by first | with_unfolding_all rfl | assumption) ?_)) | (with_reducible refine lst (by with_unfolding_all rfl) (wp_fldA3 hF Try.underlying51 rfl (by with_unfolding_all exact ⟨_, rfl, rfl⟩) (ds := (rpL (.int .i64 (x.toNat : Int)) (d1.1.map bv) (.int .i64 (n1.1 : Int)) (.int .i64 (n2.1 : Int)) (.slice A17 t4.1.length c17) (.slice A' us.length c') (.slice C' vs.length d'))) (by rw [rpL_length hd3.out]; kernel_rfl) (take_all _) ?_)) | ((with_reducible refine lst (by with_unfolding_all rfl) (wp_fstA5 hF (by with_unfolding_all exact ⟨_, _, rfl, rfl, rfl⟩) (by rw [rpL_length hd3.out]; kernel_rfl) (rpL_one (bv_one _) rfl rfl rfl rfl rfl rfl) (by rw [rpL_length hd3.out, rp0, rpL_length hz0.out]; omega) (spl_all (by rw [rpL_length hd3.out, rp0, rpL_length hz0.out])) ?_)); intro w23 hF23 hz23))
                        refine bodyPost_ret (results_cellF2_5 hF23 rfl _ rfl Try.underlying51 rfl (by rw [rpL_length hd3.out]; kernel_rfl)) rfl ?_
                        rw [hyes.out]
                        exact ⟨A17, A', C', c17, c', d', rfl, hF23.pick3 (i := 2) (j := 0) (k := 1) rfl rfl rfl (by decide) (by decide) (by decide)⟩
                      · have hno : Box (decRep (x :: l) = none) := box (by
                          rw [hdec.out, if_neg hbig, if_neg hbig2, if_neg]
                          show ¬ s = some []
                          rw [hsr.out, if_pos rfl]
                          intro h
                          injection h with h
                          subst h
                          exact hnr0 (hrr.bytes_len.symm))
                        have b9 : decide (0 < (nr : Int)) = true := by simp; omega
                        go_wp2_with (first | (with_reducible refine lst (by with_unfolding_all rfl) (wp_fld4 hF Try.underlying4 rfl (by with_unfolding_all exact ⟨_, rfl, rfl⟩) (by first | with_unfolding_all rfl | assumption) ?_)) | (with_reducible refine lst (by with_unfolding_all rfl) (wp_fld4 hF Try.underlying23 rfl (by with_unfolding_all exact ⟨_, rfl, rfl⟩) (by first | with_unfolding_all rfl | assumption) ?_)) | (with_reducible refine lst (by with_unfolding_all rfl) (wp_fbuild Try.underlying51 (z := .agg (List.toArray rp0)) (by kernel_rfl) (pl := rpP) (by kernel_rfl) (cs := rp0) rfl (vs := []) (by with_unfolding_all rfl) (by with_unfolding_all exact rp0_fill) ?_)) | ((with_reducible refine lst (by with_unfolding_all rfl) (wp_fstA5 hF (by with_unfolding_all exact ⟨_, _, rfl, rfl, rfl⟩) (by kernel_rfl) (by decide +kernel) (by simp) (spl_all rfl) ?_)); intro w23 hF23 hz23))
                        refine bodyPost_ret (results_cellF2_5 hF23 rfl _ rfl Try.underlying51 rfl (by kernel_rfl)) rfl ?_
                        rw [hno.out]
                        exact ⟨none, none, none, 0, 0, 0, rfl, told_none hF23⟩
end Go.Proofs.Ytcnjnkkdidpjiaa
