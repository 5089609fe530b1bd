/-
  Layer 14: the walk of Decode.
-/
import Derived.Test.YtpdbjhgphgcjoaaDoorJ09
import Derived.Test.YtpdbjhgphgcjoaaDoorJ12
import Derived.Test.YtpdbjhgphgcjoaaDoorJ13
import Derived.Deep.DeepCutAuto
namespace Go.Proofs.YtpdbjhgphgcjoaaDoor
open Go.RowKit

set_option maxRecDepth 20000 in
set_option maxHeartbeats 3200000 in
theorem dec_any (A : Option Addr) (n c : Nat) (l : List UInt8) (w : World) (hM : MaxW w) (hm : n ≤ 140737488355000) (hnc : n ≤ c) (hr : Rd w (· < w.heap.size) A 1 n (l.map bv)) :
    Calls Tryd.prog 14 #[.slice A n c] w fun e w' => e = .returned (.tuple #[.agg (recD l).1.cells.toArray, .int .i64 (recD l).2]) ∧ Below w.heap.size w w' := by
  have hl := hr.bytes_len
  have hF0 := Fr.nil w
  have hz0 := box rc0_len
  by_cases h0 : n = 0
  · subst h0
    obtain rfl : l = [] := List.eq_nil_of_length_eq_zero hl
    go_enter Tryd.func14, Tryd.ntmps14
    go_wp2_with (first | ((with_reducible refine lst (by with_unfolding_all rfl) (wp_falloc hF0 (cs := rc0) (z := .agg (List.toArray (rc0))) rfl (by kernel_rfl) (by with_unfolding_all rfl) ?_)); intro w1 g1 hF1 hz1) | (with_reducible refine lst (by with_unfolding_all rfl) (wp_fbuild Tryd.underlying31 (z := .agg (List.toArray rc0)) (by kernel_rfl) (pl := rcP) (by kernel_rfl) (cs := rc0) rfl (vs := []) (by with_unfolding_all rfl) (by with_unfolding_all exact rc0_fill) ?_)) | ((with_reducible refine lst (by with_unfolding_all rfl) (wp_fstA0 hF1 (by with_unfolding_all exact ⟨_, _, rfl, rfl, rfl⟩) (by rw [hz0.out]; kernel_rfl) rc0_one (by rw [hz0.out]; omega) (spl_all rfl) ?_)); intro w2 hF2 hz2))
    exact bodyPost_ret (results_cellF2_0 hF2 rfl _ rfl Tryd.underlying31 rfl (by rw [hz0.out]; kernel_rfl)) rfl ⟨rfl, hF2.below⟩
  obtain ⟨x, hx⟩ : ∃ x, l[0]? = some x := ⟨l[0]'(by omega), by simp⟩
  have hxb := x.toNat_lt
  have hD : recD l = if (rdt (l.drop 1) 128).2.2 = 0 then
      if (rdt (l.drop (1 + (rdt (l.drop 1) 128).2.1)) 128).2.2 = 0 then
        recM (x.toNat : Int) (rdt (l.drop 1) 128).1 (rdt (l.drop (1 + (rdt (l.drop 1) 128).2.1)) 128).1 (l.drop (1 + (rdt (l.drop 1) 128).2.1 + (rdt (l.drop (1 + (rdt (l.drop 1) 128).2.1)) 128).2.1))
      else recF
    else recF := by unfold recD; rw [hx]
  have hu1 := rdt_snd (l.drop 1) 128
  have ha1 := rdt_most (l.drop 1)
  have he1 := rdt_err (l.drop 1) 128
  have hq1 := box (fun A n c w hm hnc hr => readText_any A n c (l.drop 1) 128 w hm hnc (by decide) hr)
  generalize rdt (l.drop 1) 128 = r1 at *
  obtain ⟨x1, u1, e1⟩ := r1
  simp only [] at hD hu1 he1 ha1 hq1
  rw [List.length_drop, hl] at hu1
  have hu2 := rdt_snd (l.drop (1 + u1)) 128
  have ha2 := rdt_most (l.drop (1 + u1))
  have he2 := rdt_err (l.drop (1 + u1)) 128
  have hq2 := box (fun A n c w hm hnc hr => readText_any A n c (l.drop (1 + u1)) 128 w hm hnc (by decide) hr)
  generalize rdt (l.drop (1 + u1)) 128 = r2 at *
  obtain ⟨x2, u2, e2⟩ := r2
  simp only [] at hD hu2 he2 ha2 hq2
  rw [List.length_drop, hl] at hu2
  generalize hDl : recD l = D at *
  clear hDl
  have hlb := box hl
  have hxx := box hx
  clear hx hl
  go_enter Tryd.func14, Tryd.ntmps14
  go_wp2_with (first | ((with_reducible refine lst (by with_unfolding_all rfl) (wp_falloc hF0 (cs := rc0) (z := .agg (List.toArray (rc0))) rfl (by kernel_rfl) (by with_unfolding_all rfl) ?_)); intro w1 g1 hF1 hz1) | (with_reducible refine lst (by with_unfolding_all rfl) (wp_indexAddr T_u8 (hF1.rdOld hr) (by with_unfolding_all exact ⟨_, _, _, _, rfl, rfl, rfl⟩) (by omega) (by omega) ?_)) | (with_reducible refine lst (by with_unfolding_all rfl) (wp_loadC (hF1.rdOld hr) hxx Tryd.underlying5 rfl (by with_unfolding_all exact ⟨_, rfl, rfl⟩) (by first | (simp; done) | (simp; omega) | omega) ?_)) | (with_reducible refine lst (by with_unfolding_all rfl) (wp_fbuild Tryd.underlying31 (z := .agg (List.toArray rc0)) (by kernel_rfl) (pl := rcP) (by kernel_rfl) (cs := (rcL (.int .i64 (x.toNat : Int)) (.string ⟨#[]⟩) (.string ⟨#[]⟩) (zeros.map bv) (.int .i64 0))) rfl (vs := [(0, .int .i64 (x.toNat : Int))]) (by with_unfolding_all rfl) (by with_unfolding_all exact rc0_fill1 rfl) ?_)) | ((with_reducible refine lst (by with_unfolding_all rfl) (wp_falloc hF1 (cs := rc0) (z := .agg (List.toArray (rc0))) rfl (by kernel_rfl) (by with_unfolding_all rfl) ?_)); intro w2 g2 hF2 hz2) | ((with_reducible refine lst (by with_unfolding_all rfl) (wp_fstA0 hF2 (by with_unfolding_all exact ⟨_, _, rfl, rfl, rfl⟩) (by rw [rc_len zeros_len]; kernel_rfl) (rcL_one (bv_one _) rfl rfl rfl rfl) (by rw [rc_len zeros_len, hz0.out]; omega) (spl_all (by rw [rc_len zeros_len, hz0.out])) ?_)); intro w3 hF3 hz3) | ((with_reducible refine lst (by with_unfolding_all rfl) (wp_cutB T_u8 (hF3.rdOld hr) hnc (lo := (some (1:Int))) (hi := none) (mx := none) ?_ (l := 1) (h := n) (m := c) (by first | (simp; done) | (simp; omega)) (by first | (simp; done) | (simp; omega)) (by first | (simp; done) | (simp; omega)) (by simp) (by omega) (by omega) (by omega) (by omega) ?_)); exact ⟨_, _, _, _, .i64, .i64, .i64, rfl, rfl, rfl, rfl, rfl⟩; intro A2 c2 hr2 hc2 hc3))
  rw [List.take_of_length_le (by have := hlb.out; omega)] at hr2
  refine (hq1.out _ _ _ _ (by omega) (by omega) hr2).mono ?_
  rintro e w4 ⟨v4, rfl, ho4, hb4⟩
  clear hr2
  obtain ⟨A4, c4, rfl, hn4, hr4⟩ := ho4.arg
  have hF4 := hF3.gotB hb4 ho4
  clear hF1 hF2 hF3 hq1
  by_cases h1 : e1 = 0
  · subst h1
    rw [if_pos rfl] at hD
    go_wp2_with (first | ((with_reducible refine lst (by with_unfolding_all rfl) (wp_cutB T_u8 (hF4.rdOld hr) hnc (lo := (some (1+(u1:Int)))) (hi := none) (mx := none) ?_ (l := (1+u1)) (h := n) (m := c) (by first | (simp; done) | (simp; omega)) (by first | (simp; done) | (simp; omega)) (by first | (simp; done) | (simp; omega)) (by simp) (by omega) (by omega) (by omega) (by omega) ?_)); exact ⟨_, _, _, _, .i64, .i64, .i64, rfl, rfl, rfl, rfl, rfl⟩; intro A2 c2 hr2 hc2 hc3))
    rw [List.take_of_length_le (by have := hlb.out; omega)] at hr2
    refine (hq2.out _ _ _ _ (by omega) (by omega) hr2).mono ?_
    rintro e w5 ⟨v5, rfl, ho5, hb5⟩
    clear hr2
    obtain ⟨A5, c5, rfl, hn5, hr5⟩ := ho5.arg
    have hF5 := hF4.gotB hb5 ho5
    clear hF4 hq2 hr4 hr5 ho4 ho5
    by_cases h2 : e2 = 0
    · subst h2
      rw [if_pos rfl] at hD
      go_upto_region 10 with (fail)
      go_cut [0] (fun s0 wx => ∃ A9 c9, s0 = .slice A9 (n - (1 + u1 + u2)) c9 ∧ n - (1 + u1 + u2) ≤ c9 ∧ Rd w (· < w.heap.size) A9 1 (n - (1 + u1 + u2)) ((l.drop (1 + u1 + u2)).map bv) ∧ Fr [] w wx [.blk g2 31 (rcL (.int .i64 (x.toNat : Int)) (.string ⟨x1.toArray⟩) (.string ⟨x2.toArray⟩) (zeros.map bv) (.int .i64 0)), .blk g1 31 rc0])
      case first =>
        have hFd := hF5.drew
        have hw1 : IntKind.i64.wrap (1 + (u1 : Int)) = 1 + u1 := IntWalk.i64_in _ (by omega)
        have hw2 : IntKind.i64.wrap (1 + (u1 : Int) + u2) = 1 + u1 + u2 := IntWalk.i64_in _ (by omega)
        clear hF5
        refine wp_region_held (S := fun w' => Rd w' (· < w'.heap.size) A4 1 x1.length (x1.map bv) ∧ Rd w' (· < w'.heap.size) A5 1 x2.length (x2.map bv)) (by kernel_rfl) ?_
        change wpAnyH _ _ _ _ _ _ _ _ (World.drew _)
        refine wpAnyH_take (i := 0) (v := ?_) (by simp only [List.getElem?_toArray, List.getElem?_cons_zero]; rfl) (by kernel_rfl) (by kernel_rfl) (by kernel_rfl) (by exact fun _ _ _ h => h) (Or.inl ⟨by with_unfolding_all rfl, ?_⟩) ⟨hFd.rdOwn (i := 1) rfl, hFd.rdOwn (i := 0) rfl⟩ ?_
        rotate_left
        · (intro w hSw; (try dsimp only at hSw); go_simp; try with_reducible rfl)
        (try simp only [Act.put, List.setIfInBounds_toArray, List.set_cons_zero, List.set_cons_succ])
        refine wpAnyH_take (i := 1) (by simp only [List.getElem?_toArray, List.getElem?_cons_zero, List.getElem?_cons_succ]; rfl) (by kernel_rfl) (by kernel_rfl) (by kernel_rfl) (by exact fun _ _ _ h => h) (yi_b2s (by with_unfolding_all rfl) T_u8 Tryd.underlying5 Tryd.underlying9 (fun _ h => h.1) (by with_unfolding_all exact ⟨_, rfl, rfl⟩)) ⟨hFd.rdOwn (i := 1) rfl, hFd.rdOwn (i := 0) rfl⟩ ?_
        (try simp only [Act.put, List.setIfInBounds_toArray, List.set_cons_zero, List.set_cons_succ])
        refine wpAnyH_take (i := 2) (v := ?_) (by simp only [List.getElem?_toArray, List.getElem?_cons_zero, List.getElem?_cons_succ]; rfl) (by kernel_rfl) (by kernel_rfl) (by kernel_rfl) (by exact fun _ _ _ h => h) (Or.inl ⟨by with_unfolding_all rfl, ?_⟩) ⟨hFd.rdOwn (i := 1) rfl, hFd.rdOwn (i := 0) rfl⟩ ?_
        rotate_left
        · (intro w hSw; (try dsimp only at hSw); go_simp; try with_reducible rfl)
        (try simp only [Act.put, List.setIfInBounds_toArray, List.set_cons_zero, List.set_cons_succ])
        refine wpAnyH_take (i := 3) (by simp only [List.getElem?_toArray, List.getElem?_cons_zero, List.getElem?_cons_succ]; rfl) (by kernel_rfl) (by kernel_rfl) (by kernel_rfl) (by exact fun _ _ _ h => h) (yi_b2s (by with_unfolding_all rfl) T_u8 Tryd.underlying5 Tryd.underlying9 (fun _ h => h.2) (by with_unfolding_all exact ⟨_, rfl, rfl⟩)) ⟨hFd.rdOwn (i := 1) rfl, hFd.rdOwn (i := 0) rfl⟩ ?_
        (try simp only [Act.put, List.setIfInBounds_toArray, List.set_cons_zero, List.set_cons_succ])
        refine wpAnyH_take (i := 4) (v := ?_) (by simp only [List.getElem?_toArray, List.getElem?_cons_zero, List.getElem?_cons_succ]; rfl) (by kernel_rfl) (by kernel_rfl) (by kernel_rfl) (by exact fun _ _ _ h => h) (Or.inl ⟨by with_unfolding_all rfl, ?_⟩) ⟨hFd.rdOwn (i := 1) rfl, hFd.rdOwn (i := 0) rfl⟩ ?_
        rotate_left
        · (intro w hSw; (try dsimp only at hSw); go_simp; try with_reducible rfl)
        (try simp only [Act.put, List.setIfInBounds_toArray, List.set_cons_zero, List.set_cons_succ])
        refine wpAnyH_take (i := 5) (v := ?_) (by simp only [List.getElem?_toArray, List.getElem?_cons_zero, List.getElem?_cons_succ]; rfl) (by kernel_rfl) (by kernel_rfl) (by kernel_rfl) (by exact fun _ _ _ h => h) (Or.inl ⟨by with_unfolding_all rfl, ?_⟩) ⟨hFd.rdOwn (i := 1) rfl, hFd.rdOwn (i := 0) rfl⟩ ?_
        rotate_left
        · (intro w hSw; (try dsimp only at hSw); go_simp; try with_reducible rfl)
        (try simp only [Act.put, List.setIfInBounds_toArray, List.set_cons_zero, List.set_cons_succ])
        refine wpAnyH_take (i := 6) (v := ?_) (by simp only [List.getElem?_toArray, List.getElem?_cons_zero, List.getElem?_cons_succ]; rfl) (by kernel_rfl) (by kernel_rfl) (by kernel_rfl) (by exact fun _ _ _ h => h) (Or.inl ⟨by with_unfolding_all rfl, ?_⟩) ⟨hFd.rdOwn (i := 1) rfl, hFd.rdOwn (i := 0) rfl⟩ ?_
        rotate_left
        · (intro w hSw; (try dsimp only at hSw); go_simp; try with_reducible rfl)
        (try simp only [Act.put, List.setIfInBounds_toArray, List.set_cons_zero, List.set_cons_succ])
        refine wpAnyH_take (i := 7) (v := ?_) (by simp only [List.getElem?_toArray, List.getElem?_cons_zero, List.getElem?_cons_succ]; rfl) (by kernel_rfl) (by kernel_rfl) (by kernel_rfl) (by exact fun _ _ _ h => h) (Or.inl ⟨by with_unfolding_all rfl, ?_⟩) ⟨hFd.rdOwn (i := 1) rfl, hFd.rdOwn (i := 0) rfl⟩ ?_
        rotate_left
        · (intro w hSw; (try dsimp only at hSw); go_simp; try with_reducible rfl)
        (try simp only [Act.put, List.setIfInBounds_toArray, List.set_cons_zero, List.set_cons_succ])
        refine wpAnyH_take (i := 8) (v := ?_) (by simp only [List.getElem?_toArray, List.getElem?_cons_zero, List.getElem?_cons_succ]; rfl) (by kernel_rfl) (by kernel_rfl) (by kernel_rfl) (by exact fun _ _ _ h => h) (Or.inl ⟨by with_unfolding_all rfl, ?_⟩) ⟨hFd.rdOwn (i := 1) rfl, hFd.rdOwn (i := 0) rfl⟩ ?_
        rotate_left
        · (intro w hSw; (try dsimp only at hSw); go_simp; try with_reducible rfl)
        (try simp only [Act.put, List.setIfInBounds_toArray, List.set_cons_zero, List.set_cons_succ])
        refine wpAnyH_take (i := 9) (by simp only [List.getElem?_toArray, List.getElem?_cons_zero, List.getElem?_cons_succ]; rfl) (by kernel_rfl) (by kernel_rfl) (by kernel_rfl) (by exact fun _ _ _ h => h) (yi_cut (by with_unfolding_all rfl) T_u8 (lo := some ((1 : Int) + u1 + u2)) (hi := none) (mx := none) (l := 1 + u1 + u2) (h := n) (m := c) (by with_unfolding_all exact ⟨_, _, _, _, .i64, .i64, .i64, rfl, rfl, rfl, rfl, rfl⟩) (by simp; done) (by simp; done) (by simp; done) (by simp) (by omega) (by omega) (by omega) (by omega)) ⟨hFd.rdOwn (i := 1) rfl, hFd.rdOwn (i := 0) rfl⟩ ?_
        (try simp only [Act.put, List.setIfInBounds_toArray, List.set_cons_zero, List.set_cons_succ])
        refine wpAnyH_take (i := 10) (v := ?_) (by simp only [List.getElem?_toArray, List.getElem?_cons_zero, List.getElem?_cons_succ]; rfl) (by kernel_rfl) (by kernel_rfl) (by kernel_rfl) (by exact fun _ _ _ h => h) (Or.inl ⟨by with_unfolding_all rfl, ?_⟩) ⟨hFd.rdOwn (i := 1) rfl, hFd.rdOwn (i := 0) rfl⟩ ?_
        rotate_left
        · (intro w hSw; (try dsimp only at hSw); go_simp; try with_reducible rfl)
        (try simp only [Act.put, List.setIfInBounds_toArray, List.set_cons_zero, List.set_cons_succ])
        refine wpAnyH_ready (rs := [11]) (by kernel_rfl) (by simp) ?_
        refine AllReadyH.cons (by simp only [List.getElem?_toArray, List.getElem?_cons_zero, List.getElem?_cons_succ]; rfl) (fun K hK => ?_) ?_
        · refine stp (by with_unfolding_all rfl) (wp_fst hFd (i := 2) rfl (by with_unfolding_all exact ⟨_, _, rfl, rfl, rfl⟩) (by kernel_rfl) rfl rfl (by rw [rc_len zeros_len]; omega) ?_)
          intro w11 hF11 hz11
          (try simp only [List.set_cons_zero, List.set_cons_succ] at hF11)
          rw [rcL_1] at hF11
          refine hK.out _ _ (⟨hF11.rdOwn (i := 1) rfl, hF11.rdOwn (i := 0) rfl⟩) (fun _ => ?_)
          clear hK K
          (try simp only [Act.put])
          refine wpAnyH_take (i := 12) (v := ?_) (by simp only [List.getElem?_toArray, List.getElem?_cons_zero, List.getElem?_cons_succ]; rfl) (by kernel_rfl) (by kernel_rfl) (by kernel_rfl) (by exact fun _ _ _ h => h) (Or.inl ⟨by with_unfolding_all rfl, ?_⟩) ⟨hF11.rdOwn (i := 1) rfl, hF11.rdOwn (i := 0) rfl⟩ ?_
          rotate_left
          · (intro w hSw; (try dsimp only at hSw); go_simp; try with_reducible rfl)
          (try simp only [Act.put, List.setIfInBounds_toArray, List.set_cons_zero, List.set_cons_succ])
          refine wpAnyH_ready (rs := [13]) (by kernel_rfl) (by simp) ?_
          refine AllReadyH.cons (by simp only [List.getElem?_toArray, List.getElem?_cons_zero, List.getElem?_cons_succ]; rfl) (fun K hK => ?_) ?_
          · refine stp (by with_unfolding_all rfl) (wp_fst hF11 (i := 2) rfl (by with_unfolding_all exact ⟨_, _, rfl, rfl, rfl⟩) (by kernel_rfl) rfl rfl (by rw [rc_len zeros_len]; omega) ?_)
            intro w12 hF12 hz12
            (try simp only [List.set_cons_zero, List.set_cons_succ] at hF12)
            rw [rcL_2] at hF12
            refine hK.out _ _ (⟨hF12.rdOwn (i := 1) rfl, hF12.rdOwn (i := 0) rfl⟩) (fun _ => ?_)
            clear hK K
            (try simp only [Act.put])
            refine wpAnyH_take (i := 14) (v := ?_) (by simp only [List.getElem?_toArray, List.getElem?_cons_zero, List.getElem?_cons_succ]; rfl) (by kernel_rfl) (by kernel_rfl) (by kernel_rfl) (by exact fun _ _ _ h => h) (Or.inl ⟨by with_unfolding_all rfl, ?_⟩) ⟨hF12.rdOwn (i := 1) rfl, hF12.rdOwn (i := 0) rfl⟩ ?_
            rotate_left
            · (intro w hSw; (try dsimp only at hSw); go_simp; try with_reducible rfl)
            (try simp only [Act.put, List.setIfInBounds_toArray, List.set_cons_zero])
            refine wpAnyH_done (by kernel_rfl) ?_ _
            go_wp2_with fail
            go_meet
            exact ⟨_, _, rfl, by omega, by have h := cut_rd (m := c) hr (show 1 + u1 + u2 ≤ n by omega) (Nat.le_refl _) hnc; rw [List.take_of_length_le (by have := hlb.out; omega)] at h; exact h, hF12.tail.tail⟩
          exact AllReadyH.nil
        exact AllReadyH.nil
      case rest =>
        obtain ⟨A9, c9, rfl, hn9, hr9, hF6⟩ := hcut
        clear hF5
        have hrl : (l.drop (1 + u1 + u2)).length = n - (1 + u1 + u2) := by rw [List.length_drop, hlb.out]
        have hmm : n - (1 + u1 + u2) ≤ 140737488355000 := by omega
        generalize (x.toNat : Int) = kv at *
        generalize l.drop (1 + u1 + u2) = rest at *
        generalize n - (1 + u1 + u2) = m at *
        clear hxx hu1 hu2 hxb hlb hm hnc
        replace hrl := box hrl
        go_upto_region 11 with (fail)
        go_cut [62] (fun s62 wx => ∃ b62 : Bool, s62 = .bool b62 ∧ Box (b62 = (decide (kv = 1) && decide (32 ≤ m))) ∧ Fr [] w wx [.blk g2 31 (rcL (.int .i64 kv) (.string ⟨x1.toArray⟩) (.string ⟨x2.toArray⟩) (zeros.map bv) (.int .i64 0)), .blk g1 31 rc0])
        case first =>
          by_cases k1 : kv = 1
          · subst k1
            by_cases k2 : 32 ≤ m
            · go_wp2_with (first | (with_reducible refine lst (by with_unfolding_all rfl) (wp_fld0 hF6 Tryd.underlying3 rfl (by with_unfolding_all exact ⟨_, rfl, rfl⟩) rfl ?_)))
              go_meet
              refine ⟨true, ?_, box (by simp [k2]), hF6⟩
              have h3 : (32 : Int) ≤ m := by omega
              simp [h3]
            · go_wp2_with (first | (with_reducible refine lst (by with_unfolding_all rfl) (wp_fld0 hF6 Tryd.underlying3 rfl (by with_unfolding_all exact ⟨_, rfl, rfl⟩) rfl ?_)))
              go_meet
              refine ⟨false, ?_, box (by simp [k2]), hF6⟩
              simp; omega
          · have hk1 : (kv == 1) = false := by simpa using k1
            go_wp2_with (first | (with_reducible refine lst (by with_unfolding_all rfl) (wp_fld0 hF6 Tryd.underlying3 rfl (by with_unfolding_all exact ⟨_, rfl, rfl⟩) rfl ?_)))
            go_meet
            exact ⟨false, rfl, box (by simp [k1]), hF6⟩
        case rest =>
          obtain ⟨b62, rfl, hb62, hF7⟩ := hcut
          clear hF6
          go_upto_if 62 with (fail)
          go_cut [0] (fun s0 wx => ∃ (d tl : List UInt8) (A7 : Option Addr) (c7 : Nat), s0 = .slice A7 tl.length c7 ∧ tl.length ≤ m ∧ Box (tl.length ≤ c7) ∧ Box (d.length = 32) ∧ Box (D = recT kv x1 x2 d tl) ∧ Rd w (· < w.heap.size) A7 1 tl.length (tl.map bv) ∧ Fr [] w wx [.blk g2 31 (rcL (.int .i64 kv) (.string ⟨x1.toArray⟩) (.string ⟨x2.toArray⟩) (d.map bv) (.int .i64 0)), .blk g1 31 rc0])
          case first =>
            by_cases k1 : kv = 1
            · subst k1
              by_cases k2 : 32 ≤ m
              · have hD2 : D = recT 1 x1 x2 (rest.take 32) (rest.drop 32) := by rw [hD]; unfold recM; rw [if_pos rfl, if_pos (by rw [hrl.out]; exact k2)]
                have hd2 : (rest.take 32).length = 32 := by rw [List.length_take, hrl.out]; omega
                have ht2 : (rest.drop 32).length = m - 32 := by rw [List.length_drop, hrl.out]
                have hcp : Box (spl (rcL (.int .i64 1) (.string ⟨x1.toArray⟩) (.string ⟨x2.toArray⟩) (zeros.map bv) (.int .i64 0)) 3 ((rest.map bv).take 32) = rcL (.int .i64 1) (.string ⟨x1.toArray⟩) (.string ⟨x2.toArray⟩) ((rest.take 32).map bv) (.int .i64 0)) := box (by
                  rw [← List.map_take]
                  exact rcL_3 (by rw [List.length_map, List.length_map, hd2]; exact zeros_32))
                obtain rfl : b62 = true := by rw [hb62.out]; simp [k2]
                have hLL := rc_len (k := .int .i64 1) (a := .string ⟨x1.toArray⟩) (b := .string ⟨x2.toArray⟩) (t := .int .i64 0) zeros_len
                replace hD2 := box hD2
                replace hd2 := box hd2
                replace ht2 := box ht2
                clear hD
                go_wp2_with (first | ((with_reducible refine lst (by with_unfolding_all rfl) (wp_fcopy0 Tryd.underlying25 (by kernel_rfl) hF7 (hF7.rdOld hr9) (bv_one _) (by with_unfolding_all rfl) (by with_unfolding_all rfl) (by with_unfolding_all rfl) (by first | (simp; done) | (simp; omega)) hcp.out ?_)); intro w8 hF8 hz8) | ((with_reducible refine lst (by with_unfolding_all rfl) (wp_cutB T_u8 (hr9.below hF8.below) hn9 (lo := (some (32:Int))) (hi := none) (mx := none) ?_ (l := 32) (h := m) (m := c9) (by first | (simp; done) | (simp; omega)) (by first | (simp; done) | (simp; omega)) (by first | (simp; done) | (simp; omega)) (by simp) (by omega) (by omega) (by omega) (by omega) ?_)); exact ⟨_, _, _, _, .i64, .i64, .i64, rfl, rfl, rfl, rfl, rfl⟩; intro A2 c2 hr2 hc2 hc3))
                go_meet
                rw [List.take_of_length_le (by have := hrl.out; omega)] at hr2
                have ht3 := ht2.out
                rw [← ht3] at hr2 hc2 ⊢
                exact ⟨rest.take 32, rest.drop 32, A2, c2, rfl, by omega, box hc2, hd2, hD2, hr2.same (fun k hk => (hF8.block k hk (by simp)).symm), hF8⟩
              · have hD2 : D = recF := by rw [hD]; unfold recM; rw [if_pos rfl, if_neg (by rw [hrl.out]; exact k2)]
                obtain rfl : b62 = false := by rw [hb62.out]; simp [k2]
                replace hD2 := box hD2
                clear hD
                go_wp2_with (first | (with_reducible refine lst (by with_unfolding_all rfl) (wp_fld0 hF7 Tryd.underlying3 rfl (by with_unfolding_all exact ⟨_, rfl, rfl⟩) rfl ?_)) | (with_reducible refine lst (by with_unfolding_all rfl) (wp_fbuild Tryd.underlying31 (z := .agg (List.toArray rc0)) (by kernel_rfl) (pl := rcP) (by kernel_rfl) (cs := rc0) rfl (vs := []) (by with_unfolding_all rfl) (by with_unfolding_all exact rc0_fill) ?_)) | ((with_reducible refine lst (by with_unfolding_all rfl) (wp_fstA1 hF7 (by with_unfolding_all exact ⟨_, _, rfl, rfl, rfl⟩) (by rw [hz0.out]; kernel_rfl) rc0_one (by rw [hz0.out]; omega) (spl_all rfl) ?_)); intro w8 hF8 hz8))
                exact bodyPost_ret (results_cellF2_1 hF8 rfl _ rfl Tryd.underlying31 rfl (by rw [hz0.out]; kernel_rfl)) rfl ⟨by rw [hD2.out]; rfl, hF8.below⟩
            · have hk1 : (kv == 1) = false := by simpa using k1
              have hD2 : D = recT kv x1 x2 zeros rest := by rw [hD]; unfold recM; rw [if_neg k1]
              obtain rfl : b62 = false := by rw [hb62.out]; simp [k1]
              replace hD2 := box hD2
              clear hD k1
              go_wp2_with (first | (with_reducible refine lst (by with_unfolding_all rfl) (wp_fld0 hF7 Tryd.underlying3 rfl (by with_unfolding_all exact ⟨_, rfl, rfl⟩) rfl ?_)))
              go_meet
              have hrl' := hrl.out
              subst hrl'
              exact ⟨zeros, rest, A9, c9, rfl, Nat.le_refl _, box hn9, box zeros_32, hD2, hr9, hF7⟩
          case rest =>
            obtain ⟨d, tl, A7, c7, rfl, htm, hn7, hd, hDT, hr7, hF8⟩ := hcut
            clear hF7 hr9 hn9
            have htm : tl.length ≤ 140737488355000 := by omega
            clear hmm hD hrl
            have hdm : Box ((d.map bv).length = 32) := box (by rw [List.length_map]; exact hd.out)
            have hLL (t : Value) := rc_len (k := .int .i64 kv) (a := .string ⟨x1.toArray⟩) (b := .string ⟨x2.toArray⟩) (t := t) hdm.out
            replace hLL := box hLL
            have hg := box (fun w hr => get_any A7 tl.length c7 tl w (by omega) hr)
            go_wp2_with fail
            refine (hg.out _ (hF8.rdOld hr7)).mono ?_
            rintro e w9 ⟨rfl, rfl⟩
            by_cases h8 : tl.length = 8
            · have hD8 : D = if getN tl ≤ 1099511627776 then if recOk ⟨kv, ⟨x1.toArray⟩, ⟨x2.toArray⟩, d, (getN tl : Int)⟩ = true then (⟨kv, ⟨x1.toArray⟩, ⟨x2.toArray⟩, d, (getN tl : Int)⟩, 0) else recF else recF := by rw [hDT.out]; unfold recT; rw [if_pos h8]
              have hg64 := getN_lt 8 tl (by omega)
              rw [if_pos (by omega), decide_eq_true (by omega), h8]
              generalize getN tl = t at *
              by_cases ht : t ≤ 1099511627776
              · rw [if_pos ht] at hD8
                have hgt : decide ((1099511627776 : Int) < (t : Int)) = false := by simp; omega
                have hri := box (fun w (hM : MaxW w) => right_any ⟨kv, ⟨x1.toArray⟩, ⟨x2.toArray⟩, d, (t : Int)⟩ w hM hd.out (by show ByteArray.size _ ≤ _; rw [str_mk_size]; omega) (by show ByteArray.size _ ≤ _; rw [str_mk_size]; omega))
                simp only [Rec.cells] at hri
                generalize hok : recOk ⟨kv, ⟨x1.toArray⟩, ⟨x2.toArray⟩, d, (t : Int)⟩ = ok at *
                clear hok
                go_wp2_with (first | ((with_reducible refine lst (by with_unfolding_all rfl) (wp_fst0 hF8 (by with_unfolding_all exact ⟨_, _, rfl, rfl, rfl⟩) (by kernel_rfl) rfl rfl (by rw [hLL.out]; omega) (rcL_35 (v := .int .i64 (t : Int)) hdm.out) ?_)); intro w10 hF10 hz10) | (with_reducible refine lst (by with_unfolding_all rfl) (wp_fldA0 hF10 Tryd.underlying31 rfl (by with_unfolding_all exact ⟨_, rfl, rfl⟩) (ds := (rcL (.int .i64 kv) (.string ⟨x1.toArray⟩) (.string ⟨x2.toArray⟩) (d.map bv) (.int .i64 (t : Int)))) (by rw [hLL.out]; kernel_rfl) (take_all _) ?_)))
                refine (hri.out _ (hF10.maxW hM)).mono ?_
                rintro e w11 ⟨rfl, hb11⟩
                have hF11 := hF10.call hb11
                cases ok with
                | true =>
                  rw [if_pos rfl] at hD8
                  go_wp2_with (first | (with_reducible refine lst (by with_unfolding_all rfl) (wp_fldA0 hF11 Tryd.underlying31 rfl (by with_unfolding_all exact ⟨_, rfl, rfl⟩) (ds := (rcL (.int .i64 kv) (.string ⟨x1.toArray⟩) (.string ⟨x2.toArray⟩) (d.map bv) (.int .i64 (t : Int)))) (by rw [hLL.out]; kernel_rfl) (take_all _) ?_)) | ((with_reducible refine lst (by with_unfolding_all rfl) (wp_fstA1 hF11 (by with_unfolding_all exact ⟨_, _, rfl, rfl, rfl⟩) (by rw [hLL.out]; kernel_rfl) (rcL_one (bv_one _) rfl rfl rfl rfl) (by rw [hLL.out, hz0.out]; omega) (spl_all (by rw [hLL.out, hz0.out])) ?_)); intro w12 hF12 hz12))
                  exact bodyPost_ret (results_cellF2_1 hF12 rfl _ rfl Tryd.underlying31 rfl (by rw [hLL.out]; kernel_rfl)) rfl ⟨by rw [hD8]; rfl, hF12.below⟩
                | false =>
                  rw [if_neg (by decide)] at hD8
                  go_wp2_with (first | (with_reducible refine lst (by with_unfolding_all rfl) (wp_fbuild Tryd.underlying31 (z := .agg (List.toArray rc0)) (by kernel_rfl) (pl := rcP) (by kernel_rfl) (cs := rc0) rfl (vs := []) (by with_unfolding_all rfl) (by with_unfolding_all exact rc0_fill) ?_)) | ((with_reducible refine lst (by with_unfolding_all rfl) (wp_fstA1 hF11 (by with_unfolding_all exact ⟨_, _, rfl, rfl, rfl⟩) (by rw [hz0.out]; kernel_rfl) rc0_one (by rw [hz0.out]; omega) (spl_all rfl) ?_)); intro w12 hF12 hz12))
                  exact bodyPost_ret (results_cellF2_1 hF12 rfl _ rfl Tryd.underlying31 rfl (by rw [hz0.out]; kernel_rfl)) rfl ⟨by rw [hD8]; rfl, hF12.below⟩
              · rw [if_neg ht] at hD8
                have hgt : decide ((1099511627776 : Int) < (t : Int)) = true := by simp; omega
                go_wp2_with (first | ((with_reducible refine lst (by with_unfolding_all rfl) (wp_fst0 hF8 (by with_unfolding_all exact ⟨_, _, rfl, rfl, rfl⟩) (by kernel_rfl) rfl rfl (by rw [hLL.out]; omega) (rcL_35 (v := .int .i64 (wrap64 (t : Int))) hdm.out) ?_)); intro w10 hF10 hz10) | (with_reducible refine lst (by with_unfolding_all rfl) (wp_fbuild Tryd.underlying31 (z := .agg (List.toArray rc0)) (by kernel_rfl) (pl := rcP) (by kernel_rfl) (cs := rc0) rfl (vs := []) (by with_unfolding_all rfl) (by with_unfolding_all exact rc0_fill) ?_)) | ((with_reducible refine lst (by with_unfolding_all rfl) (wp_fstA1 hF10 (by with_unfolding_all exact ⟨_, _, rfl, rfl, rfl⟩) (by rw [hz0.out]; kernel_rfl) rc0_one (by rw [hz0.out]; omega) (spl_all rfl) ?_)); intro w12 hF12 hz12))
                exact bodyPost_ret (results_cellF2_1 hF12 rfl _ rfl Tryd.underlying31 rfl (by rw [hz0.out]; kernel_rfl)) rfl ⟨by rw [hD8]; rfl, hF12.below⟩
            · have hD8 : D = recF := by rw [hDT.out]; unfold recT; rw [if_neg h8]
              have hne : ((tl.length : Int) != 8) = true := by simp; omega
              by_cases h9 : tl.length ≤ 8
              · rw [if_pos h9, decide_eq_true h9]
                go_wp2_with (first | ((with_reducible refine lst (by with_unfolding_all rfl) (wp_fst0 hF8 (by with_unfolding_all exact ⟨_, _, rfl, rfl, rfl⟩) (by kernel_rfl) rfl rfl (by rw [hLL.out]; omega) (rcL_35 (v := .int .i64 (wrap64 (getN tl : Int))) hdm.out) ?_)); intro w10 hF10 hz10) | (with_reducible refine lst (by with_unfolding_all rfl) (wp_fbuild Tryd.underlying31 (z := .agg (List.toArray rc0)) (by kernel_rfl) (pl := rcP) (by kernel_rfl) (cs := rc0) rfl (vs := []) (by with_unfolding_all rfl) (by with_unfolding_all exact rc0_fill) ?_)) | ((with_reducible refine lst (by with_unfolding_all rfl) (wp_fstA1 hF10 (by with_unfolding_all exact ⟨_, _, rfl, rfl, rfl⟩) (by rw [hz0.out]; kernel_rfl) rc0_one (by rw [hz0.out]; omega) (spl_all rfl) ?_)); intro w12 hF12 hz12))
                exact bodyPost_ret (results_cellF2_1 hF12 rfl _ rfl Tryd.underlying31 rfl (by rw [hz0.out]; kernel_rfl)) rfl ⟨by rw [hD8]; rfl, hF12.below⟩
              · rw [if_neg h9, decide_eq_false h9]
                go_wp2_with (first | ((with_reducible refine lst (by with_unfolding_all rfl) (wp_fst0 hF8 (by with_unfolding_all exact ⟨_, _, rfl, rfl, rfl⟩) (by kernel_rfl) rfl rfl (by rw [hLL.out]; omega) (rcL_35 (v := .int .i64 0) hdm.out) ?_)); intro w10 hF10 hz10) | (with_reducible refine lst (by with_unfolding_all rfl) (wp_fbuild Tryd.underlying31 (z := .agg (List.toArray rc0)) (by kernel_rfl) (pl := rcP) (by kernel_rfl) (cs := rc0) rfl (vs := []) (by with_unfolding_all rfl) (by with_unfolding_all exact rc0_fill) ?_)) | ((with_reducible refine lst (by with_unfolding_all rfl) (wp_fstA1 hF10 (by with_unfolding_all exact ⟨_, _, rfl, rfl, rfl⟩) (by rw [hz0.out]; kernel_rfl) rc0_one (by rw [hz0.out]; omega) (spl_all rfl) ?_)); intro w12 hF12 hz12))
                exact bodyPost_ret (results_cellF2_1 hF12 rfl _ rfl Tryd.underlying31 rfl (by rw [hz0.out]; kernel_rfl)) rfl ⟨by rw [hD8]; rfl, hF12.below⟩
    · rw [if_neg h2] at hD
      have hne : ((e2 : Int) != 0) = true := by simp; omega
      clear h2
      go_wp2_with (first | (with_reducible refine lst (by with_unfolding_all rfl) (wp_fbuild Tryd.underlying31 (z := .agg (List.toArray rc0)) (by kernel_rfl) (pl := rcP) (by kernel_rfl) (cs := rc0) rfl (vs := []) (by with_unfolding_all rfl) (by with_unfolding_all exact rc0_fill) ?_)) | ((with_reducible refine lst (by with_unfolding_all rfl) (wp_fstA3 hF5 (by with_unfolding_all exact ⟨_, _, rfl, rfl, rfl⟩) (by rw [hz0.out]; kernel_rfl) rc0_one (by rw [hz0.out]; omega) (spl_all rfl) ?_)); intro w6 hF6 hz6))
      exact bodyPost_ret (results_cellF2_3 hF6 rfl _ rfl Tryd.underlying31 rfl (by rw [hz0.out]; kernel_rfl)) rfl ⟨by rw [hD]; rfl, hF6.below⟩
  · rw [if_neg h1] at hD
    have hne : ((e1 : Int) != 0) = true := by simp; omega
    clear h1
    go_wp2_with (first | (with_reducible refine lst (by with_unfolding_all rfl) (wp_fbuild Tryd.underlying31 (z := .agg (List.toArray rc0)) (by kernel_rfl) (pl := rcP) (by kernel_rfl) (cs := rc0) rfl (vs := []) (by with_unfolding_all rfl) (by with_unfolding_all exact rc0_fill) ?_)) | ((with_reducible refine lst (by with_unfolding_all rfl) (wp_fstA2 hF4 (by with_unfolding_all exact ⟨_, _, rfl, rfl, rfl⟩) (by rw [hz0.out]; kernel_rfl) rc0_one (by rw [hz0.out]; omega) (spl_all rfl) ?_)); intro w5 hF5 hz5))
    exact bodyPost_ret (results_cellF2_2 hF5 rfl _ rfl Tryd.underlying31 rfl (by rw [hz0.out]; kernel_rfl)) rfl ⟨by rw [hD]; rfl, hF5.below⟩
end Go.Proofs.YtpdbjhgphgcjoaaDoor
