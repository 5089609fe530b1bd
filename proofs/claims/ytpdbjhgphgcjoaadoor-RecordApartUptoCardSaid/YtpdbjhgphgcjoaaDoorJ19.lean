/-
  The walk of the document's Same.
  Layer 14: the walk of the document's Decode.
-/
import Derived.Test.YtpdbjhgphgcjoaaDoorJ10
import Derived.Deep.QuietTactic
import Derived.BigQuiet
import Derived.Test.YtpdbjhgphgcjoaaDoorJ15
import Derived.Test.YtpdbjhgphgcjoaaDoorJ18
import Derived.Deep.DeepCutAuto
namespace Go.Proofs.YtpdbjhgphgcjoaaDoor
open Go.RowKit

set_option maxRecDepth 20000 in
set_option maxHeartbeats 400000 in
theorem same_any (A B : Option Addr) (n m c d : Nat) (l k : List UInt8) (w : World) (hm : n ≤ 9223372036854775807) (hr : Rd w (· < w.heap.size) A 1 n (l.map bv)) (hr2 : Rd w (· < w.heap.size) B 1 m (k.map bv)) :
    Calls Tryd.prog 13 #[.slice A n c, .slice B m d] w fun e w' => e = .returned (.bool (l == k)) ∧ Below w.heap.size w w' := by
  have hl := box hr.bytes_len
  have hk := box hr2.bytes_len
  by_cases hnm : n = m
  · subst hnm
    go_enter Tryd.func13, Tryd.ntmps13
    go_wp2
    go_loopw [5] (fun i wr => ∃ j : Nat, j ≤ n ∧ Box (l.take j = k.take j) ∧ i = .int .i64 j ∧ Below w.heap.size w wr) (fun i _ => n - (intOf i).toNat)
    case atStart => exact ⟨0, by omega, box rfl, rfl, Below.refl _ _⟩
    case round =>
      obtain ⟨j, hj, HT, rfl, hb⟩ := hrel
      by_cases hlt : j < n
      · obtain ⟨ad, x, hA, hx, hcx⟩ := (hr.below hb).atB hlt
        obtain ⟨bd, y, hB, hy, hcy⟩ := (hr2.below hb).atB hlt
        replace hx := box hx
        replace hy := box hy
        clear hr hr2
        subst hA hB
        by_cases hxy : x = y
        · subst hxy
          go_wp2
          go_quiet (fail)
          go_wp2
          go_roundw
          case rel => exact ⟨j + 1, by omega, box (by rw [take_snoc hx.out, take_snoc hy.out, HT.out]), by go_num, below_drewN hb _⟩
          case measure => simp [intOf]; omega
        · have hne : ((x.toNat : Int) != (y.toNat : Int)) = true := by
            simp only [bne_iff_ne, ne_eq]
            intro h; exact hxy (UInt8.toNat_inj.1 (by omega))
          replace hxy := box hxy
          go_wp2
          go_quiet (fail)
          go_wp2
          go_ret
          exact ⟨by rw [beq_false_of_ne (fun h => hxy.out (by have h1 := hx.out; have h2 := hy.out; rw [h, h2] at h1; injection h1 with h1; exact h1.symm))]; rfl, below_drewN hb _⟩
      · go_wp2
        go_ret
        have he : l = k := by
          have := HT.out
          rwa [List.take_of_length_le (by have := hl.out; omega), List.take_of_length_le (by have := hk.out; omega)] at this
        exact ⟨by rw [he, beq_self_eq_true]; rfl, hb⟩
  · have hne : ((n : Int) != (m : Int)) = true := by simp only [bne_iff_ne, ne_eq]; omega
    have hlk : (l == k) = false := beq_false_of_ne (fun h => hnm (by rw [← hl.out, ← hk.out, h]))
    replace hlk := box hlk
    replace hnm := box hnm
    go_enter Tryd.func13, Tryd.ntmps13
    go_wp2
    go_ret
    exact ⟨by rw [hlk.out]; rfl, Below.refl _ _⟩
end Go.Proofs.YtpdbjhgphgcjoaaDoor

namespace Go.Proofs.YtpdbjhgphgcjoaaDoor
open Go.RowKit

theorem rec_put {k a b t : Value} {rest : List UInt8} {i : Nat} {y : UInt8} (hi : i < 32) (hy : rest[i]? = some y) :
    spl (rcL k a b ((rest.take i ++ zeros.drop i).map bv) t) (3 + i) [bv y] = rcL k a b ((rest.take (i + 1) ++ zeros.drop (i + 1)).map bv) t := by
  have hil := (List.getElem?_eq_some_iff.1 hy).1
  have hz : zeros.drop i = 0 :: zeros.drop (i + 1) := by
    rw [List.drop_eq_getElem_cons (by rw [zeros_32]; exact hi)]; congr 1; unfold zeros; exact List.getElem_replicate _
  have ht : rest.take (i + 1) = rest.take i ++ [y] := take_snoc hy
  rw [hz, ht]
  have := spl_at (p := k :: a :: b :: (rest.take i).map bv) (q := [bv 0]) (r := (zeros.drop (i + 1)).map bv ++ [t]) (ds := [bv y]) (off := 3 + i) (by simp; omega) rfl
  simpa [rcL] using this

set_option maxRecDepth 20000 in
set_option maxHeartbeats 3200000 in
theorem decF_any (A : Option Addr) (n c : Nat) (l : List UInt8) (w : World) (hm : n ≤ 140737488355000) (hnc : n ≤ c) (hr : Rd w (· < w.heap.size) A 1 n (l.map bv)) :
    Calls Tryd.prog 15 #[.slice A n c] w fun e w' => e = .returned (.tuple #[.agg (recX l).1.cells.toArray, .int .i64 (recX l).2]) ∧ Below w.heap.size w w' := by
  have hl := hr.bytes_len
  have hF0 := Fr.nil w
  have hz0 := box rc0_len
  by_cases h0 : n = 0
  · subst h0
    obtain rfl : l = [] := List.eq_nil_of_length_eq_zero hl
    go_enter Tryd.func15, Tryd.ntmps15
    go_wp2_with (first | ((with_reducible refine lst (by with_unfolding_all rfl) (wp_falloc hF0 (cs := rc0) (z := .agg (List.toArray (rc0))) rfl (by kernel_rfl) (by with_unfolding_all rfl) ?_)); intro w1 g1 hF1 hz1) | (with_reducible refine lst (by with_unfolding_all rfl) (wp_fbuild Tryd.underlying24 (z := .agg (List.toArray rc0)) (by kernel_rfl) (pl := rcP) (by kernel_rfl) (cs := rc0) rfl (vs := []) (by with_unfolding_all rfl) (by with_unfolding_all exact rc0_fill) ?_)) | ((with_reducible refine lst (by with_unfolding_all rfl) (wp_fstA0 hF1 (by with_unfolding_all exact ⟨_, _, rfl, rfl, rfl⟩) (by rw [hz0.out]; kernel_rfl) rc0_one (by rw [hz0.out]; omega) (spl_all rfl) ?_)); intro w2 hF2 hz2))
    exact bodyPost_ret (results_cellF2_0 hF2 rfl _ rfl Tryd.underlying24 rfl (by rw [hz0.out]; kernel_rfl)) rfl ⟨rfl, hF2.below⟩
  obtain ⟨x, hx⟩ : ∃ x, l[0]? = some x := ⟨l[0]'(by omega), by simp⟩
  have hxb := x.toNat_lt
  have hD : recX l = if (rdt (l.drop 1) 128).2.2 = 0 then
      if (rdt (l.drop (1 + (rdt (l.drop 1) 128).2.1)) 128).2.2 = 0 then
        recY (x.toNat : Int) (rdt (l.drop 1) 128).1 (rdt (l.drop (1 + (rdt (l.drop 1) 128).2.1)) 128).1 (l.drop (1 + (rdt (l.drop 1) 128).2.1 + (rdt (l.drop (1 + (rdt (l.drop 1) 128).2.1)) 128).2.1)) l
      else recF
    else recF := by unfold recX; rw [hx]
  have hu1 := rdt_snd (l.drop 1) 128
  have ha1 := rdt_most (l.drop 1)
  have he1 := rdt_err (l.drop 1) 128
  have hq1 := box (fun A n c w hm hr => rreadText_any A n c (l.drop 1) 128 w hm (by decide) hr)
  generalize rdt (l.drop 1) 128 = r1 at *
  obtain ⟨x1, u1, e1⟩ := r1
  simp only [] at hD hu1 he1 ha1 hq1
  rw [List.length_drop, hl] at hu1
  have hu2 := rdt_snd (l.drop (1 + u1)) 128
  have ha2 := rdt_most (l.drop (1 + u1))
  have he2 := rdt_err (l.drop (1 + u1)) 128
  have hq2 := box (fun A n c w hm hr => rreadText_any A n c (l.drop (1 + u1)) 128 w hm (by decide) hr)
  generalize rdt (l.drop (1 + u1)) 128 = r2 at *
  obtain ⟨x2, u2, e2⟩ := r2
  simp only [] at hD hu2 he2 ha2 hq2
  rw [List.length_drop, hl] at hu2
  generalize hDl : recX l = D at *
  clear hDl
  have hlb := box hl
  have hxx := box hx
  clear hx hl
  have hn1 : decide ((n : Int) < 1) = false := by simp; omega
  go_enter Tryd.func15, Tryd.ntmps15
  go_wp2_with (first | ((with_reducible refine lst (by with_unfolding_all rfl) (wp_falloc hF0 (cs := rc0) (z := .agg (List.toArray (rc0))) rfl (by kernel_rfl) (by with_unfolding_all rfl) ?_)); intro w1 g1 hF1 hz1) | (with_reducible refine lst (by with_unfolding_all rfl) (wp_indexAddr T_u8 (hF1.rdOld hr) (by with_unfolding_all exact ⟨_, _, _, _, rfl, rfl, rfl⟩) (by omega) (by omega) ?_)) | (with_reducible refine lst (by with_unfolding_all rfl) (wp_loadC (hF1.rdOld hr) hxx Tryd.underlying5 rfl (by with_unfolding_all exact ⟨_, rfl, rfl⟩) (by first | (simp; done) | (simp; omega) | omega) ?_)) | (with_reducible refine lst (by with_unfolding_all rfl) (wp_fbuild Tryd.underlying24 (z := .agg (List.toArray rc0)) (by kernel_rfl) (pl := rcP) (by kernel_rfl) (cs := (rcL (.int .i64 (x.toNat : Int)) (.string ⟨#[]⟩) (.string ⟨#[]⟩) (zeros.map bv) (.int .i64 0))) rfl (vs := [(0, .int .i64 (x.toNat : Int))]) (by with_unfolding_all rfl) (by with_unfolding_all exact rc0_fill1 rfl) ?_)) | ((with_reducible refine lst (by with_unfolding_all rfl) (wp_falloc hF1 (cs := rc0) (z := .agg (List.toArray (rc0))) rfl (by kernel_rfl) (by with_unfolding_all rfl) ?_)); intro w2 g2 hF2 hz2) | ((with_reducible refine lst (by with_unfolding_all rfl) (wp_fstA0 hF2 (by with_unfolding_all exact ⟨_, _, rfl, rfl, rfl⟩) (by rw [rc_len zeros_len]; kernel_rfl) (rcL_one (bv_one _) rfl rfl rfl rfl) (by rw [rc_len zeros_len, hz0.out]; omega) (spl_all (by rw [rc_len zeros_len, hz0.out])) ?_)); intro w3 hF3 hz3) | ((with_reducible refine lst (by with_unfolding_all rfl) (wp_cutB T_u8 (hF3.rdOld hr) hnc (lo := (some (1:Int))) (hi := none) (mx := none) ?_ (l := 1) (h := n) (m := c) (by first | (simp; done) | (simp; omega)) (by first | (simp; done) | (simp; omega)) (by first | (simp; done) | (simp; omega)) (by simp) (by omega) (by omega) (by omega) (by omega) ?_)); exact ⟨_, _, _, _, .i64, .i64, .i64, rfl, rfl, rfl, rfl, rfl⟩; intro A2 c2 hr2 hc2 hc3))
  rw [List.take_of_length_le (by have := hlb.out; omega)] at hr2
  refine (hq1.out _ _ _ _ (by omega) hr2).mono ?_
  rintro e w4 ⟨v4, rfl, ho4, hb4⟩
  clear hr2
  obtain ⟨A4, c4, rfl, hn4, hr4⟩ := ho4.arg
  have hF4 := hF3.gotB hb4 ho4
  clear hF1 hF2 hF3 hq1
  by_cases h1 : e1 = 0
  · subst h1
    rw [if_pos rfl] at hD
    go_wp2_with (first | ((with_reducible refine lst (by with_unfolding_all rfl) (wp_cutB T_u8 (hF4.rdOld hr) hnc (lo := (some (1+(u1:Int)))) (hi := none) (mx := none) ?_ (l := (1+u1)) (h := n) (m := c) (by first | (simp; done) | (simp; omega)) (by first | (simp; done) | (simp; omega)) (by first | (simp; done) | (simp; omega)) (by simp) (by omega) (by omega) (by omega) (by omega) ?_)); exact ⟨_, _, _, _, .i64, .i64, .i64, rfl, rfl, rfl, rfl, rfl⟩; intro A2 c2 hr2 hc2 hc3))
    rw [List.take_of_length_le (by have := hlb.out; omega)] at hr2
    refine (hq2.out _ _ _ _ (by omega) hr2).mono ?_
    rintro e w5 ⟨v5, rfl, ho5, hb5⟩
    clear hr2
    obtain ⟨A5, c5, rfl, hn5, hr5⟩ := ho5.arg
    have hF5 := hF4.gotB hb5 ho5
    clear hF4 hq2 hr4 hr5 ho4 ho5
    by_cases h2 : e2 = 0
    · subst h2
      rw [if_pos rfl] at hD
      have hL1 := box (fun (a b t : Value) => rc_len (k := .int .i64 (x.toNat : Int)) (a := a) (b := b) (t := t) zeros_len)
      go_wp2_with (first | (with_reducible refine lst (by with_unfolding_all rfl) (wp_b2s T_u8 Tryd.underlying5 Tryd.underlying9 (hF5.rdOwn (i := 1) rfl) (by with_unfolding_all exact ⟨_, rfl, rfl⟩) ?_)) | ((with_reducible refine lst (by with_unfolding_all rfl) (wp_fst2 hF5 (by with_unfolding_all exact ⟨_, _, rfl, rfl, rfl⟩) (by kernel_rfl) rfl rfl (by rw [hL1.out]; omega) (rcL_1 (v := .string ⟨x1.toArray⟩)) ?_)); intro w6 hF6 hz6) | (with_reducible refine lst (by with_unfolding_all rfl) (wp_b2s T_u8 Tryd.underlying5 Tryd.underlying9 (hF6.rdOwn (i := 0) rfl) (by with_unfolding_all exact ⟨_, rfl, rfl⟩) ?_)) | ((with_reducible refine lst (by with_unfolding_all rfl) (wp_fst2 hF6 (by with_unfolding_all exact ⟨_, _, rfl, rfl, rfl⟩) (by kernel_rfl) rfl rfl (by rw [hL1.out]; omega) (rcL_2 (v := .string ⟨x2.toArray⟩)) ?_)); intro w7 hF7 hz7) | ((with_reducible refine lst (by with_unfolding_all rfl) (wp_cutB T_u8 (hr.below hF7.below) hnc (lo := (some (1+(u1:Int)+(u2:Int)))) (hi := none) (mx := none) ?_ (l := (1+u1+u2)) (h := n) (m := c) (by first | (simp; done) | (simp; omega)) (by first | (simp; done) | (simp; omega)) (by first | (simp; done) | (simp; omega)) (by simp) (by omega) (by omega) (by omega) (by omega) ?_)); exact ⟨_, _, _, _, .i64, .i64, .i64, rfl, rfl, rfl, rfl, rfl⟩; intro A2 c2 hr2 hc2 hc3))
      have hr9 : Rd w (· < w.heap.size) A2 1 (n - (1 + u1 + u2)) ((l.drop (1 + u1 + u2)).map bv) := by
        rw [List.take_of_length_le (by have := hlb.out; omega)] at hr2
        exact hr2.same (fun k hk => (hF7.block k hk (by simp)).symm)
      clear hr2
      have hn9 := hc2
      have hF8 := hF7.tail.tail
      clear hF5 hF6 hF7 hc2 hc3
      have hrl : (l.drop (1 + u1 + u2)).length = n - (1 + u1 + u2) := by rw [List.length_drop, hlb.out]
      have hmm : n - (1 + u1 + u2) ≤ 140737488355000 := by omega
      generalize (x.toNat : Int) = kv at *
      generalize l.drop (1 + u1 + u2) = rest at *
      generalize n - (1 + u1 + u2) = m at *
      clear hxx hu1 hu2 hxb hn4 hn5 he1 he2 h0
      replace hrl := box hrl
      have hDD := box hD
      clear hD
      go_loopw [12] (fun x wr => ∃ i : Nat, i ≤ 32 ∧ i ≤ m ∧ Box (kv ≠ 1 → i = 0) ∧ x = .int .i64 i ∧ Fr [] w wr [.blk g2 24 (rcL (.int .i64 kv) (.string ⟨x1.toArray⟩) (.string ⟨x2.toArray⟩) ((rest.take i ++ zeros.drop i).map bv) (.int .i64 0)), .blk g1 24 rc0]) (fun x _ => 32 - (intOf x).toNat)
      case atStart => exact ⟨0, by omega, by omega, box (fun _ => rfl), rfl, hF8⟩
      case round =>
        clear hF8
        obtain ⟨i, hi, him, hik, rfl, hF⟩ := hrel
        have hlen : Box ((rest.take i ++ zeros.drop i).length = 32) := box (by rw [List.length_append, List.length_take, List.length_drop, zeros_32, hrl.out]; omega)
        have hLL (t : Value) := rc_len (k := .int .i64 kv) (a := .string ⟨x1.toArray⟩) (b := .string ⟨x2.toArray⟩) (t := t) (dg := (rest.take i ++ zeros.drop i).map bv) (by rw [List.length_map]; exact hlen.out)
        replace hLL := box hLL
        go_upto_region 14 with (fail)
        go_cut [72] (fun s72 wx => wx = wr ∧ ∃ b72 : Bool, s72 = .bool b72 ∧ Box (b72 = (decide (i < 32) && (decide (i < m) && decide (kv = 1)))))
        case first =>
          by_cases k1 : i < 32
          · by_cases k2 : i < m
            · by_cases k3 : kv = 1
              · subst k3
                go_wp2_with (first | (with_reducible refine lst (by with_unfolding_all rfl) (wp_fld0 hF Tryd.underlying3 rfl (by with_unfolding_all exact ⟨_, rfl, rfl⟩) rfl ?_)))
                go_meet
                refine ⟨rfl, true, ?_, box (by simp [k1, k2])⟩
                with_unfolding_all rfl
              · have hk3 : (kv == 1) = false := by simpa using k3
                go_wp2_with (first | (with_reducible refine lst (by with_unfolding_all rfl) (wp_fld0 hF Tryd.underlying3 rfl (by with_unfolding_all exact ⟨_, rfl, rfl⟩) rfl ?_)))
                go_meet
                refine ⟨rfl, false, ?_, box (by simp [k3])⟩
                with_unfolding_all rfl
            · have hk2 : ¬ (i : Int) < m := by omega
              go_wp2_with (first | (with_reducible refine lst (by with_unfolding_all rfl) (wp_fld0 hF Tryd.underlying3 rfl (by with_unfolding_all exact ⟨_, rfl, rfl⟩) rfl ?_)))
              go_meet
              refine ⟨rfl, false, ?_, box (by simp [k2])⟩
              with_unfolding_all rfl
          · have hk2 : ¬ (i : Int) < 32 := by omega
            go_wp2_with (first | (with_reducible refine lst (by with_unfolding_all rfl) (wp_fld0 hF Tryd.underlying3 rfl (by with_unfolding_all exact ⟨_, rfl, rfl⟩) rfl ?_)))
            go_meet
            refine ⟨rfl, false, ?_, box (by simp [k1])⟩
            with_unfolding_all rfl
        case rest =>
          obtain ⟨rfl, b72, rfl, hb72⟩ := hcut
          cases b72 with
          | true =>
            obtain ⟨k1, k2, k3⟩ : i < 32 ∧ i < m ∧ kv = 1 := by have := hb72.out; simpa using this.symm
            subst k3
            obtain ⟨y, hy⟩ : ∃ y, rest[i]? = some y := ⟨rest[i]'(by have := hrl.out; omega), by simp⟩
            have hyb := y.toNat_lt
            have hst := box (rec_put (k := .int .i64 1) (a := .string ⟨x1.toArray⟩) (b := .string ⟨x2.toArray⟩) (t := .int .i64 0) k1 hy)
            replace hy := box hy
            go_wp2_with (first | (with_reducible refine lst (by with_unfolding_all rfl) (wp_indexAddr T_u8 (hF.rdOld hr9) (by with_unfolding_all exact ⟨_, _, _, _, rfl, rfl, rfl⟩) (by omega) (by omega) ?_)) | (with_reducible refine lst (by with_unfolding_all rfl) (wp_loadC (hF.rdOld hr9) hy Tryd.underlying5 rfl (by with_unfolding_all exact ⟨_, rfl, rfl⟩) (by first | (simp; done) | (simp; omega) | omega) ?_)) | ((with_reducible refine lst (by with_unfolding_all rfl) (wp_fst0 hF (by with_unfolding_all exact ⟨_, _, rfl, rfl, rfl⟩) (by kernel_rfl) rfl rfl (by rw [hLL.out]; omega) hst.out ?_)); intro w9 hF9 hz9))
            go_roundw
            case rel => exact ⟨i + 1, by omega, by omega, box (fun h => absurd rfl h), by go_num, hF9⟩
            case measure => simp [intOf]; omega
          | false =>
            have hdg : rest.take i ++ zeros.drop i = if kv = 1 then rest.take 32 ++ zeros.drop rest.length else zeros := by
              have hb := hb72.out
              by_cases k3 : kv = 1
              · rw [if_pos k3]
                simp only [k3, decide_true, Bool.and_true, Bool.false_eq, Bool.and_eq_false_iff, decide_eq_false_iff_not] at hb
                have := hrl.out
                rcases hb with hb | hb
                · obtain rfl : i = 32 := by omega
                  rw [List.drop_of_length_le (by rw [zeros_32]; omega), List.drop_of_length_le (by rw [zeros_32]; omega)]
                · obtain rfl : i = m := by omega
                  rw [this, List.take_of_length_le (by omega), List.take_of_length_le (by omega)]
              · rw [if_neg k3, hik.out k3]; rfl
            have hDD2 := hDD.out
            unfold recY at hDD2
            rw [← hdg, hrl.out] at hDD2
            clear hb72 hik hdg hDD
            have hd := hlen
            generalize rest.take i ++ zeros.drop i = d at *
            clear hlen
            by_cases h8 : m < 8
            · rw [if_pos h8] at hDD2
              replace hDD2 := box hDD2
              go_wp2_with (first | (with_reducible refine lst (by with_unfolding_all rfl) (wp_fbuild Tryd.underlying24 (z := .agg (List.toArray rc0)) (by kernel_rfl) (pl := rcP) (by kernel_rfl) (cs := rc0) rfl (vs := []) (by with_unfolding_all rfl) (by with_unfolding_all exact rc0_fill) ?_)) | ((with_reducible refine lst (by with_unfolding_all rfl) (wp_fstA1 hF (by with_unfolding_all exact ⟨_, _, rfl, rfl, rfl⟩) (by rw [hz0.out]; kernel_rfl) rc0_one (by rw [hz0.out]; omega) (spl_all rfl) ?_)); intro w12 hF12 hz12))
              exact bodyPost_ret (results_cellF2_1 hF12 rfl _ rfl Tryd.underlying24 rfl (by rw [hz0.out]; kernel_rfl)) rfl ⟨by rw [hDD2.out]; rfl, hF12.below⟩
            · rw [if_neg h8] at hDD2
              have hg := box (fun A c w hr => rget_any A (m - (m - 8)) c (rest.drop (m - 8)) w (by omega) hr)
              have hg64 := getN_lt 8 (rest.drop (m - 8)) (by rw [List.length_drop, hrl.out]; omega)
              have hm8 : m - (m - 8) ≤ 8 := by omega
              generalize getN (rest.drop (m - 8)) = t at *
              have h8' : ¬ (m : Int) < 8 := by omega
              replace hDD2 := box hDD2
              go_wp2_with (first | ((with_reducible refine lst (by with_unfolding_all rfl) (wp_cutB T_u8 (hF.rdOld hr9) hn9 (lo := (some ((m:Int)-8))) (hi := none) (mx := none) ?_ (l := (m-8)) (h := m) (m := c2) (by first | (simp; done) | (simp; omega)) (by first | (simp; done) | (simp; omega)) (by first | (simp; done) | (simp; omega)) (by simp) (by omega) (by omega) (by omega) (by omega) ?_)); exact ⟨_, _, _, _, .i64, .i64, .i64, rfl, rfl, rfl, rfl, rfl⟩; intro A2 c2 hr2 hc2 hc3))
              rw [List.take_of_length_le (by have := hrl.out; omega)] at hr2
              refine (hg.out _ _ _ hr2).mono ?_
              rintro e w9 ⟨rfl, rfl⟩
              rw [if_pos hm8, decide_eq_true hm8]
              by_cases ht : t ≤ 1099511627776
              · have hD3 := hDD2.out
                rw [if_pos ht] at hD3
                have hgt : decide ((1099511627776 : Int) < (t : Int)) = false := by simp; omega
                have hen := box (fun w => encF_any ⟨kv, ⟨x1.toArray⟩, ⟨x2.toArray⟩, d, (t : Int)⟩ w hd.out (by show ByteArray.size _ ≤ _; rw [str_mk_size]; omega) (by show ByteArray.size _ ≤ _; rw [str_mk_size]; omega))
                simp only [Rec.cells] at hen
                have hbl : Box (recOk ⟨kv, ⟨x1.toArray⟩, ⟨x2.toArray⟩, d, (t : Int)⟩ = true → (recB ⟨kv, ⟨x1.toArray⟩, ⟨x2.toArray⟩, d, (t : Int)⟩).length ≤ 1000) := box (fun h => by
                  obtain ⟨_, _, _, _, h5⟩ := recOk_iff h
                  unfold recB
                  have t1 := textL_len x1 (by omega)
                  have t2 := textL_len x2 (by omega)
                  have p8 := putL_len (t : Int).toNat 8
                  have hdd := hd.out
                  simp only [List.length_append, List.length_cons, List.length_nil]
                  split
                  · omega
                  · simp only [List.length_nil]; omega)
                generalize hok : recOk ⟨kv, ⟨x1.toArray⟩, ⟨x2.toArray⟩, d, (t : Int)⟩ = ok at *
                clear hok
                generalize hbb : recB ⟨kv, ⟨x1.toArray⟩, ⟨x2.toArray⟩, d, (t : Int)⟩ = bs at *
                clear hbb
                replace hD3 := box hD3
                go_wp2_with (first | ((with_reducible refine lst (by with_unfolding_all rfl) (wp_fst0 hF (by with_unfolding_all exact ⟨_, _, rfl, rfl, rfl⟩) (by kernel_rfl) rfl rfl (by rw [hLL.out]; omega) (rcL_35 (v := .int .i64 (t : Int)) (by rw [List.length_map]; exact hd.out)) ?_)); intro w10 hF10 hz10) | (with_reducible refine lst (by with_unfolding_all rfl) (wp_fldA0 hF10 Tryd.underlying24 rfl (by with_unfolding_all exact ⟨_, rfl, rfl⟩) (ds := (rcL (.int .i64 kv) (.string ⟨x1.toArray⟩) (.string ⟨x2.toArray⟩) (d.map bv) (.int .i64 (t : Int)))) (by rw [hLL.out]; kernel_rfl) (take_all _) ?_)))
                refine (hen.out _).mono ?_
                rintro e w11 ⟨v11, rfl, ho11, hb11⟩
                have hF11 := hF10.gotB hb11 ho11
                obtain ⟨A11, c11, rfl, hn11, hr11⟩ := ho11.arg
                cases ok with
                | true =>
                  have hD4 := hD3.out
                  rw [if_pos rfl] at hD4
                  simp only [if_true] at hr11 hF11 hn11 ⊢
                  have hbs : bs.length ≤ 9223372036854775807 := by have := hbl.out rfl; omega
                  go_wp2_with fail
                  refine (same_any _ _ _ _ _ _ bs l _ hbs (hF11.rdOwn (i := 0) rfl) (hF11.rdOld hr)).mono ?_
                  rintro e w12 ⟨rfl, hb12⟩
                  have hF12 := hF11.call hb12
                  clear hF10 hF11 hr11 ho11 hF
                  by_cases hs : bs = l
                  · rw [show (bs == l) = true by simpa using hs]
                    rw [if_pos hs] at hD4
                    replace hD4 := box hD4
                    clear hs
                    go_wp2_with (first | (with_reducible refine lst (by with_unfolding_all rfl) (wp_fldA1 hF12 Tryd.underlying24 rfl (by with_unfolding_all exact ⟨_, rfl, rfl⟩) (ds := (rcL (.int .i64 kv) (.string ⟨x1.toArray⟩) (.string ⟨x2.toArray⟩) (d.map bv) (.int .i64 (t : Int)))) (by rw [hLL.out]; kernel_rfl) (take_all _) ?_)) | ((with_reducible refine lst (by with_unfolding_all rfl) (wp_fstA2 hF12 (by with_unfolding_all exact ⟨_, _, rfl, rfl, rfl⟩) (by rw [hLL.out]; kernel_rfl) (rcL_one (bv_one _) rfl rfl rfl rfl) (by rw [hLL.out, hz0.out]; omega) (spl_all (by rw [hLL.out, hz0.out])) ?_)); intro w13 hF13 hz13))
                    exact bodyPost_ret (results_cellF2_2 hF13 rfl _ rfl Tryd.underlying24 rfl (by rw [hLL.out]; kernel_rfl)) rfl ⟨by rw [hD4.out]; rfl, hF13.below⟩
                  · rw [show (bs == l) = false by simpa using hs]
                    rw [if_neg hs] at hD4
                    replace hD4 := box hD4
                    clear hs
                    go_wp2_with (first | (with_reducible refine lst (by with_unfolding_all rfl) (wp_fbuild Tryd.underlying24 (z := .agg (List.toArray rc0)) (by kernel_rfl) (pl := rcP) (by kernel_rfl) (cs := rc0) rfl (vs := []) (by with_unfolding_all rfl) (by with_unfolding_all exact rc0_fill) ?_)) | ((with_reducible refine lst (by with_unfolding_all rfl) (wp_fstA2 hF12 (by with_unfolding_all exact ⟨_, _, rfl, rfl, rfl⟩) (by rw [hz0.out]; kernel_rfl) rc0_one (by rw [hz0.out]; omega) (spl_all rfl) ?_)); intro w13 hF13 hz13))
                    exact bodyPost_ret (results_cellF2_2 hF13 rfl _ rfl Tryd.underlying24 rfl (by rw [hz0.out]; kernel_rfl)) rfl ⟨by rw [hD4.out]; rfl, hF13.below⟩
                | false =>
                  have hD4 := hD3.out
                  rw [if_neg (by decide)] at hD4
                  simp only [Bool.false_eq_true, if_false] at hr11 hF11 hn11 ⊢
                  replace hD4 := box hD4
                  go_wp2_with (first | (with_reducible refine lst (by with_unfolding_all rfl) (wp_fbuild Tryd.underlying24 (z := .agg (List.toArray rc0)) (by kernel_rfl) (pl := rcP) (by kernel_rfl) (cs := rc0) rfl (vs := []) (by with_unfolding_all rfl) (by with_unfolding_all exact rc0_fill) ?_)) | ((with_reducible refine lst (by with_unfolding_all rfl) (wp_fstA2 hF11 (by with_unfolding_all exact ⟨_, _, rfl, rfl, rfl⟩) (by rw [hz0.out]; kernel_rfl) rc0_one (by rw [hz0.out]; omega) (spl_all rfl) ?_)); intro w12 hF12 hz12))
                  exact bodyPost_ret (results_cellF2_2 hF12 rfl _ rfl Tryd.underlying24 rfl (by rw [hz0.out]; kernel_rfl)) rfl ⟨by rw [hD4.out]; rfl, hF12.below⟩
              · have hD3 := hDD2.out
                rw [if_neg ht] at hD3
                have hgt : decide ((1099511627776 : Int) < (t : Int)) = true := by simp; omega
                replace hD3 := box hD3
                go_wp2_with (first | (with_reducible refine lst (by with_unfolding_all rfl) (wp_fbuild Tryd.underlying24 (z := .agg (List.toArray rc0)) (by kernel_rfl) (pl := rcP) (by kernel_rfl) (cs := rc0) rfl (vs := []) (by with_unfolding_all rfl) (by with_unfolding_all exact rc0_fill) ?_)) | ((with_reducible refine lst (by with_unfolding_all rfl) (wp_fstA1 hF (by with_unfolding_all exact ⟨_, _, rfl, rfl, rfl⟩) (by rw [hz0.out]; kernel_rfl) rc0_one (by rw [hz0.out]; omega) (spl_all rfl) ?_)); intro w12 hF12 hz12))
                exact bodyPost_ret (results_cellF2_1 hF12 rfl _ rfl Tryd.underlying24 rfl (by rw [hz0.out]; kernel_rfl)) rfl ⟨by rw [hD3.out]; rfl, hF12.below⟩
    · rw [if_neg h2] at hD
      have hne : ((e2 : Int) != 0) = true := by simp; omega
      clear h2
      go_wp2_with (first | (with_reducible refine lst (by with_unfolding_all rfl) (wp_fbuild Tryd.underlying24 (z := .agg (List.toArray rc0)) (by kernel_rfl) (pl := rcP) (by kernel_rfl) (cs := rc0) rfl (vs := []) (by with_unfolding_all rfl) (by with_unfolding_all exact rc0_fill) ?_)) | ((with_reducible refine lst (by with_unfolding_all rfl) (wp_fstA3 hF5 (by with_unfolding_all exact ⟨_, _, rfl, rfl, rfl⟩) (by rw [hz0.out]; kernel_rfl) rc0_one (by rw [hz0.out]; omega) (spl_all rfl) ?_)); intro w6 hF6 hz6))
      exact bodyPost_ret (results_cellF2_3 hF6 rfl _ rfl Tryd.underlying24 rfl (by rw [hz0.out]; kernel_rfl)) rfl ⟨by rw [hD]; rfl, hF6.below⟩
  · rw [if_neg h1] at hD
    have hne : ((e1 : Int) != 0) = true := by simp; omega
    clear h1
    go_wp2_with (first | (with_reducible refine lst (by with_unfolding_all rfl) (wp_fbuild Tryd.underlying24 (z := .agg (List.toArray rc0)) (by kernel_rfl) (pl := rcP) (by kernel_rfl) (cs := rc0) rfl (vs := []) (by with_unfolding_all rfl) (by with_unfolding_all exact rc0_fill) ?_)) | ((with_reducible refine lst (by with_unfolding_all rfl) (wp_fstA2 hF4 (by with_unfolding_all exact ⟨_, _, rfl, rfl, rfl⟩) (by rw [hz0.out]; kernel_rfl) rc0_one (by rw [hz0.out]; omega) (spl_all rfl) ?_)); intro w5 hF5 hz5))
    exact bodyPost_ret (results_cellF2_2 hF5 rfl _ rfl Tryd.underlying24 rfl (by rw [hz0.out]; kernel_rfl)) rfl ⟨by rw [hD]; rfl, hF5.below⟩
end Go.Proofs.YtpdbjhgphgcjoaaDoor
