/-
  Layer 7: the walks of a sum's text, further: the document's Parse; both Text.
-/
import Derived.Test.YtgcoebndhnijgaaDoorN8
namespace Go.Proofs.YtgcoebndhnijgaaDoor
open Go.RowKit

def part (l m : List UInt8) (j : Nat) : List UInt8 := l.take j ++ m.drop j
theorem part_set {l m : List UInt8} {j : Nat} {x : UInt8} (hx : l[j]? = some x) (_ : j < m.length) : spl ((part l m j).map bv) j [.int .u8 (x.toNat : Int)] = (part l m (j + 1)).map bv := by
  have hjl : j < l.length := (List.getElem?_eq_some_iff.1 hx).1
  unfold spl part
  have h1 : ((l.take j ++ m.drop j).map bv).take j = (l.take j).map bv := by
    rw [← List.map_take, List.take_append_of_le_length (by simp; omega), List.take_take, Nat.min_self]
  have h2 : ((l.take j ++ m.drop j).map bv).drop (j + 1) = (m.drop (j + 1)).map bv := by
    rw [← List.map_drop, List.drop_append, List.drop_of_length_le (by simp; omega), List.nil_append, List.drop_drop]
    congr 2; simp; omega
  rw [h1]
  simp only [List.length_cons, List.length_nil, Nat.zero_add]
  rw [h2, take_snoc hx]
  simp [bv]
theorem part_0 (l m : List UInt8) : part l m 0 = m := by simp [part]
theorem part_all {l m : List UInt8} {j : Nat} (hj : m.length ≤ j) : part l m j = l.take j := by unfold part; rw [List.drop_of_length_le hj, List.append_nil]
theorem part_len {l m : List UInt8} {j : Nat} (hl : j ≤ l.length) (hm : j ≤ m.length) : (part l m j).length = m.length := by unfold part; simp; omega

set_option maxRecDepth 20000 in
set_option maxHeartbeats 1600000 in
theorem dgParseF_any (s : ByteArray) (w : World) (hs : s.size ≤ 140737488355000) :
    Calls Tryd.prog 30 #[.string s] w fun e w' => e = .returned (.tuple #[.agg (((dgP s.data.toList).getD zeros).map bv).toArray, .bool (dgP s.data.toList).isSome]) ∧ Below w.heap.size w w' := by
  have hF0 := Fr.nil w
  have hz0 := box zeros_len
  have hlb := str_len s
  by_cases h71 : s.size = 71
  · have hl : (71 : Nat) ≤ s.size := by omega
    have hE : ((s.size : Int) != 71) = false := by rw [bne_eq_false_iff_eq]; omega
    have hux := box (fun w => runhex_any (s.extract 7 s.size) w (by rw [ext_size]; omega) (unhexL (s.data.toList.drop 7)).isSome ((unhexL (s.data.toList.drop 7)).getD []) (box (by rw [ext_list]; exact ⟨rfl, rfl⟩)))
    cases hu : unhexL (s.data.toList.drop 7) with
    | none =>
      have hno : dgP s.data.toList = none := by
        by_cases h7 : s.data.toList.take 7 = sha7
        · rw [dgP_yes (by rw [hlb]; exact h71) h7, hu]
        · exact dgP_no2 h7
      rw [hno]
      rw [hu] at hux
      simp only [Option.isSome_none, Option.getD_none] at hux ⊢
      clear h71 hlb
      replace hu := box hu
      replace hno := box hno
      go_enter Tryd.func30, Tryd.ntmps30
      go_wp2_with (first | ((with_reducible refine lst (by with_unfolding_all rfl) (wp_falloc hF0 (cs := (zeros.map bv)) (z := .agg (List.toArray ((zeros.map bv)))) rfl (by kernel_rfl) (by with_unfolding_all rfl) ?_)); intro w1 g1 hF1 hz1) | ((with_reducible refine lst (by with_unfolding_all rfl) (wp_falloc hF1 (cs := (zeros.map bv)) (z := .agg (List.toArray ((zeros.map bv)))) rfl (by kernel_rfl) (by with_unfolding_all rfl) ?_)); intro w2 g2 hF2 hz2))
      refine (hux.out _).mono ?_
      rintro e w3 ⟨v3, rfl, ho3, hb3⟩
      have hF4 := hF2.call hb3
      go_wp2_with (first | (with_reducible refine lst (by with_unfolding_all rfl) (wp_fldA0 hF4 Tryd.underlying25 rfl (by with_unfolding_all exact ⟨_, rfl, rfl⟩) (ds := (zeros.map bv)) (by rw [hz0.out]; kernel_rfl) (take_all _) ?_)) | ((with_reducible refine lst (by with_unfolding_all rfl) (wp_fstA1 hF4 (by with_unfolding_all exact ⟨_, _, rfl, rfl, rfl⟩) (by rw [hz0.out]; kernel_rfl) (bv_one _) (by rw [hz0.out]; omega) (spl_all rfl) ?_)); intro w5 hF5 hz5))
      exact bodyPost_ret (results_cellF2 rfl _ hF5 (i := 1) rfl rfl Tryd.underlying25 rfl (by rw [hz0.out]; kernel_rfl)) rfl ⟨rfl, hF5.below⟩
    | some d =>
      by_cases h7 : s.data.toList.take 7 = sha7
      · have hyes : dgP s.data.toList = some d := by rw [dgP_yes (by rw [hlb]; exact h71) h7, hu]
        have hd := box (dgP_len hyes)
        rw [hyes]
        rw [hu] at hux
        simp only [Option.isSome_some, Option.getD_some] at hux ⊢
        have hq : ((s.extract 0 7).toList == [115, 104, 97, 50, 53, 54, 58]) = true := by
          rw [beq_iff_eq, ByteArray.toList_eq, ext_take]; exact h7
        clear h71 hlb
        replace hu := box hu
        replace h7 := box h7
        replace hyes := box hyes
        have hdm : Box ((d.map bv).length = 32) := box (by rw [List.length_map]; exact hd.out)
        go_enter Tryd.func30, Tryd.ntmps30
        go_wp2_with (first | ((with_reducible refine lst (by with_unfolding_all rfl) (wp_falloc hF0 (cs := (zeros.map bv)) (z := .agg (List.toArray ((zeros.map bv)))) rfl (by kernel_rfl) (by with_unfolding_all rfl) ?_)); intro w1 g1 hF1 hz1) | ((with_reducible refine lst (by with_unfolding_all rfl) (wp_falloc hF1 (cs := (zeros.map bv)) (z := .agg (List.toArray ((zeros.map bv)))) rfl (by kernel_rfl) (by with_unfolding_all rfl) ?_)); intro w2 g2 hF2 hz2))
        refine (hux.out _).mono ?_
        rintro e w3 ⟨v3, rfl, ho3, hb3⟩
        obtain ⟨A3, c3, rfl, hc3, _⟩ := ho3.arg
        have hF4 := hF2.gotB hb3 ho3
        clear hF0 hF1 hF2 hz1 hz2 hb3 ho3
        go_wp2_with fail
        go_loopw [7] (fun i wr => ∃ j : Nat, j ≤ 32 ∧ i = .int .i64 j ∧ Fr [] w wr [Ent.bytes w.heap.size 5 (.slice A3 d.length c3) d, .blk g2 25 ((part d zeros j).map bv), .blk g1 25 (zeros.map bv)]) (fun i _ => 32 - (intOf i).toNat)
        case atStart => exact ⟨0, by omega, rfl, by rw [part_0]; exact hF4⟩
        case round =>
          clear hF4
          obtain ⟨j, hj, rfl, hF⟩ := hrel
          by_cases hlt : j < 32
          · obtain ⟨x, hx⟩ : ∃ x, d[j]? = some x := ⟨d[j]'(by have := hd.out; omega), by simp⟩
            have hps := box (part_set (m := zeros) hx (by simp [zeros]; omega))
            have hr := hF.rdOwn (i := 0) rfl
            have hjd : j < d.length := by have := hd.out; omega
            have hpl : Box ((part d zeros j).length = 32) := box (by rw [part_len (by omega) (by simp [zeros]; omega)]; simp [zeros])
            replace hx := box hx
            go_wp2_with (first | (with_reducible refine lst (by with_unfolding_all rfl) (wp_indexAddr T_u8 hr (by with_unfolding_all exact ⟨_, _, _, _, rfl, rfl, rfl⟩) (by omega) (by omega) ?_)) | (with_reducible refine lst (by with_unfolding_all rfl) (wp_loadC hr hx Tryd.underlying5 rfl (by with_unfolding_all exact ⟨_, rfl, rfl⟩) (by first | (simp; done) | (simp; omega) | omega) ?_)) | ((with_reducible refine lst (by with_unfolding_all rfl) (wp_fst1 hF (by with_unfolding_all exact ⟨_, _, rfl, rfl, rfl⟩) (by kernel_rfl) rfl rfl (by have := hpl.out; simp; omega) hps.out ?_)); intro w3 hF3 hz3))
            go_roundw
            case rel => exact ⟨j + 1, by omega, by go_num, hF3⟩
            case measure => simp [intOf]; omega
          · obtain rfl : j = 32 := by omega
            have hpa : part d zeros 32 = d := by rw [part_all (by simp [zeros]), List.take_of_length_le (by have := hd.out; omega)]
            rw [hpa] at hF
            clear hpa
            go_wp2_with (first | (with_reducible refine lst (by with_unfolding_all rfl) (wp_fldA1 hF Tryd.underlying25 rfl (by with_unfolding_all exact ⟨_, rfl, rfl⟩) (ds := (d.map bv)) (by rw [hdm.out]; kernel_rfl) (take_all _) ?_)) | ((with_reducible refine lst (by with_unfolding_all rfl) (wp_fstA2 hF (by with_unfolding_all exact ⟨_, _, rfl, rfl, rfl⟩) (by rw [hdm.out]; kernel_rfl) (bv_one _) (by rw [hdm.out, hz0.out]; omega) (spl_all (by rw [hdm.out, hz0.out])) ?_)); intro w6 hF6 hz6))
            exact bodyPost_ret (results_cellF2 rfl _ hF6 (i := 2) rfl rfl Tryd.underlying25 rfl (by rw [hdm.out]; kernel_rfl)) rfl ⟨rfl, hF6.below⟩
      · rw [dgP_no2 h7]
        rw [hu] at hux
        simp only [Option.isSome_some, Option.isSome_none, Option.getD_some, Option.getD_none] at hux ⊢
        have hq : ((s.extract 0 7).toList == [115, 104, 97, 50, 53, 54, 58]) = false := by
          rw [beq_eq_false_iff_ne, ByteArray.toList_eq, ext_take]; exact h7
        clear h71 hlb
        replace hu := box hu
        replace h7 := box h7
        go_enter Tryd.func30, Tryd.ntmps30
        go_wp2_with (first | ((with_reducible refine lst (by with_unfolding_all rfl) (wp_falloc hF0 (cs := (zeros.map bv)) (z := .agg (List.toArray ((zeros.map bv)))) rfl (by kernel_rfl) (by with_unfolding_all rfl) ?_)); intro w1 g1 hF1 hz1) | ((with_reducible refine lst (by with_unfolding_all rfl) (wp_falloc hF1 (cs := (zeros.map bv)) (z := .agg (List.toArray ((zeros.map bv)))) rfl (by kernel_rfl) (by with_unfolding_all rfl) ?_)); intro w2 g2 hF2 hz2))
        refine (hux.out _).mono ?_
        rintro e w3 ⟨v3, rfl, ho3, hb3⟩
        have hF4 := hF2.call hb3
        go_wp2_with (first | (with_reducible refine lst (by with_unfolding_all rfl) (wp_fldA0 hF4 Tryd.underlying25 rfl (by with_unfolding_all exact ⟨_, rfl, rfl⟩) (ds := (zeros.map bv)) (by rw [hz0.out]; kernel_rfl) (take_all _) ?_)) | ((with_reducible refine lst (by with_unfolding_all rfl) (wp_fstA1 hF4 (by with_unfolding_all exact ⟨_, _, rfl, rfl, rfl⟩) (by rw [hz0.out]; kernel_rfl) (bv_one _) (by rw [hz0.out]; omega) (spl_all rfl) ?_)); intro w5 hF5 hz5))
        exact bodyPost_ret (results_cellF2 rfl _ hF5 (i := 1) rfl rfl Tryd.underlying25 rfl (by rw [hz0.out]; kernel_rfl)) rfl ⟨rfl, hF5.below⟩
  · rw [dgP_no1 (by rw [hlb]; exact h71)]
    have hE : ((s.size : Int) != 71) = true := by rw [bne_iff_ne]; omega
    clear hlb
    replace h71 := box h71
    go_enter Tryd.func30, Tryd.ntmps30
    go_wp2_with (first | ((with_reducible refine lst (by with_unfolding_all rfl) (wp_falloc hF0 (cs := (zeros.map bv)) (z := .agg (List.toArray ((zeros.map bv)))) rfl (by kernel_rfl) (by with_unfolding_all rfl) ?_)); intro w1 g1 hF1 hz1) | ((with_reducible refine lst (by with_unfolding_all rfl) (wp_falloc hF1 (cs := (zeros.map bv)) (z := .agg (List.toArray ((zeros.map bv)))) rfl (by kernel_rfl) (by with_unfolding_all rfl) ?_)); intro w2 g2 hF2 hz2) | (with_reducible refine lst (by with_unfolding_all rfl) (wp_fldA0 hF2 Tryd.underlying25 rfl (by with_unfolding_all exact ⟨_, rfl, rfl⟩) (ds := (zeros.map bv)) (by rw [hz0.out]; kernel_rfl) (take_all _) ?_)) | ((with_reducible refine lst (by with_unfolding_all rfl) (wp_fstA1 hF2 (by with_unfolding_all exact ⟨_, _, rfl, rfl, rfl⟩) (by rw [hz0.out]; kernel_rfl) (bv_one _) (by rw [hz0.out]; omega) (spl_all rfl) ?_)); intro w3 hF3 hz3))
    exact bodyPost_ret (results_cellF2 rfl _ hF3 (i := 1) rfl rfl Tryd.underlying25 rfl (by rw [hz0.out]; kernel_rfl)) rfl ⟨rfl, hF3.below⟩

theorem str_app (a b : ByteArray) : (a ++ b).data.toList = a.data.toList ++ b.data.toList := by simp
theorem str_ext {a b : ByteArray} (h : a.data.toList = b.data.toList) : a = b := ByteArray.ext (Array.ext' h)
theorem dgT_str (d : List UInt8) : (⟨(dgT d).toArray⟩ : ByteArray) = ⟨#[115, 104, 97, 50, 53, 54, 58]⟩ ++ ⟨(hexL d).toArray⟩ := str_ext (by rw [str_app]; rfl)
set_option maxRecDepth 20000 in
set_option maxHeartbeats 800000 in
theorem dgText_any (d : List UInt8) (w : World) (hd : d.length = 32) : Calls Tryd.prog 31 #[.agg (d.map bv).toArray] w fun e w' => e = .returned (.string ⟨(dgT d).toArray⟩) ∧ Below w.heap.size w w' := by
  have hF0 := Fr.nil w
  replace hd := box hd
  have hdm : Box ((d.map bv).length = 32) := box (by rw [List.length_map]; exact hd.out)
  go_enter Tryd.func31, Tryd.ntmps31
  go_wp2_with (first | ((with_reducible refine lst (by with_unfolding_all rfl) (wp_fbox hF0 (cs := (d.map bv)) rfl (by with_unfolding_all rfl) (by with_unfolding_all rfl) ?_)); intro w1 g1 hF1 hz1))
  have hr := hF1.rdBlk (i := 0) (off := 0) (n := 32) (xs := d.map bv) rfl hdm.out (by rw [List.drop_zero, List.take_of_length_le (by have := hdm.out; omega)])
  refine (hex_any _ 32 _ d _ (by omega) hr).mono ?_
  rintro e w2 ⟨rfl, hb2⟩
  have hF2 := hF1.call hb2
  have hlen : (hexL d).length ≤ 64 := by rw [hexL_len2, hd.out]; exact Nat.le_refl _
  go_wp2_with fail
  go_ret
  exact ⟨by rw [dgT_str]; rfl, hF2.below⟩
set_option maxRecDepth 20000 in
set_option maxHeartbeats 800000 in
theorem dgTextF_any (d : List UInt8) (w : World) (hd : d.length = 32) : Calls Tryd.prog 32 #[.agg (d.map bv).toArray] w fun e w' => e = .returned (.string ⟨(dgT d).toArray⟩) ∧ Below w.heap.size w w' := by
  have hF0 := Fr.nil w
  replace hd := box hd
  have hdm : Box ((d.map bv).length = 32) := box (by rw [List.length_map]; exact hd.out)
  go_enter Tryd.func32, Tryd.ntmps32
  go_wp2_with (first | ((with_reducible refine lst (by with_unfolding_all rfl) (wp_fbox hF0 (cs := (d.map bv)) rfl (by with_unfolding_all rfl) (by with_unfolding_all rfl) ?_)); intro w1 g1 hF1 hz1))
  have hr := hF1.rdBlk (i := 0) (off := 0) (n := 32) (xs := d.map bv) rfl hdm.out (by rw [List.drop_zero, List.take_of_length_le (by have := hdm.out; omega)])
  refine (rhex_any _ 32 _ d _ (by omega) hr).mono ?_
  rintro e w2 ⟨rfl, hb2⟩
  have hF2 := hF1.call hb2
  have hlen : (hexL d).length ≤ 64 := by rw [hexL_len2, hd.out]; exact Nat.le_refl _
  go_wp2_with fail
  go_ret
  exact ⟨by rw [dgT_str]; rfl, hF2.below⟩
end Go.Proofs.YtgcoebndhnijgaaDoor
