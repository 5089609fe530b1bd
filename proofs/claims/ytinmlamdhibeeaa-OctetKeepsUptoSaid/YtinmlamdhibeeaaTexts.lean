/-
  OctetTexts: the law's walk.
-/
import Derived.Test.YtinmlamdhibeeaaWB
import Derived.Test.YtinmlamdhibeeaaPlain2
namespace Go.Proofs.Ytinmlamdhibeeaa
open Go.RowKit

theorem textL_len (l : List UInt8) (h : l.length ≤ 1048576) : (textL l).length ≤ l.length + 10 := by
  unfold textL
  have := cnt_len64 (n := l.length) (by omega)
  rw [List.length_append]; omega
theorem rdt_back (l m : List UInt8) (h : l.length ≤ 1048576) : rdt (textL l ++ m) (l.length : Int) = (l, (textL l).length, 0) := by
  have hb := rdc_back l.length (l ++ m) (by omega)
  unfold rdt textL
  rw [List.append_assoc, hb]
  simp only []
  rw [if_neg (by decide), if_neg (by omega), if_neg (by simp only [List.length_append]; omega)]
  simp
theorem rdt_less (l : List UInt8) (h : l.length ≤ 1048576) : (rdt (textL l) ((l.length : Int) - 1)).2.2 = 8 := by
  have hb := rdc_back l.length l (by omega)
  unfold rdt textL
  rw [hb]
  simp only []
  rw [if_neg (by decide), if_pos (by omega)]
theorem rdt_err (l : List UInt8) (most : Int) : (rdt l most).2.2 ≤ 10 := by
  have h := rdc_err l 0 0
  unfold rdt
  simp only []
  repeat' split
  all_goals simp only []
  all_goals omega
theorem rdt_fst (l : List UInt8) (most : Int) : (rdt l most).1.length ≤ l.length := by
  unfold rdt
  simp only []
  repeat' split
  all_goals simp only [List.length_nil, List.length_take, List.length_drop]
  all_goals omega
theorem rdt_snd (l : List UInt8) (most : Int) : (rdt l most).2.1 ≤ l.length := by
  have h := rdc_used l 0 0
  unfold rdt
  simp only []
  repeat' split
  all_goals simp only []
  all_goals omega

set_option maxRecDepth 20000 in
set_option maxHeartbeats 1600000 in
theorem octetTexts_any (A B : Option Addr) (n c m d : Nat) (l k : List UInt8) (most : Int) (w : World) (hn : n ≤ 1048576) (hm : m ≤ 1048576) (hnc : n ≤ c) (hmo : Box (most ≤ 9223372036854775807)) (hr : Rd w (· < w.heap.size) A 1 n (l.map bv)) (hk : Rd w (· < w.heap.size) B 1 m (k.map bv)) :
    Calls Try.prog 9 #[.slice A n c, .slice B m d, .int .i64 most] w fun e w' => e = .returned (.bool true) ∧ Below w.heap.size w w' := by
  have hln := hr.bytes_len
  have hkm := hk.bytes_len
  have h1 := box (fun w h => readText_any A n c l most w (by omega) hnc hmo.out h)
  have h2 := box (fun w h => rreadText_any A n c l most w (by omega) hmo.out h)
  have hR := rdt_fst l most
  have hE := rdt_err l most
  have hU := rdt_snd l most
  have hT := textL_len l (by omega)
  have hback := rdt_back l k (by omega)
  have hless := rdt_less l (by omega)
  have ht := box (fun w h => text_any A n c l w (by omega) h)
  have ht2 := box (fun w h => rtext_any A n c l w (by omega) h)
  generalize rdt l most = Z at *
  obtain ⟨R, u, er⟩ := Z
  simp only [] at hR hE hU h1 h2
  generalize textL l = T at *
  rw [hln] at hback hless
  replace hback := box hback
  replace hless := box hless
  go_enter Try.func9, Try.ntmps9
  go_wp2_with fail
  refine (h1.out w hr).mono ?_
  rintro e w1 ⟨v1, rfl, hown1, hb1⟩
  obtain ⟨A1, c1, rfl, hc1, hr1⟩ := hown1.arg
  go_wp2_with fail
  refine (h2.out w1 (hr.on hb1)).mono ?_
  rintro e w2 ⟨v2, rfl, hown2, hb2⟩
  obtain ⟨A2, c2, rfl, hc2, hr2⟩ := hown2.arg
  have hb12 := blw hb1 hb2
  go_wp2_with fail
  refine (ht.out w2 (hr.on hb12)).mono ?_
  rintro e w3 ⟨v3, rfl, hown3, hb3⟩
  obtain ⟨A3, c3, rfl, hc3, hr3⟩ := hown3.arg
  have hb13 := blw hb12 hb3
  go_wp2_with fail
  refine (awake_any w3).mono ?_
  rintro e w4 ⟨rfl, hb4⟩
  have hb14 := blw hb13 hb4
  go_wp2_with fail
  refine (same_any A1 A2 _ _ c1 c2 R R w4 (by omega) (hr1.on (blw hb2 (blw hb3 hb4))) (hr2.on (blw hb3 hb4))).mono ?_
  rintro e w5 ⟨rfl, hb5⟩
  rw [beq_self_eq_true]
  have hb15 := blw hb14 hb5
  go_wp2_with fail
  refine (ht2.out w5 (hr.on hb15)).mono ?_
  rintro e w6 ⟨v6, rfl, hown6, hb6⟩
  obtain ⟨A6, c6, rfl, hc6, hr6⟩ := hown6.arg
  have hb16 := blw hb15 hb6
  have hr36 := hr3.on (blw hb4 (blw hb5 hb6))
  go_wp2_with fail
  refine (same_any A3 A6 _ _ c3 c6 T T w6 (by omega) hr36 hr6).mono ?_
  rintro e w7 ⟨rfl, hb7⟩
  rw [beq_self_eq_true]
  have hb17 := blw hb16 hb7
  have hr37 := hr36.on hb7
  clear hown1 hown2 hown3 hown6 hr1 hr2 hr3 hr36 hr6 hb1 hb2 hb3 hb4 hb5 hb6 hb7 hb12 hb13 hb14 hb15 hb16
  go_wp2_with fail
  refine (twin_any A3 _ c3 T w7 (by omega) hr37).mono ?_
  rintro e w8 ⟨v8, rfl, hown8, hb8⟩
  have hroom : T.length + m ≤ 140737488355328 := by omega
  have hB8 : w7.heap.size ≤ w8.heap.size := hb8.size
  have hk8 := hk.on (blw hb17 hb8)
  have hb78 := hb8
  go_wp2_with (first | (at_builtin; go_must (with_reducible refine lst (by with_unfolding_all rfl) (wp_appB T_u8 hown8 hb8 hk8 (by with_unfolding_all exact ⟨_, _, rfl, rfl, rfl⟩) hroom hB8 ?_); intro v' w1 hown1 hb1 hg1 hB1)))
  obtain ⟨A9, c9, rfl, hc9, hr9⟩ := hown1.arg
  have hb19 := blw hb17 hb1
  have hr39 := hr37.on hb1
  have hc := readText_any A9 (T ++ k).length c9 (T ++ k) (n : Int) w1 (by rw [List.length_append]; omega) hc9 (by omega) hr9
  rw [hback.out] at hc
  refine hc.mono ?_
  rintro e w2 ⟨v2, rfl, hown2, hb2⟩
  obtain ⟨A10, c10, rfl, hc10, hr10⟩ := hown2.arg
  have hb20 := blw hb19 hb2
  have hr40 := hr39.on hb2
  clear hown1 hown8 hown2 hb1 hb8 hb78 hr9 hc hB8 hroom
  go_wp2_with fail
  have hc := readText_any A3 T.length c3 T ((n : Int) - 1) w2 (by omega) hc3 (by omega) hr40
  generalize rdt T ((n : Int) - 1) = Z at *
  obtain ⟨z1, z2, z3⟩ := Z
  have hz3 : z3 = 8 := hless.out
  subst hz3
  refine hc.mono ?_
  rintro e w3 ⟨v3, rfl, hown3, hb3⟩
  have hb21 := blw hb20 hb3
  have hs := same_any A10 A _ _ c10 c l l w3 (by omega) (hr10.on hb3) (hr.on hb21)
  rw [beq_self_eq_true, hln] at hs
  clear hc hown3
  go_wp2_with fail
  refine hs.mono ?_
  rintro e w4 ⟨rfl, hb4⟩
  go_wp2_with fail
  go_ret
  exact ⟨rfl, blw hb21 hb4⟩
end Go.Proofs.Ytinmlamdhibeeaa
