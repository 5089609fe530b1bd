/-
  OctetHexes: the law's walk.
-/
import Derived.Test.YtinmlamdhibeeaaWB
import Derived.Test.YtinmlamdhibeeaaPlain3
namespace Go.Proofs.Ytinmlamdhibeeaa
open Go.RowKit

set_option maxRecDepth 20000 in
set_option maxHeartbeats 1600000 in
theorem octetHexes_any (A : Option Addr) (n c : Nat) (l : List UInt8) (s : ByteArray) (w : World) (hm : n ≤ 1048576) (hs : s.size ≤ 1048576) (hr : Rd w (· < w.heap.size) A 1 n (l.map bv)) :
    Calls Try.prog 11 #[.slice A n c, .string s] w fun e w' => e = .returned (.bool true) ∧ Below w.heap.size w w' := by
  obtain ⟨E, R, B, hE⟩ : ∃ (E : Int) (R : List UInt8) (B : Bool), (R = (unhexL s.data.toList).getD [] ∧ E = if (unhexL s.data.toList).isSome then 0 else 10) ∧ (R = (unhexL s.data.toList).getD [] ∧ B = (unhexL s.data.toList).isSome) := ⟨_, _, _, ⟨rfl, rfl⟩, ⟨rfl, rfl⟩⟩
  replace hE := box hE
  go_enter Try.func11, Try.ntmps11
  go_wp2_with fail
  refine (unhex_any s w (by omega) E R (box hE.out.1)).mono ?_
  rintro e w1 ⟨v1, rfl, hown1, hb1⟩
  obtain ⟨A1, c1, rfl, hc1, hr1⟩ := hown1.arg
  go_wp2_with fail
  refine (runhex_any s w1 (by omega) B R (box hE.out.2)).mono ?_
  rintro e w2 ⟨v2, rfl, hown2, hb2⟩
  obtain ⟨A2, c2, rfl, hc2, hr2⟩ := hown2.arg
  go_wp2_with fail
  have hln := hr.bytes_len
  have hb12 := blw hb1 hb2
  have hr3 := hr.on hb12
  refine (hex_any A n c l w2 (by omega) hr3).mono ?_
  rintro e w3 ⟨rfl, hb3⟩
  have hs3 : unhexL (ByteArray.mk (hexL l).toArray).data.toList = some l := unhex_hex l
  have hz3 : (ByteArray.mk (hexL l).toArray).size = 2 * n := by rw [str_mk_size, hexL_len, hln]
  have hx3 := box (fun w => hex_any A n c l w (by omega))
  have hx4 := box (fun w => rhex_any A n c l w (by omega))
  generalize ByteArray.mk (hexL l).toArray = G at *
  have hb13 := blw hb12 hb3
  go_wp2_with fail
  refine (unhex_any G w3 (by omega) 0 l (box (by rw [hs3]; exact ⟨rfl, rfl⟩))).mono ?_
  rintro e w4 ⟨v4, rfl, hown4, hb4⟩
  obtain ⟨A4, c4, rfl, hc4, hr4⟩ := hown4.arg
  have hb14 := blw hb13 hb4
  clear hs3
  go_wp2_with fail
  refine (awake_any w4).mono ?_
  rintro e w5 ⟨rfl, hb5⟩
  have hb15 := blw hb14 hb5
  go_wp2_with fail
  refine (hx3.out w5 (hr.on hb15)).mono ?_
  rintro e w6 ⟨rfl, hb6⟩
  have hb16 := blw hb15 hb6
  go_wp2_with fail
  refine (hx4.out w6 (hr.on hb16)).mono ?_
  rintro e w7 ⟨rfl, hb7⟩
  have hb17 := blw hb16 hb7
  go_wp2_with fail
  have hRl : R.length ≤ 1048576 := by
    rw [hE.out.1.1]
    cases hu : unhexL s.data.toList with
    | none => simp
    | some r => have := unhex_len _ _ hu; rw [str_len] at this; simp; omega
  have hr1' := hr1.on (blw hb2 (blw hb3 (blw hb4 (blw hb5 (blw hb6 hb7)))))
  have hr2' := hr2.on (blw hb3 (blw hb4 (blw hb5 (blw hb6 hb7))))
  refine (same_any A1 A2 _ _ c1 c2 R R w7 (by omega) hr1' hr2').mono ?_
  rintro e w8 ⟨rfl, hb8⟩
  rw [beq_self_eq_true]
  have hb18 := blw hb17 hb8
  have hr1'' := hr1'.on hb8
  have hr4' := hr4.on (blw hb5 (blw hb6 (blw hb7 hb8)))
  have hr8 := hr.on hb18
  have hcall : Calls Try.prog 21 #[.slice A4 l.length c4, .slice A n c] w8 fun e w' => e = .returned (.bool true) ∧ Below w8.heap.size w8 w' := by
    have h := same_any A4 A _ _ c4 c l l w8 (by omega) hr4' hr8
    rw [beq_self_eq_true] at h
    exact h
  rw [hln] at hcall
  have hEB : (E = 10 ∧ B = false) ∨ (E = 0 ∧ B = true ∧ hexL R = s.data.toList) := by
    have h := hE.out
    cases hu : unhexL s.data.toList with
    | none => left; rw [hu] at h; exact ⟨h.1.2, h.2.2⟩
    | some r => right; rw [hu] at h; refine ⟨h.1.2, h.2.2, ?_⟩; rw [h.1.1]; exact hex_unhex _ _ hu
  replace hcall := box hcall
  rcases hEB with ⟨rfl, rfl⟩ | ⟨rfl, rfl, hxs⟩
  · go_wp2_with fail
    refine hcall.out.mono ?_
    rintro e w9 ⟨rfl, hb9⟩
    go_wp2_with fail
    go_ret
    exact ⟨rfl, blw hb18 hb9⟩
  · go_wp2_with fail
    refine hcall.out.mono ?_
    rintro e w9 ⟨rfl, hb9⟩
    go_wp2_with fail
    have h := hex_any A1 R.length c1 R w9 (by omega) (hr1''.on hb9)
    rw [hxs, str_eta] at h
    refine h.mono ?_
    rintro e w10 ⟨rfl, hb10⟩
    go_wp2_with fail
    go_ret
    exact ⟨rfl, blw (blw hb18 hb9) hb10⟩
end Go.Proofs.Ytinmlamdhibeeaa
