/-
  OctetKeeps: the law's walk.
-/
import Derived.Test.YtinmlamdhibeeaaTexts
import Derived.Test.YtinmlamdhibeeaaLib2
namespace Go.Proofs.Ytinmlamdhibeeaa
open Go.RowKit

theorem byte_xor (d : UInt8) : ∃ c : UInt8, bits BinOp.xor IntKind.u8 (d.toNat : Int) 255 = c.toNat := by
  have : ∀ n : Fin 256, bits BinOp.xor IntKind.u8 (n.val : Int) 255 = ((UInt8.ofNat n.val ^^^ 255).toNat : Int) := by decide +kernel
  exact ⟨d ^^^ 255, by have := this ⟨d.toNat, d.toNat_lt⟩; simpa using this⟩

set_option maxRecDepth 20000 in
set_option maxHeartbeats 1600000 in
theorem octetKeeps_any (A : Option Addr) (n c : Nat) (l : List UInt8) (w : World) (hn : n ≤ 1048576) (hnc : n ≤ c) (hr : Rd w (· < w.heap.size) A 1 n (l.map bv)) :
    Calls Try.prog 10 #[.slice A n c] w fun e w' => e = .returned (.bool true) ∧ Below w.heap.size w w' := by
  have hln := hr.bytes_len
  have hT := textL_len l (by omega)
  have hTp : 0 < (textL l).length := by unfold textL; have := cnt_pos l.length; rw [List.length_append]; omega
  have hback := rdt_back l [] (by omega)
  rw [List.append_nil, hln] at hback
  have ht := box (fun w h => text_any A n c l w (by omega) h)
  generalize textL l = T at *
  replace hback := box hback
  go_enter Try.func10, Try.ntmps10
  go_wp2_with fail
  refine (twin_any A n c l w (by omega) hr).mono ?_
  rintro e w1 ⟨v1, rfl, hown1, hb1⟩
  obtain ⟨A1, c1, rfl, hc1, hr1⟩ := hown1.arg
  rw [hln] at hr1 hc1 hown1 ⊢
  go_wp2_with fail
  refine (ht.out w1 (hr.on hb1)).mono ?_
  rintro e w2 ⟨v2, rfl, hown2, hb2⟩
  obtain ⟨A2, c2, rfl, hc2, hr2⟩ := hown2.arg
  have hb12 := blw hb1 hb2
  go_wp2_with fail
  have hc := readText_any A2 T.length c2 T (n : Int) w2 (by omega) hc2 (by omega) hr2
  rw [hback.out] at hc
  refine hc.mono ?_
  rintro e w3 ⟨v3, rfl, hown3, hb3⟩
  obtain ⟨A3, c3, rfl, hc3, _⟩ := hown3.arg
  have hb13 := blw hb12 hb3
  have hx := hr2.inS hTp
  have hx1 := (hown2.rd.inS hTp).1
  have hr3 := hown3.rd
  have hw := (hr1.below hb2).below (hb3.mono hb2.size)
  have hown := hown2.on hb3
  have hb23 := blw hb2 hb3
  obtain ⟨xb, hxb⟩ : ∃ xb, Box ((A2.getD default).block = xb) := ⟨_, box rfl⟩
  rw [hxb.out] at hx hx1
  clear hown1 hown2 hown3 hr2 hr1 hc
  go_wp2_with fail
  obtain ⟨W, rfl⟩ : ∃ W : World, W = w3 := ⟨_, rfl⟩
  go_loopw [27] (fun i wr => ∃ (k : Nat) (l' : List UInt8), k ≤ T.length ∧ i = .int .i64 k ∧ l'.length = T.length ∧ OwnB wr w1.heap.size 5 (.slice A2 T.length c2) l' ∧ Below w1.heap.size w1 wr ∧ Box (wr.heap.size = W.heap.size ∧ Keep (fun b => b ≠ xb) W wr)) (fun i _ => T.length - (intOf i).toNat)
  case atStart => exact ⟨0, T, by omega, rfl, rfl, hown, hb23, box ⟨rfl, Keep.refl _ _⟩⟩
  case round =>
    obtain ⟨k, l', hk, rfl, hl', hown, hb, hkeep⟩ := hrel
    have hrx := hown.rd
    by_cases hlt : k < T.length
    · go_wp2_with (first | (with_reducible refine lst (by with_unfolding_all rfl) (wp_indexAddr T_u8 hrx (by with_unfolding_all exact ⟨_, _, _, _, rfl, rfl, rfl⟩) (by omega) (by omega) ?_)) | ((with_reducible refine lst (by with_unfolding_all rfl) (wp_storeK I_u8 hown hb (by with_unfolding_all exact ⟨_, _, rfl, rfl, rfl⟩) (by first | omega | (simp; omega)) ?_ ?_)); (first | exact byte_of (by omega) (by omega) | exact byte_xor _); intro w1 d1 hd1 hown1 hb1 hs1 hk1))
      replace hs1 := box hs1
      go_roundw
      case rel =>
        refine ⟨k + 1, _, by omega, by go_num, by rw [List.length_set]; exact hl', hown1, hb1, box ⟨by rw [hs1.out, hkeep.out.1], ?_⟩⟩
        have := hk1.out
        rw [hxb.out] at this
        exact hkeep.out.2.and this
      case measure => simp [intOf]; omega
    · go_wp2_with fail
      have hk2 := hkeep.out.2
      have hsz := box hkeep.out.1
      have hb3s := hb3.size
      have hb2s := hb2.size
      have hy : Rd wr (· < wr.heap.size) A3 1 l.length (l.map bv) := (hr3.keep (hk2.mono (fun b hb => by omega))).mono (fun b hb => by rw [hsz.out]; exact hb.2)
      have hws : Rd wr (· < wr.heap.size) A1 1 n (l.map bv) := (hw.keep (hk2.mono (fun b hb => by omega))).mono (fun b hb => by rw [hsz.out]; omega)
      have hb4 := blw hb1 hb
      have hr4 := hr.on hb4
      clear hk2 hkeep hr3 hw hown hb hb23 hb13 hb12 hb1 hb2 hb3 hsz
      rw [hln] at hy
      have hs1 := box (fun w h h2 => same_any A3 A1 n n c3 c1 l l w (by omega) h h2)
      have hs2 := box (fun w h h2 => same_any A A1 n n c c1 l l w (by omega) h h2)
      rw [beq_self_eq_true] at hs1 hs2
      refine (hs1.out wr hy hws).mono ?_
      rintro e w4 ⟨rfl, hb5⟩
      have hb14 := blw hb4 hb5
      go_wp2_with fail
      refine (hs2.out w4 (hr.on hb14) (hws.on hb5)).mono ?_
      rintro e w5 ⟨rfl, hb6⟩
      have hb15 := blw hb14 hb6
      have hws5 := (hws.on hb5).on hb6
      clear hy hws hb4 hb5 hr4 hb14 hb6
      go_wp2_with fail
      refine (readText_any A n c l 1048576 w5 (by omega) hnc (by omega) (hr.on hb15)).mono ?_
      rintro e w6 ⟨v6, rfl, hown6, hb7⟩
      have hR := rdt_fst l 1048576
      generalize rdt l 1048576 = Z at *
      obtain ⟨R, zu, ze⟩ := Z
      simp only [] at hR hown6
      obtain ⟨A6, c6, rfl, hc6, hr6⟩ := hown6.arg
      go_wp2_with fail
      obtain ⟨W2, rfl⟩ : ∃ W2 : World, W2 = w6 := ⟨_, rfl⟩
      clear hr6
      go_loopw [52] (fun i wr => ∃ (k : Nat) (l' : List UInt8), k ≤ R.length ∧ i = .int .i64 k ∧ l'.length = R.length ∧ OwnB wr w5.heap.size 5 (.slice A6 R.length c6) l' ∧ Below w5.heap.size w5 wr) (fun i _ => R.length - (intOf i).toNat)
      case atStart => exact ⟨0, R, by omega, rfl, rfl, hown6, hb7⟩
      case round =>
        obtain ⟨k, l', hk, rfl, hl', hown, hb⟩ := hrel
        have hrx := hown.rd
        by_cases hlt : k < R.length
        · go_wp2_with (first | (with_reducible refine lst (by with_unfolding_all rfl) (wp_indexAddr T_u8 hrx (by with_unfolding_all exact ⟨_, _, _, _, rfl, rfl, rfl⟩) (by omega) (by omega) ?_)) | ((with_reducible refine lst (by with_unfolding_all rfl) (wp_loadB hrx Try.underlying5 rfl (by with_unfolding_all exact ⟨_, rfl, rfl⟩) (by omega) ?_)); intro c hc; (try simp only [Int.toNat_natCast, Nat.mul_one] at hc); replace hc := box hc; have clt : c.toNat < 256 := c.toNat_lt) | ((with_reducible refine lst (by with_unfolding_all rfl) (wp_storeK I_u8 hown hb (by with_unfolding_all exact ⟨_, _, rfl, rfl, rfl⟩) (by first | omega | (simp; omega)) ?_ ?_)); (first | exact byte_of (by omega) (by omega) | exact byte_xor _); intro w1 d1 hd1 hown1 hb1 hs1 hk1))
          replace hs1 := box hs1
          go_roundw
          case rel => exact ⟨k + 1, _, by omega, by go_num, by rw [List.length_set]; exact hl', hown1, hb1⟩
          case measure => simp [intOf]; omega
        · go_wp2_with fail
          refine (awake_any _).mono ?_
          rintro e w7 ⟨rfl, hb8⟩
          have hb9 := blw hb hb8
          have hb10 := blw hb15 hb9
          go_wp2_with fail
          refine (hs2.out w7 (hr.on hb10) (hws5.on hb9)).mono ?_
          rintro e w8 ⟨rfl, hb11⟩
          go_wp2_with fail
          go_ret
          exact ⟨rfl, blw hb10 hb11⟩
end Go.Proofs.Ytinmlamdhibeeaa
