/-
 Layer 6: the program's reader: four digits of an escape.
 Layer 6: the program's reader: what a backslash says.
 Layer 6: the program's reader: an escape of four digits, or twice four.
 Layer 6 in plain words: the library's decoder of UTF-8, and how many bytes a sign has. No program is named here.
-/
import Derived.Test.YtlhicfpmlncomaaGreatDoorF02
import Derived.Laws.DeepBits32
import Derived.Test.YtlhicfpmlncomaaGreatDoorF01
import Derived.Lib.DecodeN
import Derived.Lib.RuneBytes
import Derived.Test.YtlhicfpmlncomaaGreatDoorF00
set_option linter.unusedSimpArgs false
set_option linter.unusedVariables false
namespace Go.Proofs.YtlhicfpmlncomaaGreatDoor
open Go.RowKit
theorem hex_or (N d : Nat) (hN : N < 65536) (hd : d < 16) : bits BinOp.or IntKind.i32 ((N : Int) * 16) (d : Int) = ((16 * N + d : Nat) : Int) := by
 rw [show ((N : Int) * 16) = ((N * 16 : Nat) : Int) by push_cast; rfl]
 show IntKind.i32.wrap ((BitVec.ofInt 32 ((N * 16 : Nat) : Int) ||| BitVec.ofInt 32 (d : Int)).toNat : Int) = _
 have h3 : N * 16 ||| d = 16 * N + d := by
  rw [Nat.mul_comm N 16]
  exact (Nat.two_pow_add_eq_or_of_lt (i := 4) (by omega) N).symm
 rw [BitVec.toNat_or, ofInt_u32 _ (by omega), ofInt_u32 d (by omega), h3]
 exact wrap_i32_small _ (by omega) (by omega)
theorem jUnit_lt {b : List UInt8} {start : Nat} : ∀ {k N p x : Nat} {j : Nat}, N < 16 ^ j → jUnit b start k N p = .ok x → x < 16 ^ (j + k) ∧ (k = 0 ∨ p + k ≤ b.length)
 | 0, N, p, x, j, hN, h => by injection h with h; subst h; exact ⟨hN, .inl rfl⟩
 | k + 1, N, p, x, j, hN, h => by
  unfold jUnit at h
  cases hx : b[p]? with
  | none => rw [hx] at h; cases h
  | some c =>
   rw [hx] at h
   simp only [] at h
   cases hd : jHex c with
   | none => rw [hd] at h; cases h
   | some d =>
    rw [hd] at h
    simp only [] at h
    have hd16 : d < 16 := by
     unfold jHex at hd
     split at hd
     ·injection hd; omega
     ·split at hd
      ·injection hd; omega
      ·split at hd
       ·injection hd; omega
       ·cases hd
    have hp := (List.getElem?_eq_some_iff.1 hx).1
    obtain ⟨h1, h2⟩ := jUnit_lt (j := j + 1) (by rw [Nat.pow_succ]; omega) h
    refine ⟨by rw [show j + (k + 1) = j + 1 + k by omega]; exact h1, .inr ?_⟩
    rcases h2 with rfl | h2 <;> omega
set_option maxRecDepth 20000 in
set_option maxHeartbeats 3200000 in
theorem unit_any (g : Nat) (A : Option Addr) (n c p m B from_ : Nat) (b : List UInt8) (w : World) (hh : w.heap[g]? = some (.cells (rdrL A n c p m).toArray 127 (0, 0))) (hg : B ≤ g) (hB : B ≤ w.heap.size) (hn : n ≤ 140737488355000) (hp : p ≤ n) (hr : Rd w (· < B) A 1 n (b.map bv)) :
  Calls Tryz.prog 132 #[.pointer (some ⟨g, 0, none⟩), .int .i64 (from_ : Int)] w (JPost w g (jUnit b from_ 4 0 p) (fun x => .returned (.int .i32 (x : Int))) (fun _ => rdrL A n c (p + 4) m)) := by
 have hl := box hr.bytes_len
 have hF0 := Fr.one hh
 clear hh
 go_enter Tryz.func132, Tryz.ntmps132
 go_wp2_with fail
 go_loopg [5, 7] 4 (fun k x i wr => ∃ j N p' : Nat, j ≤ 4 ∧ k = 4 - j ∧ x = .int .i32 (N : Int) ∧ N < 16 ^ j ∧ i = .int .i64 (j : Int) ∧ p' = p + j ∧ p' ≤ n ∧ Box (jUnit b from_ 4 0 p = jUnit b from_ (4 - j) N p') ∧ Fr [g] w wr [.blk g 127 (rdrL A n c p' m)])
 case atStart => exact ⟨0, 0, p, by omega, rfl, rfl, by decide, rfl, rfl, hp, box rfl, hF0⟩
 case round =>
  obtain ⟨j, N, p', hj, hk, rfl, hN, rfl, hpp, hpn, hw, hF⟩ := hrel
  clear hF0
  by_cases hlt : j < 4
  ·cases hx : b[p']? with
   | some x =>
    have hxb := x.toNat_lt
    have hnx := box (next_q hx (hF.blk (i := 0) rfl) (hF.rdB hg hB hr) 0)
    have hplt := (List.getElem?_eq_some_iff.1 hx).1
    rw [hl.out] at hplt
    replace hk := box hk
    replace hpp := box hpp
    have hN2 : N < 65536 := by
     have : 16 ^ j ≤ 16 ^ 4 := Nat.pow_le_pow_right (by decide) hj
     omega
    by_cases h0 : 48 ≤ x.toNat ∧ x.toNat ≤ 57
    ·obtain ⟨d, hd, hdx⟩ : ∃ d, d < 16 ∧ x.toNat = d + 48 := ⟨x.toNat - 48, by omega, by omega⟩
     obtain ⟨N', hN'⟩ : ∃ N', N' = 16 * N + d := ⟨_, rfl⟩
     have hor : bits BinOp.or IntKind.i32 ((N : Int) * 16) ((x.toNat : Int) - 48) = (N' : Int) := by
      rw [show (x.toNat : Int) - 48 = (d : Int) by omega, hN']
      exact hex_or N d hN2 hd
     have hjh : jHex x = some d := by unfold jHex; rw [if_pos (by omega)]; exact congrArg some (by omega)
     have hgo : Box (jUnit b from_ 4 0 p = jUnit b from_ (4 - (j + 1)) N' (p' + 1)) := box (by
      rw [hw.out, show 4 - j = (4 - (j + 1)) + 1 by omega, jUnit, hx]; simp only []; rw [hjh, hN'])
     have hN16 : N' < 16 ^ (j + 1) := by rw [Nat.pow_succ]; omega
     clear hdx hN' hjh hx
     go_wp2_with fail
     refine (hnx.out).mono ?_
     rintro e w1 ⟨rfl, q1, rfl⟩
     have hFd := hF.drewN q1
     have hc1 := rdr_p (hFd.blk (i := 0) rfl)
     go_wp2_with (first | ((with_reducible refine lsx (wp_fst0 hFd (by with_unfolding_all exact ⟨_, _, rfl, rfl, rfl⟩) (by kernel_rfl) rfl rfl (by rw [rdrL_len]; decide) (rdrL_at (v := (p' : Int) + 1) (q := p' + 1) (by omega)) ?_)); intro w2 hF2 hz2))
     go_roundg (4 - (j + 1))
     case rel => exact ⟨j + 1, N', p' + 1, by omega, rfl, rfl, hN16, by go_num, by have := hpp.out; omega, by omega, hgo, hF2⟩
     case measure => have := hk.out; omega
    ·by_cases h1 : 97 ≤ x.toNat ∧ x.toNat ≤ 102
     ·obtain ⟨d, hd, hdx⟩ : ∃ d, d < 16 ∧ x.toNat = d + 87 := ⟨x.toNat - 87, by omega, by omega⟩
      obtain ⟨N', hN'⟩ : ∃ N', N' = 16 * N + d := ⟨_, rfl⟩
      have hor : bits BinOp.or IntKind.i32 ((N : Int) * 16) ((x.toNat : Int) - 97 + 10) = (N' : Int) := by
       rw [show (x.toNat : Int) - 97 + 10 = (d : Int) by omega, hN']
       exact hex_or N d hN2 hd
      have hjh : jHex x = some d := by unfold jHex; rw [if_neg (by omega)]; rw [if_pos (by omega)]; exact congrArg some (by omega)
      have hgo : Box (jUnit b from_ 4 0 p = jUnit b from_ (4 - (j + 1)) N' (p' + 1)) := box (by
       rw [hw.out, show 4 - j = (4 - (j + 1)) + 1 by omega, jUnit, hx]; simp only []; rw [hjh, hN'])
      have hN16 : N' < 16 ^ (j + 1) := by rw [Nat.pow_succ]; omega
      clear hdx hN' hjh hx
      go_wp2_with fail
      refine (hnx.out).mono ?_
      rintro e w1 ⟨rfl, q1, rfl⟩
      have hFd := hF.drewN q1
      have hc1 := rdr_p (hFd.blk (i := 0) rfl)
      go_wp2_with (first | ((with_reducible refine lsx (wp_fst0 hFd (by with_unfolding_all exact ⟨_, _, rfl, rfl, rfl⟩) (by kernel_rfl) rfl rfl (by rw [rdrL_len]; decide) (rdrL_at (v := (p' : Int) + 1) (q := p' + 1) (by omega)) ?_)); intro w2 hF2 hz2))
      go_roundg (4 - (j + 1))
      case rel => exact ⟨j + 1, N', p' + 1, by omega, rfl, rfl, hN16, by go_num, by have := hpp.out; omega, by omega, hgo, hF2⟩
      case measure => have := hk.out; omega
     ·by_cases h2 : 65 ≤ x.toNat ∧ x.toNat ≤ 70
      ·obtain ⟨d, hd, hdx⟩ : ∃ d, d < 16 ∧ x.toNat = d + 55 := ⟨x.toNat - 55, by omega, by omega⟩
       obtain ⟨N', hN'⟩ : ∃ N', N' = 16 * N + d := ⟨_, rfl⟩
       have hor : bits BinOp.or IntKind.i32 ((N : Int) * 16) ((x.toNat : Int) - 65 + 10) = (N' : Int) := by
        rw [show (x.toNat : Int) - 65 + 10 = (d : Int) by omega, hN']
        exact hex_or N d hN2 hd
       have hjh : jHex x = some d := by unfold jHex; rw [if_neg (by omega)]; rw [if_neg (by omega)]; rw [if_pos (by omega)]; exact congrArg some (by omega)
       have hgo : Box (jUnit b from_ 4 0 p = jUnit b from_ (4 - (j + 1)) N' (p' + 1)) := box (by
        rw [hw.out, show 4 - j = (4 - (j + 1)) + 1 by omega, jUnit, hx]; simp only []; rw [hjh, hN'])
       have hN16 : N' < 16 ^ (j + 1) := by rw [Nat.pow_succ]; omega
       clear hdx hN' hjh hx
       go_wp2_with fail
       refine (hnx.out).mono ?_
       rintro e w1 ⟨rfl, q1, rfl⟩
       have hFd := hF.drewN q1
       have hc1 := rdr_p (hFd.blk (i := 0) rfl)
       go_wp2_with (first | ((with_reducible refine lsx (wp_fst0 hFd (by with_unfolding_all exact ⟨_, _, rfl, rfl, rfl⟩) (by kernel_rfl) rfl rfl (by rw [rdrL_len]; decide) (rdrL_at (v := (p' : Int) + 1) (q := p' + 1) (by omega)) ?_)); intro w2 hF2 hz2))
       go_roundg (4 - (j + 1))
       case rel => exact ⟨j + 1, N', p' + 1, by omega, rfl, rfl, hN16, by go_num, by have := hpp.out; omega, by omega, hgo, hF2⟩
       case measure => have := hk.out; omega
      ·
        have hjh : jHex x = none := by unfold jHex; rw [if_neg (by omega), if_neg (by omega), if_neg (by omega)]
        have hend : Box (jUnit b from_ 4 0 p = .error (from_, 62)) := box (by
         rw [hw.out, show 4 - j = (4 - (j + 1)) + 1 by omega, jUnit, hx]; simp only []; rw [hjh])
        have hfl := box (fun v w => fail_any v from_ 62 w)
        clear hjh hx
        go_wp2_with fail
        refine (hnx.out).mono ?_
        rintro e w1 ⟨rfl, q1, rfl⟩
        have hFd := hF.drewN q1
        go_wp2_with fail
        all_goals
         refine (hfl.out _ _).mono ?_
         rintro e w2 ⟨rfl, rfl⟩
         dsimp only [flt]
         go_wp2
         exact ⟨rfl, by unfold JPost; rw [hend.out]; exact ⟨rfl, hFd.grown⟩⟩
   | none =>
    have hend : Box (jUnit b from_ 4 0 p = .error (n, 9)) := box (by
     rw [hw.out, show 4 - j = (4 - (j + 1)) + 1 by omega, jUnit, hx, hl.out])
    have hnx := box (next_x hx (hF.blk (i := 0) rfl) (hF.rdB hg hB hr))
    rw [hl.out] at hnx
    clear hx
    go_wp2_with fail
    refine (hnx.out).mono ?_
    rintro e w1 ⟨rfl, hb1⟩
    have hFd := hF.call hb1
    dsimp only [flt]
    go_wp2
    exact ⟨rfl, by unfold JPost; rw [hend.out]; exact ⟨rfl, hFd.grown⟩⟩
  ·obtain rfl : j = 4 := by omega
   have hend : Box (jUnit b from_ 4 0 p = .ok N) := box (by rw [hw.out]; rfl)
   have hpe : Box (p' = p + 4) := box hpp
   clear hpp hk
   go_wp2
   go_ret
   unfold JPost
   rw [hend.out]
   exact ⟨rfl, by rw [← hpe.out]; exact hF⟩
end Go.Proofs.YtlhicfpmlncomaaGreatDoor

namespace Go.Proofs.YtlhicfpmlncomaaGreatDoor
open Go.RowKit
theorem grown_trans {w w1 w2 : World} {r : Option Nat} (h : w.grownBy w1 r) (h2 : w1.grownBy w2 r) : w.grownBy w2 r :=
 ⟨h2.os.trans h.os, h2.tape.trans h.tape, h2.output.trans h.output, Nat.le_trans h.size h2.size, fun k hk hne => (h2.block k (Nat.lt_of_lt_of_le hk h.size) hne).trans (h.block k hk hne)⟩
theorem Fr.putF {X : List Nat} {w0 w w' : World} {es : List Ent} {g : Nat} {t : TypeId} {cs cs' : List Value} (hF : Fr X w0 w es) {i : Nat} (hi : es[i]? = some (.blk g t cs)) (h : Fr [g] w w' [.blk g t cs']) : Fr X w0 w' (es.set i (.blk g t cs')) :=
 hF.put hi h.grown (h.holds 0 _ rfl) (.inl rfl)
theorem Fr.putB {X : List Nat} {w0 w w' : World} {es : List Ent} {g : Nat} {t e : TypeId} {cs cs' : List Value} {v : Value} {l : List UInt8} (hF : Fr X w0 w es) {i : Nat} (hi : es[i]? = some (.blk g t cs)) (h : Fr [g] w w' [Ent.bytes w.heap.size e v l, .blk g t cs']) : Fr X w0 w' (Ent.bytes w0.heap.size e v l :: es.set i (.blk g t cs')) := by
 have hp := hF.putF hi h.tail
 have ho : w'.ownsRow w.heap.size e 1 v l.length (l.map bv) := h.holds 0 _ rfl
 refine hp.push (e := Ent.bytes w0.heap.size e v l) ?_ fun b hb => ?_
 ·refine ⟨ho.1, ho.2.imp id ?_⟩
  rintro ⟨g', cap, cur, hv, hg', rest⟩
  exact ⟨g', cap, cur, hv, Nat.le_trans hF.size hg', rest⟩
 ·have hlt := (World.ownsRow.lt ho b hb).1
  refine ⟨.inl (Nat.le_trans hF.size hlt), fun j f hj he => ?_⟩
  have hil : i < es.length := (List.getElem?_eq_some_iff.1 hi).1
  rw [List.getElem?_set] at hj
  by_cases hij : i = j
  ·rw [if_pos hij, if_pos hil] at hj
   injection hj with hj
   subst hj
   injection he with he
   have := hF.lt hi
   omega
  ·rw [if_neg hij] at hj
   have := Ent.lt (hF.holds j f hj) he
   omega
def JEndP {α : Type} (w : World) (g : Nat) (r : JR α) (Q : α → Ending → World → Prop) (e : Ending) (w' : World) : Prop :=
 match r with
 | .ok a => Q a e w'
 | .error x => e = flt x ∧ w.grownBy w' (some g)
def ToldB (w : World) (g : Nat) (A : Option Addr) (n c m : Nat) (x : List UInt8 × Nat) (e : Ending) (w' : World) : Prop :=
 ∃ v, e = .returned v ∧ Fr [g] w w' [Ent.bytes w.heap.size 5 v x.1, .blk g 127 (rdrL A n c x.2 m)]
def RuneOk : Prop := ∀ (r : Nat) (w : World), r < 1114112 → ¬ (55296 ≤ r ∧ r < 57344) →
 Calls Tryz.prog 133 #[.slice none 0 0, .int .i32 (r : Int)] w fun e w' => ∃ v, e = .returned v ∧ OwnB w' w.heap.size 5 v (jSign r) ∧ Below w.heap.size w w'
set_option maxRecDepth 20000 in
set_option maxHeartbeats 6400000 in
theorem escape_plain (g : Nat) (A : Option Addr) (n c p m B : Nat) (b : List UInt8) (w : World) (hh : w.heap[g]? = some (.cells (rdrL A n c p m).toArray 127 (0, 0))) (hg : B ≤ g) (hB : B ≤ w.heap.size) (hn : n ≤ 140737488355000) (hp : p < n) (hr : Rd w (· < B) A 1 n (b.map bv)) (hu : b[p + 1]? ≠ some 117) :
  Calls Tryz.prog 119 #[.pointer (some ⟨g, 0, none⟩)] w (JEndP w g (jEscape b p) (ToldB w g A n c m)) := by
 have hl := box hr.bytes_len
 have hF0 := Fr.one hh
 have h1 := rdr_p hh
 clear hh
 cases hx : b[p + 1]? with
 | none =>
  have hj : Box (jEscape b p = .error (n, 9)) := box (by unfold jEscape; rw [hx, hl.out])
  have hnx := box (fun w' (hF : Fr [g] w w' [.blk g 127 (rdrL A n c (p + 1) m)]) => next_x hx (hF.blk (i := 0) rfl) (hF.rdB hg hB hr))
  rw [hl.out] at hnx
  clear hx
  go_enter Tryz.func119, Tryz.ntmps119
  go_wp2_with (first | ((with_reducible refine lsx (wp_fst0 hF0 (by with_unfolding_all exact ⟨_, _, rfl, rfl, rfl⟩) (by kernel_rfl) rfl rfl (by rw [rdrL_len]; decide) (rdrL_at (q := p + 1) (by omega)) ?_)); intro w1 hF1 hz1))
  refine (hnx.out _ hF1).mono ?_
  rintro e w2 ⟨rfl, hb2⟩
  have hF2 := hF1.call hb2
  dsimp only [flt]
  go_wp2
  exact ⟨rfl, by unfold JEndP; rw [hj.out]; exact ⟨rfl, hF2.grown⟩⟩
 | some x =>
  have hxb := x.toNat_lt
  have hp1 := (List.getElem?_eq_some_iff.1 hx).1
  rw [hl.out] at hp1
  have hnx := box (fun w' (hF : Fr [g] w w' [.blk g 127 (rdrL A n c (p + 1) m)]) => next_q hx (hF.blk (i := 0) rfl) (hF.rdB hg hB hr) 0)
  by_cases hx0 : x = 34
  ·subst hx0
   have hj : Box (jEscape b p = .ok ([34], p + 2)) := box (by unfold jEscape; rw [hx]; simp)
   clear hx hu
   go_enter Tryz.func119, Tryz.ntmps119
   go_wp2_with (first | ((with_reducible refine lsx (wp_fst0 hF0 (by with_unfolding_all exact ⟨_, _, rfl, rfl, rfl⟩) (by kernel_rfl) rfl rfl (by rw [rdrL_len]; decide) (rdrL_at (q := p + 1) (by omega)) ?_)); intro w1 hF1 hz1))
   refine (hnx.out _ hF1).mono ?_
   rintro e w2 ⟨rfl, q2, rfl⟩
   have hF2 := hF1.drewN q2
   have h2 := rdr_p (hF2.blk (i := 0) rfl)
   go_wp2_with (first | ((with_reducible refine lsx (wp_fst0 hF2 (by with_unfolding_all exact ⟨_, _, rfl, rfl, rfl⟩) (by kernel_rfl) rfl rfl (by rw [rdrL_len]; decide) (rdrL_at (q := p + 2) (by omega)) ?_)); intro w3 hF3 hz3) | ((with_reducible refine lsx (wp_fbsl T_u8 hF3 (vs := [bv 34]) (by with_unfolding_all rfl) (by with_unfolding_all rfl) (by with_unfolding_all rfl) (by decide) (by simp [bv, Value.cells]) ?_)); intro w4 g4 hF4 hz4; have hr4 : Rd w4 (· < w4.heap.size) (some ⟨g4, 0, none⟩) 1 1 ([34].map bv) := hF4.rdOwn0; replace hF4 : Fr _ _ w4 (Ent.bytes _ 5 (.slice (some ⟨g4, 0, none⟩) 1 1) [34] :: _) := hF4))
   go_ret
   unfold JEndP
   rw [hj.out]
   exact ⟨_, rfl, hF4⟩
  ·by_cases hx1 : x = 92
   ·subst hx1
    have hj : Box (jEscape b p = .ok ([92], p + 2)) := box (by unfold jEscape; rw [hx]; simp)
    clear hx hu
    go_enter Tryz.func119, Tryz.ntmps119
    go_wp2_with (first | ((with_reducible refine lsx (wp_fst0 hF0 (by with_unfolding_all exact ⟨_, _, rfl, rfl, rfl⟩) (by kernel_rfl) rfl rfl (by rw [rdrL_len]; decide) (rdrL_at (q := p + 1) (by omega)) ?_)); intro w1 hF1 hz1))
    refine (hnx.out _ hF1).mono ?_
    rintro e w2 ⟨rfl, q2, rfl⟩
    have hF2 := hF1.drewN q2
    have h2 := rdr_p (hF2.blk (i := 0) rfl)
    go_wp2_with (first | ((with_reducible refine lsx (wp_fst0 hF2 (by with_unfolding_all exact ⟨_, _, rfl, rfl, rfl⟩) (by kernel_rfl) rfl rfl (by rw [rdrL_len]; decide) (rdrL_at (q := p + 2) (by omega)) ?_)); intro w3 hF3 hz3) | ((with_reducible refine lsx (wp_fbsl T_u8 hF3 (vs := [bv 92]) (by with_unfolding_all rfl) (by with_unfolding_all rfl) (by with_unfolding_all rfl) (by decide) (by simp [bv, Value.cells]) ?_)); intro w4 g4 hF4 hz4; have hr4 : Rd w4 (· < w4.heap.size) (some ⟨g4, 0, none⟩) 1 1 ([92].map bv) := hF4.rdOwn0; replace hF4 : Fr _ _ w4 (Ent.bytes _ 5 (.slice (some ⟨g4, 0, none⟩) 1 1) [92] :: _) := hF4))
    go_ret
    unfold JEndP
    rw [hj.out]
    exact ⟨_, rfl, hF4⟩
   ·by_cases hx2 : x = 47
    ·subst hx2
     have hj : Box (jEscape b p = .ok ([47], p + 2)) := box (by unfold jEscape; rw [hx]; simp)
     clear hx hu
     go_enter Tryz.func119, Tryz.ntmps119
     go_wp2_with (first | ((with_reducible refine lsx (wp_fst0 hF0 (by with_unfolding_all exact ⟨_, _, rfl, rfl, rfl⟩) (by kernel_rfl) rfl rfl (by rw [rdrL_len]; decide) (rdrL_at (q := p + 1) (by omega)) ?_)); intro w1 hF1 hz1))
     refine (hnx.out _ hF1).mono ?_
     rintro e w2 ⟨rfl, q2, rfl⟩
     have hF2 := hF1.drewN q2
     have h2 := rdr_p (hF2.blk (i := 0) rfl)
     go_wp2_with (first | ((with_reducible refine lsx (wp_fst0 hF2 (by with_unfolding_all exact ⟨_, _, rfl, rfl, rfl⟩) (by kernel_rfl) rfl rfl (by rw [rdrL_len]; decide) (rdrL_at (q := p + 2) (by omega)) ?_)); intro w3 hF3 hz3) | ((with_reducible refine lsx (wp_fbsl T_u8 hF3 (vs := [bv 47]) (by with_unfolding_all rfl) (by with_unfolding_all rfl) (by with_unfolding_all rfl) (by decide) (by simp [bv, Value.cells]) ?_)); intro w4 g4 hF4 hz4; have hr4 : Rd w4 (· < w4.heap.size) (some ⟨g4, 0, none⟩) 1 1 ([47].map bv) := hF4.rdOwn0; replace hF4 : Fr _ _ w4 (Ent.bytes _ 5 (.slice (some ⟨g4, 0, none⟩) 1 1) [47] :: _) := hF4))
     go_ret
     unfold JEndP
     rw [hj.out]
     exact ⟨_, rfl, hF4⟩
    ·by_cases hx3 : x = 98
     ·subst hx3
      have hj : Box (jEscape b p = .ok ([8], p + 2)) := box (by unfold jEscape; rw [hx]; simp)
      clear hx hu
      go_enter Tryz.func119, Tryz.ntmps119
      go_wp2_with (first | ((with_reducible refine lsx (wp_fst0 hF0 (by with_unfolding_all exact ⟨_, _, rfl, rfl, rfl⟩) (by kernel_rfl) rfl rfl (by rw [rdrL_len]; decide) (rdrL_at (q := p + 1) (by omega)) ?_)); intro w1 hF1 hz1))
      refine (hnx.out _ hF1).mono ?_
      rintro e w2 ⟨rfl, q2, rfl⟩
      have hF2 := hF1.drewN q2
      have h2 := rdr_p (hF2.blk (i := 0) rfl)
      go_wp2_with (first | ((with_reducible refine lsx (wp_fst0 hF2 (by with_unfolding_all exact ⟨_, _, rfl, rfl, rfl⟩) (by kernel_rfl) rfl rfl (by rw [rdrL_len]; decide) (rdrL_at (q := p + 2) (by omega)) ?_)); intro w3 hF3 hz3) | ((with_reducible refine lsx (wp_fbsl T_u8 hF3 (vs := [bv 8]) (by with_unfolding_all rfl) (by with_unfolding_all rfl) (by with_unfolding_all rfl) (by decide) (by simp [bv, Value.cells]) ?_)); intro w4 g4 hF4 hz4; have hr4 : Rd w4 (· < w4.heap.size) (some ⟨g4, 0, none⟩) 1 1 ([8].map bv) := hF4.rdOwn0; replace hF4 : Fr _ _ w4 (Ent.bytes _ 5 (.slice (some ⟨g4, 0, none⟩) 1 1) [8] :: _) := hF4))
      go_ret
      unfold JEndP
      rw [hj.out]
      exact ⟨_, rfl, hF4⟩
     ·by_cases hx4 : x = 102
      ·subst hx4
       have hj : Box (jEscape b p = .ok ([12], p + 2)) := box (by unfold jEscape; rw [hx]; simp)
       clear hx hu
       go_enter Tryz.func119, Tryz.ntmps119
       go_wp2_with (first | ((with_reducible refine lsx (wp_fst0 hF0 (by with_unfolding_all exact ⟨_, _, rfl, rfl, rfl⟩) (by kernel_rfl) rfl rfl (by rw [rdrL_len]; decide) (rdrL_at (q := p + 1) (by omega)) ?_)); intro w1 hF1 hz1))
       refine (hnx.out _ hF1).mono ?_
       rintro e w2 ⟨rfl, q2, rfl⟩
       have hF2 := hF1.drewN q2
       have h2 := rdr_p (hF2.blk (i := 0) rfl)
       go_wp2_with (first | ((with_reducible refine lsx (wp_fst0 hF2 (by with_unfolding_all exact ⟨_, _, rfl, rfl, rfl⟩) (by kernel_rfl) rfl rfl (by rw [rdrL_len]; decide) (rdrL_at (q := p + 2) (by omega)) ?_)); intro w3 hF3 hz3) | ((with_reducible refine lsx (wp_fbsl T_u8 hF3 (vs := [bv 12]) (by with_unfolding_all rfl) (by with_unfolding_all rfl) (by with_unfolding_all rfl) (by decide) (by simp [bv, Value.cells]) ?_)); intro w4 g4 hF4 hz4; have hr4 : Rd w4 (· < w4.heap.size) (some ⟨g4, 0, none⟩) 1 1 ([12].map bv) := hF4.rdOwn0; replace hF4 : Fr _ _ w4 (Ent.bytes _ 5 (.slice (some ⟨g4, 0, none⟩) 1 1) [12] :: _) := hF4))
       go_ret
       unfold JEndP
       rw [hj.out]
       exact ⟨_, rfl, hF4⟩
      ·by_cases hx5 : x = 110
       ·subst hx5
        have hj : Box (jEscape b p = .ok ([10], p + 2)) := box (by unfold jEscape; rw [hx]; simp)
        clear hx hu
        go_enter Tryz.func119, Tryz.ntmps119
        go_wp2_with (first | ((with_reducible refine lsx (wp_fst0 hF0 (by with_unfolding_all exact ⟨_, _, rfl, rfl, rfl⟩) (by kernel_rfl) rfl rfl (by rw [rdrL_len]; decide) (rdrL_at (q := p + 1) (by omega)) ?_)); intro w1 hF1 hz1))
        refine (hnx.out _ hF1).mono ?_
        rintro e w2 ⟨rfl, q2, rfl⟩
        have hF2 := hF1.drewN q2
        have h2 := rdr_p (hF2.blk (i := 0) rfl)
        go_wp2_with (first | ((with_reducible refine lsx (wp_fst0 hF2 (by with_unfolding_all exact ⟨_, _, rfl, rfl, rfl⟩) (by kernel_rfl) rfl rfl (by rw [rdrL_len]; decide) (rdrL_at (q := p + 2) (by omega)) ?_)); intro w3 hF3 hz3) | ((with_reducible refine lsx (wp_fbsl T_u8 hF3 (vs := [bv 10]) (by with_unfolding_all rfl) (by with_unfolding_all rfl) (by with_unfolding_all rfl) (by decide) (by simp [bv, Value.cells]) ?_)); intro w4 g4 hF4 hz4; have hr4 : Rd w4 (· < w4.heap.size) (some ⟨g4, 0, none⟩) 1 1 ([10].map bv) := hF4.rdOwn0; replace hF4 : Fr _ _ w4 (Ent.bytes _ 5 (.slice (some ⟨g4, 0, none⟩) 1 1) [10] :: _) := hF4))
        go_ret
        unfold JEndP
        rw [hj.out]
        exact ⟨_, rfl, hF4⟩
       ·by_cases hx6 : x = 114
        ·subst hx6
         have hj : Box (jEscape b p = .ok ([13], p + 2)) := box (by unfold jEscape; rw [hx]; simp)
         clear hx hu
         go_enter Tryz.func119, Tryz.ntmps119
         go_wp2_with (first | ((with_reducible refine lsx (wp_fst0 hF0 (by with_unfolding_all exact ⟨_, _, rfl, rfl, rfl⟩) (by kernel_rfl) rfl rfl (by rw [rdrL_len]; decide) (rdrL_at (q := p + 1) (by omega)) ?_)); intro w1 hF1 hz1))
         refine (hnx.out _ hF1).mono ?_
         rintro e w2 ⟨rfl, q2, rfl⟩
         have hF2 := hF1.drewN q2
         have h2 := rdr_p (hF2.blk (i := 0) rfl)
         go_wp2_with (first | ((with_reducible refine lsx (wp_fst0 hF2 (by with_unfolding_all exact ⟨_, _, rfl, rfl, rfl⟩) (by kernel_rfl) rfl rfl (by rw [rdrL_len]; decide) (rdrL_at (q := p + 2) (by omega)) ?_)); intro w3 hF3 hz3) | ((with_reducible refine lsx (wp_fbsl T_u8 hF3 (vs := [bv 13]) (by with_unfolding_all rfl) (by with_unfolding_all rfl) (by with_unfolding_all rfl) (by decide) (by simp [bv, Value.cells]) ?_)); intro w4 g4 hF4 hz4; have hr4 : Rd w4 (· < w4.heap.size) (some ⟨g4, 0, none⟩) 1 1 ([13].map bv) := hF4.rdOwn0; replace hF4 : Fr _ _ w4 (Ent.bytes _ 5 (.slice (some ⟨g4, 0, none⟩) 1 1) [13] :: _) := hF4))
         go_ret
         unfold JEndP
         rw [hj.out]
         exact ⟨_, rfl, hF4⟩
        ·by_cases hx7 : x = 116
         ·subst hx7
          have hj : Box (jEscape b p = .ok ([9], p + 2)) := box (by unfold jEscape; rw [hx]; simp)
          clear hx hu
          go_enter Tryz.func119, Tryz.ntmps119
          go_wp2_with (first | ((with_reducible refine lsx (wp_fst0 hF0 (by with_unfolding_all exact ⟨_, _, rfl, rfl, rfl⟩) (by kernel_rfl) rfl rfl (by rw [rdrL_len]; decide) (rdrL_at (q := p + 1) (by omega)) ?_)); intro w1 hF1 hz1))
          refine (hnx.out _ hF1).mono ?_
          rintro e w2 ⟨rfl, q2, rfl⟩
          have hF2 := hF1.drewN q2
          have h2 := rdr_p (hF2.blk (i := 0) rfl)
          go_wp2_with (first | ((with_reducible refine lsx (wp_fst0 hF2 (by with_unfolding_all exact ⟨_, _, rfl, rfl, rfl⟩) (by kernel_rfl) rfl rfl (by rw [rdrL_len]; decide) (rdrL_at (q := p + 2) (by omega)) ?_)); intro w3 hF3 hz3) | ((with_reducible refine lsx (wp_fbsl T_u8 hF3 (vs := [bv 9]) (by with_unfolding_all rfl) (by with_unfolding_all rfl) (by with_unfolding_all rfl) (by decide) (by simp [bv, Value.cells]) ?_)); intro w4 g4 hF4 hz4; have hr4 : Rd w4 (· < w4.heap.size) (some ⟨g4, 0, none⟩) 1 1 ([9].map bv) := hF4.rdOwn0; replace hF4 : Fr _ _ w4 (Ent.bytes _ 5 (.slice (some ⟨g4, 0, none⟩) 1 1) [9] :: _) := hF4))
          go_ret
          unfold JEndP
          rw [hj.out]
          exact ⟨_, rfl, hF4⟩
         ·
          have hx8 : x ≠ 117 := fun h => hu (by rw [hx, h])
          have hj : Box (jEscape b p = .error (p, 62)) := box (by unfold jEscape; rw [hx]; simp [hx0, hx1, hx2, hx3, hx4, hx5, hx6, hx7, hx8])
          have hn0 : ((x.toNat : Int) == 34) = false := u8_ne hx0
          have hn1 : ((x.toNat : Int) == 92) = false := u8_ne hx1
          have hn2 : ((x.toNat : Int) == 47) = false := u8_ne hx2
          have hn3 : ((x.toNat : Int) == 98) = false := u8_ne hx3
          have hn4 : ((x.toNat : Int) == 102) = false := u8_ne hx4
          have hn5 : ((x.toNat : Int) == 110) = false := u8_ne hx5
          have hn6 : ((x.toNat : Int) == 114) = false := u8_ne hx6
          have hn7 : ((x.toNat : Int) == 116) = false := u8_ne hx7
          have hn8 : ((x.toNat : Int) == 117) = false := u8_ne hx8
          have hfl := box (fun v w => fail_any v p 62 w)
          clear hx hu hx0 hx1 hx2 hx3 hx4 hx5 hx6 hx7 hx8
          go_enter Tryz.func119, Tryz.ntmps119
          go_wp2_with (first | ((with_reducible refine lsx (wp_fst0 hF0 (by with_unfolding_all exact ⟨_, _, rfl, rfl, rfl⟩) (by kernel_rfl) rfl rfl (by rw [rdrL_len]; decide) (rdrL_at (q := p + 1) (by omega)) ?_)); intro w1 hF1 hz1))
          refine (hnx.out _ hF1).mono ?_
          rintro e w2 ⟨rfl, q2, rfl⟩
          have hF2 := hF1.drewN q2
          have h2 := rdr_p (hF2.blk (i := 0) rfl)
          go_wp2_with (first | ((with_reducible refine lsx (wp_fst0 hF2 (by with_unfolding_all exact ⟨_, _, rfl, rfl, rfl⟩) (by kernel_rfl) rfl rfl (by rw [rdrL_len]; decide) (rdrL_at (q := p + 2) (by omega)) ?_)); intro w3 hF3 hz3))
          refine (hfl.out _ _).mono ?_
          rintro e w4 ⟨rfl, rfl⟩
          dsimp only [flt]
          go_wp2
          exact ⟨rfl, by unfold JEndP; rw [hj.out]; exact ⟨rfl, hF3.grown⟩⟩
end Go.Proofs.YtlhicfpmlncomaaGreatDoor

namespace Go.Proofs.YtlhicfpmlncomaaGreatDoor
open Go.RowKit
def jEsc2 (b : List UInt8) (p n : Nat) : JR (List UInt8 × Nat) :=
 match jUnit b p 4 0 (p + 8) with
 | .error x => .error x
 | .ok m => if 56320 ≤ m ∧ m < 57344 then .ok (jSign (65536 + (n - 55296) * 1024 + (m - 56320)), p + 12) else .error (p, 62)
def jEsc1 (b : List UInt8) (p n : Nat) : JR (List UInt8 × Nat) :=
 match b[p + 7]? with
 | none => .error (b.length, 9)
 | some y => if y ≠ 117 then .error (p, 62) else jEsc2 b p n
def jEsc0 (b : List UInt8) (p n : Nat) : JR (List UInt8 × Nat) :=
 match b[p + 6]? with
 | none => .error (b.length, 9)
 | some y => if y ≠ 92 then .error (p, 62) else jEsc1 b p n
def jEscJ (b : List UInt8) (p n : Nat) : Nat → JR (List UInt8 × Nat)
 | 0 => jEsc0 b p n
 | 1 => jEsc1 b p n
 | _ => jEsc2 b p n
theorem jEscJ_step {b : List UInt8} {p N j : Nat} {x K : UInt8} (hj : j < 2) (hK : ([92, 117] : List UInt8)[j]? = some K) (hx : b[p + 6 + j]? = some x) :
  jEscJ b p N j = if x = K then jEscJ b p N (j + 1) else .error (p, 62) := by
 match j, hj with
 | 0, _ =>
  obtain rfl : (92 : UInt8) = K := Option.some.inj hK
  show jEsc0 b p N = if x = 92 then jEsc1 b p N else _
  have hx' : b[p + 6]? = some x := hx
  unfold jEsc0
  rw [hx']
  by_cases h : x = 92
  ·rw [if_pos h]; simp [h]
  ·rw [if_neg h]; simp [h]
 | 1, _ =>
  obtain rfl : (117 : UInt8) = K := Option.some.inj hK
  show jEsc1 b p N = if x = 117 then jEsc2 b p N else _
  have hx' : b[p + 7]? = some x := hx
  unfold jEsc1
  rw [hx']
  by_cases h : x = 117
  ·rw [if_pos h]; simp [h]
  ·rw [if_neg h]; simp [h]
theorem jEscJ_none {b : List UInt8} {p N j : Nat} (hj : j < 2) (hx : b[p + 6 + j]? = none) : jEscJ b p N j = .error (b.length, 9) := by
 match j, hj with
 | 0, _ =>
  show jEsc0 b p N = _
  have hx' : b[p + 6]? = none := hx
  unfold jEsc0
  rw [hx']
 | 1, _ =>
  show jEsc1 b p N = _
  have hx' : b[p + 7]? = none := hx
  unfold jEsc1
  rw [hx']
theorem jEscape_u {b : List UInt8} {p : Nat} (hx : b[p + 1]? = some 117) : jEscape b p =
  match jUnit b p 4 0 (p + 2) with
  | .error x => .error x
  | .ok n => if 55296 ≤ n ∧ n < 56320 then jEsc0 b p n else if 56320 ≤ n ∧ n < 57344 then .error (p, 62) else .ok (jSign n, p + 6) := by
 unfold jEscape
 rw [hx]
 simp only []
 rw [if_neg (by decide), if_neg (by decide), if_neg (by decide), if_neg (by decide), if_neg (by decide), if_neg (by decide), if_pos trivial]
 rfl
set_option maxRecDepth 20000 in
set_option maxHeartbeats 6400000 in
theorem escape_u (hAR : RuneOk) (g : Nat) (A : Option Addr) (n c p m B : Nat) (b : List UInt8) (w : World) (hh : w.heap[g]? = some (.cells (rdrL A n c p m).toArray 127 (0, 0))) (hg : B ≤ g) (hB : B ≤ w.heap.size) (hn : n ≤ 140737488355000) (hr : Rd w (· < B) A 1 n (b.map bv)) (hx : b[p + 1]? = some 117) :
  Calls Tryz.prog 119 #[.pointer (some ⟨g, 0, none⟩)] w (JEndP w g (jEscape b p) (ToldB w g A n c m)) := by
 have hl := box hr.bytes_len
 have hF0 := Fr.one hh
 have h1 := rdr_p hh
 clear hh
 have hp1 := (List.getElem?_eq_some_iff.1 hx).1
 rw [hl.out] at hp1
 have hnx := box (fun w' (hF : Fr [g] w w' [.blk g 127 (rdrL A n c (p + 1) m)]) => next_q hx (hF.blk (i := 0) rfl) (hF.rdB hg hB hr) 0)
 have hj := jEscape_u hx
 have hun := box (fun w' (hF : Fr [g] w w' [.blk g 127 (rdrL A n c (p + 2) m)]) => unit_any g A n c (p + 2) m B p b w' (hF.blk (i := 0) rfl) hg (Nat.le_trans hB hF.size) hn (by omega) (hF.rdB hg hB hr))
 clear hx
 cases hU : jUnit b p 4 0 (p + 2) with
 | error z =>
  rw [hU] at hj hun
  replace hj := box hj
  unfold JPost at hun
  simp only [] at hun
  go_enter Tryz.func119, Tryz.ntmps119
  go_wp2_with (first | ((with_reducible refine lsx (wp_fst0 hF0 (by with_unfolding_all exact ⟨_, _, rfl, rfl, rfl⟩) (by kernel_rfl) rfl rfl (by rw [rdrL_len]; decide) (rdrL_at (q := p + 1) (by omega)) ?_)); intro w1 hF1 hz1))
  refine (hnx.out _ hF1).mono ?_
  rintro e w2 ⟨rfl, q2, rfl⟩
  have hF2 := hF1.drewN q2
  have h2 := rdr_p (hF2.blk (i := 0) rfl)
  go_wp2_with (first | ((with_reducible refine lsx (wp_fst0 hF2 (by with_unfolding_all exact ⟨_, _, rfl, rfl, rfl⟩) (by kernel_rfl) rfl rfl (by rw [rdrL_len]; decide) (rdrL_at (q := p + 2) (by omega)) ?_)); intro w3 hF3 hz3))
  refine (hun.out _ hF3).mono ?_
  rintro e w4 ⟨rfl, hg4⟩
  dsimp only [flt]
  go_wp2
  exact ⟨rfl, by unfold JEndP; rw [hj.out]; exact ⟨rfl, grown_trans hF3.grown hg4⟩⟩
 | ok N =>
  have hN := jUnit_lt (N := 0) (j := 0) (by decide) hU
  rw [hU] at hj hun
  unfold JPost at hun
  simp only [] at hun hj
  rw [hl.out] at hN
  obtain ⟨hN1, hN2⟩ := hN
  have hN65 : N < 65536 := hN1
  have hp6 : p + 6 ≤ n := by omega
  clear hU hN1 hN2
  by_cases hs : 55296 ≤ N ∧ N < 56320
  ·rw [if_pos hs] at hj
   replace hj := box hj
   have d1 : decide ((55296 : Int) ≤ (N : Int)) = true := decide_eq_true (by omega)
   have d2 : decide ((N : Int) < 56320) = true := decide_eq_true (by omega)
   replace hs := box hs
   replace hN65 := box hN65
   go_enter Tryz.func119, Tryz.ntmps119
   go_wp2_with (first | ((with_reducible refine lsx (wp_fst0 hF0 (by with_unfolding_all exact ⟨_, _, rfl, rfl, rfl⟩) (by kernel_rfl) rfl rfl (by rw [rdrL_len]; decide) (rdrL_at (q := p + 1) (by omega)) ?_)); intro w1 hF1 hz1))
   refine (hnx.out _ hF1).mono ?_
   rintro e w2 ⟨rfl, q2, rfl⟩
   have hF2 := hF1.drewN q2
   have h2 := rdr_p (hF2.blk (i := 0) rfl)
   go_wp2_with (first | ((with_reducible refine lsx (wp_fst0 hF2 (by with_unfolding_all exact ⟨_, _, rfl, rfl, rfl⟩) (by kernel_rfl) rfl rfl (by rw [rdrL_len]; decide) (rdrL_at (q := p + 2) (by omega)) ?_)); intro w3 hF3 hz3))
   refine (hun.out _ hF3).mono ?_
   rintro e w4 ⟨rfl, h4⟩
   have hF4 := hF3.putF (i := 0) rfl h4
   clear hF0 hF1 hF2 hF3 hun hnx
   go_wp2_with (first | ((with_reducible refine lsx (wp_fbsl T_u8 hF4 (vs := [.int .u8 92, .int .u8 117]) (by with_unfolding_all rfl) (by with_unfolding_all rfl) (by with_unfolding_all rfl) (by decide) (by simp [Value.cells]) ?_)); intro w5 g5 hF5 hz5))
   clear d1 d2
   go_loopg [64] 2 (fun k i wr => ∃ j p' : Nat, j ≤ 2 ∧ k = 2 - j ∧ i = .int .i64 (j : Int) ∧ Box (p' = p + 6 + j) ∧ p' ≤ n ∧ Box (jEscape b p = jEscJ b p N j) ∧ Fr [g] w wr [Ent.bytes w.heap.size 5 (.slice (some ⟨g5, 0, none⟩) 2 2) [92, 117], .blk g 127 (rdrL A n c p' m)])
   case atStart => exact ⟨0, p + 6, by omega, rfl, rfl, box rfl, hp6, hj, hF5⟩
   case round =>
    obtain ⟨j, p', hj2, hk, rfl, hpj, hpn, hJ, hF⟩ := hrel
    clear hF4 hF5 hj
    by_cases hjlt : j < 2
    ·obtain ⟨K, hK⟩ : ∃ K : UInt8, ([92, 117] : List UInt8)[j]? = some K := ⟨[92, 117][j]'(by simpa using hjlt), by simp⟩
     have hKb := K.toNat_lt
     replace hK := box hK
     cases hx : b[p']? with
     | some x =>
      have hxb := x.toNat_lt
      have hnx := box (next_q hx (hF.blk (i := 1) rfl) (hF.rdB hg hB hr) 0)
      have hplt := (List.getElem?_eq_some_iff.1 hx).1
      rw [hl.out] at hplt
      by_cases hxK : x = K
      ·have hq : ((x.toNat : Int) != (K.toNat : Int)) = false := by rw [hxK]; simp
       have hgo : Box (jEscape b p = jEscJ b p N (j + 1)) := box (by
        rw [hJ.out, jEscJ_step hjlt hK.out (hpj.out ▸ hx), if_pos hxK])
       have h1' := rdr_p (hF.blk (i := 1) rfl)
       replace hk := box hk
       clear hx
       replace hxK := box hxK
       go_wp2_with (first | (with_reducible refine lsx (wp_indexAddr T_u8 (hF.rdOwn (i := 0) rfl) (by with_unfolding_all exact ⟨_, _, _, _, rfl, rfl, rfl⟩) (by omega) (by omega) ?_)) | (with_reducible refine lsx (wp_loadC (hF.rdOwn (i := 0) rfl) hK uq5 rfl (by with_unfolding_all exact ⟨_, rfl, rfl⟩) (by first | (simp; done) | (simp; omega) | omega) ?_)))
       refine (hnx.out).mono ?_
       rintro e w6 ⟨rfl, q6, rfl⟩
       have hFd := hF.drewN q6
       have h1d := rdr_p (hFd.blk (i := 1) rfl)
       go_wp2_with (first | ((with_reducible refine lsx (wp_fst1 hFd (by with_unfolding_all exact ⟨_, _, rfl, rfl, rfl⟩) (by kernel_rfl) rfl rfl (by rw [rdrL_len]; decide) (rdrL_at (q := p' + 1) (by omega)) ?_)); intro w7 hF7 hz7))
       go_roundg (2 - (j + 1))
       case rel => exact ⟨j + 1, p' + 1, by omega, rfl, by go_num, box (by have := hpj.out; omega), by omega, hgo, hF7⟩
       case measure => have := hk.out; omega
      ·have hq : ((x.toNat : Int) != (K.toNat : Int)) = true := by
        rw [bne_iff_ne]; intro h; exact hxK (UInt8.toNat_inj.1 (by omega))
       have hend : Box (jEscape b p = .error (p, 62)) := box (by
        rw [hJ.out, jEscJ_step hjlt hK.out (hpj.out ▸ hx), if_neg hxK])
       have hfl := box (fun v w => fail_any v p 62 w)
       clear hx
       replace hxK := box hxK
       go_wp2_with (first | (with_reducible refine lsx (wp_indexAddr T_u8 (hF.rdOwn (i := 0) rfl) (by with_unfolding_all exact ⟨_, _, _, _, rfl, rfl, rfl⟩) (by omega) (by omega) ?_)) | (with_reducible refine lsx (wp_loadC (hF.rdOwn (i := 0) rfl) hK uq5 rfl (by with_unfolding_all exact ⟨_, rfl, rfl⟩) (by first | (simp; done) | (simp; omega) | omega) ?_)))
       refine (hnx.out).mono ?_
       rintro e w6 ⟨rfl, q6, rfl⟩
       have hFd := hF.drewN q6
       go_wp2_with fail
       refine (hfl.out _ _).mono ?_
       rintro e w7 ⟨rfl, rfl⟩
       dsimp only [flt]
       go_wp2
       exact ⟨rfl, by unfold JEndP; rw [hend.out]; exact ⟨rfl, hFd.grown⟩⟩
     | none =>
      have hend : Box (jEscape b p = .error (n, 9)) := box (by
       rw [hJ.out, jEscJ_none hjlt (hpj.out ▸ hx), hl.out])
      have hnx := box (next_x hx (hF.blk (i := 1) rfl) (hF.rdB hg hB hr))
      rw [hl.out] at hnx
      clear hx
      go_wp2_with (first | (with_reducible refine lsx (wp_indexAddr T_u8 (hF.rdOwn (i := 0) rfl) (by with_unfolding_all exact ⟨_, _, _, _, rfl, rfl, rfl⟩) (by omega) (by omega) ?_)) | (with_reducible refine lsx (wp_loadC (hF.rdOwn (i := 0) rfl) hK uq5 rfl (by with_unfolding_all exact ⟨_, rfl, rfl⟩) (by first | (simp; done) | (simp; omega) | omega) ?_)))
      refine (hnx.out).mono ?_
      rintro e w6 ⟨rfl, hb6⟩
      have hFd := hF.call hb6
      dsimp only [flt]
      go_wp2
      exact ⟨rfl, by unfold JEndP; rw [hend.out]; exact ⟨rfl, hFd.grown⟩⟩
    ·obtain rfl : j = 2 := by omega
     have hp8 := hpj.out
     subst hp8
     have hJ2 : Box (jEscape b p = jEsc2 b p N) := hJ
     have hun2 := box (unit_any g A n c (p + 8) m B p b wr (hF.blk (i := 1) rfl) hg (Nat.le_trans hB hF.size) hn (by omega) (hF.rdB hg hB hr))
     unfold jEsc2 at hJ2
     clear hJ hpj hk
     cases hM : jUnit b p 4 0 (p + 8) with
     | error z =>
      rw [hM] at hJ2 hun2
      unfold JPost at hun2
      simp only [] at hun2 hJ2
      go_wp2_with fail
      refine hun2.out.mono ?_
      rintro e w7 ⟨rfl, hg7⟩
      dsimp only [flt]
      go_wp2
      exact ⟨rfl, by unfold JEndP; rw [hJ2.out]; exact ⟨rfl, grown_trans hF.grown hg7⟩⟩
     | ok M =>
      have hM1 := jUnit_lt (N := 0) (j := 0) (by decide) hM
      have hM65 : M < 65536 := hM1.1
      rw [hM] at hJ2 hun2
      unfold JPost at hun2
      simp only [] at hun2 hJ2
      clear hM hM1
      by_cases hms : 56320 ≤ M ∧ M < 57344
      ·have hJ3 := hJ2.out
       rw [if_pos hms] at hJ3
       replace hJ3 := box hJ3
       obtain ⟨R, hR⟩ : ∃ R, R = 65536 + (N - 55296) * 1024 + (M - 56320) := ⟨_, rfl⟩
       rw [← hR] at hJ3
       have hRi : wrap32 (wrap32 (65536 + wrap32 (wrap32 ((N : Int) - 55296) * 1024)) + wrap32 ((M : Int) - 56320)) = (R : Int) := by have := hs.out; unfold wrap32; omega
       have hAR' := box (fun w => hAR R w (by have := hs.out; omega) (by have := hs.out; omega))
       have d3 : decide ((56320 : Int) ≤ (M : Int)) = true := decide_eq_true (by omega)
       have d4 : decide ((M : Int) < 57344) = true := decide_eq_true (by omega)
       replace hms := box hms
       replace hM65 := box hM65
       replace hR := box hR
       go_wp2_with fail
       refine hun2.out.mono ?_
       rintro e w7 ⟨rfl, h7⟩
       have hF7 := hF.putF (i := 1) rfl h7
       go_wp2_with fail
       refine (hAR'.out _).mono ?_
       rintro e w8 ⟨v8, rfl, ho8, hb8⟩
       have hF8 := (hF7.tail).gotB hb8 ho8
       go_wp2_with fail
       go_ret
       unfold JEndP
       rw [hJ3.out]
       exact ⟨_, rfl, hF8⟩
      ·have hJ3 := hJ2.out
       rw [if_neg hms] at hJ3
       replace hJ3 := box hJ3
       have hfl := box (fun v w => fail_any v p 62 w)
       have d5 : (decide ((56320 : Int) ≤ (M : Int)) && decide ((M : Int) < 57344)) = false := by
        rw [Bool.and_eq_false_iff, decide_eq_false_iff_not, decide_eq_false_iff_not]; omega
       by_cases hm1 : 56320 ≤ M
       ·have d3 : decide ((56320 : Int) ≤ (M : Int)) = true := decide_eq_true (by omega)
        have d4 : decide ((M : Int) < 57344) = false := decide_eq_false (by omega)
        replace hms := box hms
        replace hM65 := box hM65
        replace hm1 := box hm1
        clear d5
        go_wp2_with fail
        refine hun2.out.mono ?_
        rintro e w7 ⟨rfl, h7⟩
        have hF7 := hF.putF (i := 1) rfl h7
        go_wp2_with fail
        refine (hfl.out _ _).mono ?_
        rintro e w8 ⟨rfl, rfl⟩
        dsimp only [flt]
        go_wp2
        exact ⟨rfl, by unfold JEndP; rw [hJ3.out]; exact ⟨rfl, hF7.grown⟩⟩
       ·have d3 : decide ((56320 : Int) ≤ (M : Int)) = false := decide_eq_false (by omega)
        replace hms := box hms
        replace hM65 := box hM65
        replace hm1 := box hm1
        clear d5
        go_wp2_with fail
        refine hun2.out.mono ?_
        rintro e w7 ⟨rfl, h7⟩
        have hF7 := hF.putF (i := 1) rfl h7
        go_wp2_with fail
        refine (hfl.out _ _).mono ?_
        rintro e w8 ⟨rfl, rfl⟩
        dsimp only [flt]
        go_wp2
        exact ⟨rfl, by unfold JEndP; rw [hJ3.out]; exact ⟨rfl, hF7.grown⟩⟩
  ·rw [if_neg hs] at hj
   by_cases hs2 : 56320 ≤ N ∧ N < 57344
   ·rw [if_pos hs2] at hj
    replace hj := box hj
    have hfl := box (fun v w => fail_any v p 62 w)
    have d1 : decide ((55296 : Int) ≤ (N : Int)) = true := decide_eq_true (by omega)
    have d2 : decide ((N : Int) < 56320) = false := decide_eq_false (by omega)
    have d3 : decide ((56320 : Int) ≤ (N : Int)) = true := decide_eq_true (by omega)
    have d4 : decide ((N : Int) < 57344) = true := decide_eq_true (by omega)
    clear hs hs2 hN65
    go_enter Tryz.func119, Tryz.ntmps119
    go_wp2_with (first | ((with_reducible refine lsx (wp_fst0 hF0 (by with_unfolding_all exact ⟨_, _, rfl, rfl, rfl⟩) (by kernel_rfl) rfl rfl (by rw [rdrL_len]; decide) (rdrL_at (q := p + 1) (by omega)) ?_)); intro w1 hF1 hz1))
    refine (hnx.out _ hF1).mono ?_
    rintro e w2 ⟨rfl, q2, rfl⟩
    have hF2 := hF1.drewN q2
    have h2 := rdr_p (hF2.blk (i := 0) rfl)
    go_wp2_with (first | ((with_reducible refine lsx (wp_fst0 hF2 (by with_unfolding_all exact ⟨_, _, rfl, rfl, rfl⟩) (by kernel_rfl) rfl rfl (by rw [rdrL_len]; decide) (rdrL_at (q := p + 2) (by omega)) ?_)); intro w3 hF3 hz3))
    refine (hun.out _ hF3).mono ?_
    rintro e w4 ⟨rfl, h4⟩
    have hF4 := hF3.putF (i := 0) rfl h4
    go_wp2_with fail
    refine (hfl.out _ _).mono ?_
    rintro e w8 ⟨rfl, rfl⟩
    dsimp only [flt]
    go_wp2
    exact ⟨rfl, by unfold JEndP; rw [hj.out]; exact ⟨rfl, hF4.grown⟩⟩
   ·rw [if_neg hs2] at hj
    replace hj := box hj
    have hAR' := box (fun w => hAR N w (by omega) (by omega))
    by_cases hs3 : N < 55296
    ·have d1 : decide ((55296 : Int) ≤ (N : Int)) = false := decide_eq_false (by omega)
     have d3 : decide ((56320 : Int) ≤ (N : Int)) = false := decide_eq_false (by omega)
     clear hs hs2 hN65 hs3
     go_enter Tryz.func119, Tryz.ntmps119
     go_wp2_with (first | ((with_reducible refine lsx (wp_fst0 hF0 (by with_unfolding_all exact ⟨_, _, rfl, rfl, rfl⟩) (by kernel_rfl) rfl rfl (by rw [rdrL_len]; decide) (rdrL_at (q := p + 1) (by omega)) ?_)); intro w1 hF1 hz1))
     refine (hnx.out _ hF1).mono ?_
     rintro e w2 ⟨rfl, q2, rfl⟩
     have hF2 := hF1.drewN q2
     have h2 := rdr_p (hF2.blk (i := 0) rfl)
     go_wp2_with (first | ((with_reducible refine lsx (wp_fst0 hF2 (by with_unfolding_all exact ⟨_, _, rfl, rfl, rfl⟩) (by kernel_rfl) rfl rfl (by rw [rdrL_len]; decide) (rdrL_at (q := p + 2) (by omega)) ?_)); intro w3 hF3 hz3))
     refine (hun.out _ hF3).mono ?_
     rintro e w4 ⟨rfl, h4⟩
     have hF4 := hF3.putF (i := 0) rfl h4
     go_wp2_with fail
     refine (hAR'.out _).mono ?_
     rintro e w8 ⟨v8, rfl, ho8, hb8⟩
     have hF8 := hF4.gotB hb8 ho8
     go_wp2_with fail
     go_ret
     unfold JEndP
     rw [hj.out]
     exact ⟨_, rfl, hF8⟩
    ·have d1 : decide ((55296 : Int) ≤ (N : Int)) = true := decide_eq_true (by omega)
     have d2 : decide ((N : Int) < 56320) = false := decide_eq_false (by omega)
     have d3 : decide ((56320 : Int) ≤ (N : Int)) = true := decide_eq_true (by omega)
     have d4 : decide ((N : Int) < 57344) = false := decide_eq_false (by omega)
     clear hs hs2 hN65 hs3
     go_enter Tryz.func119, Tryz.ntmps119
     go_wp2_with (first | ((with_reducible refine lsx (wp_fst0 hF0 (by with_unfolding_all exact ⟨_, _, rfl, rfl, rfl⟩) (by kernel_rfl) rfl rfl (by rw [rdrL_len]; decide) (rdrL_at (q := p + 1) (by omega)) ?_)); intro w1 hF1 hz1))
     refine (hnx.out _ hF1).mono ?_
     rintro e w2 ⟨rfl, q2, rfl⟩
     have hF2 := hF1.drewN q2
     have h2 := rdr_p (hF2.blk (i := 0) rfl)
     go_wp2_with (first | ((with_reducible refine lsx (wp_fst0 hF2 (by with_unfolding_all exact ⟨_, _, rfl, rfl, rfl⟩) (by kernel_rfl) rfl rfl (by rw [rdrL_len]; decide) (rdrL_at (q := p + 2) (by omega)) ?_)); intro w3 hF3 hz3))
     refine (hun.out _ hF3).mono ?_
     rintro e w4 ⟨rfl, h4⟩
     have hF4 := hF3.putF (i := 0) rfl h4
     go_wp2_with fail
     refine (hAR'.out _).mono ?_
     rintro e w8 ⟨v8, rfl, ho8, hb8⟩
     have hF8 := hF4.gotB hb8 ho8
     go_wp2_with fail
     go_ret
     unfold JEndP
     rw [hj.out]
     exact ⟨_, rfl, hF8⟩
theorem escape_any (hAR : RuneOk) (g : Nat) (A : Option Addr) (n c p m B : Nat) (b : List UInt8) (w : World) (hh : w.heap[g]? = some (.cells (rdrL A n c p m).toArray 127 (0, 0))) (hg : B ≤ g) (hB : B ≤ w.heap.size) (hn : n ≤ 140737488355000) (hp : p < n) (hr : Rd w (· < B) A 1 n (b.map bv)) :
  Calls Tryz.prog 119 #[.pointer (some ⟨g, 0, none⟩)] w (JEndP w g (jEscape b p) (ToldB w g A n c m)) := by
 by_cases hu : b[p + 1]? = some 117
 ·exact escape_u hAR g A n c p m B b w hh hg hB hn hr hu
 ·exact escape_plain g A n c p m B b w hh hg hB hn hp hr hu
end Go.Proofs.YtlhicfpmlncomaaGreatDoor

namespace Go.Proofs.YtlhicfpmlncomaaGreatDoor
open Go.Lib
theorem u8r (c : UInt8) : c.toNat < 256 := c.toNat_lt
theorem decodeN_size (c : UInt8) (l : List UInt8) (b1 b2 b3 : Nat) (h1 : ∀ x, l[0]? = some x → b1 = x.toNat) (h2 : ∀ x, l[1]? = some x → b2 = x.toNat) (h3 : ∀ x, l[2]? = some x → b3 = x.toNat) :
  ((decodeN (l.length + 1) c.toNat b1 b2 b3).1 = 65533 ∧ (decodeN (l.length + 1) c.toNat b1 b2 b3).2 < 2 ↔ jSize (c :: l) = 0) ∧ (jSize (c :: l) ≠ 0 → (decodeN (l.length + 1) c.toNat b1 b2 b3).2 = jSize (c :: l)) := by
 have hc := u8r c
 simp only [jSize]
 generalize c.toNat = C at *
 by_cases a1 : C < 128
 ·rw [if_pos a1]
  unfold decodeN
  rw [if_pos a1]
  simp; omega
 rw [if_neg a1]
 by_cases a2 : C < 194
 ·rw [if_pos a2]
  unfold decodeN
  rw [if_neg a1]
  repeat' split
  all_goals simp
  all_goals omega
 rw [if_neg a2]
 by_cases a3 : C < 224
 ·rw [if_pos a3]
  match l, h1 with
  | [], _ =>
   unfold decodeN
   rw [if_neg a1]
   repeat' split
   all_goals simp
   all_goals simp_all
   all_goals omega
  | x :: l, h1 =>
   have e1 := h1 x rfl
   have hx := u8r x
   subst e1
   simp only [jCont, Bool.and_eq_true, decide_eq_true_eq]
   unfold decodeN
   rw [if_neg a1]
   simp only [List.length_cons]
   by_cases y1 : 128 ≤ x.toNat ∧ x.toNat ≤ 191
   ·rw [if_pos y1, if_pos (by omega), if_pos (by omega)]
    simp
   ·rw [if_neg y1, if_neg (by omega), if_neg (by omega), if_neg (by omega)]
    simp
 rw [if_neg a3]
 by_cases a4 : C < 240
 ·rw [if_pos a4]
  match l, h1, h2 with
  | [], _, _ =>
   unfold decodeN
   rw [if_neg a1]
   repeat' split
   all_goals simp
   all_goals simp_all
   all_goals omega
  | [x], _, _ =>
   unfold decodeN
   rw [if_neg a1]
   repeat' split
   all_goals simp
   all_goals simp_all
   all_goals omega
  | x :: y :: l, h1, h2 =>
   have e1 := h1 x rfl
   have e2 := h2 y rfl
   have hx := u8r x
   have hy := u8r y
   subst e1 e2
   simp only [jCont, Bool.and_eq_true, decide_eq_true_eq]
   generalize x.toNat = X at *
   generalize y.toNat = Y at *
   unfold decodeN
   rw [if_neg a1]
   simp only [List.length_cons]
   rw [if_neg (by omega)]
   by_cases y1 : (128 ≤ X ∧ X ≤ 191) ∧ 128 ≤ Y ∧ Y ≤ 191
   ·obtain ⟨y1, y2⟩ := y1
    rw [if_pos (by omega)]
    have ev : C % 16 * 4096 + X % 64 * 64 + Y % 64 = (C - 224) * 4096 + (X - 128) * 64 + (Y - 128) := by omega
    rw [ev]
    by_cases z : 2048 ≤ (C - 224) * 4096 + (X - 128) * 64 + (Y - 128) ∧ ¬ (55296 ≤ (C - 224) * 4096 + (X - 128) * 64 + (Y - 128) ∧ (C - 224) * 4096 + (X - 128) * 64 + (Y - 128) < 57344)
    ·rw [if_pos (by omega), if_pos ⟨y1, y2, z⟩]; simp
    ·rw [if_neg (by omega), if_neg (fun h => z h.2.2)]; simp
   ·rw [if_neg (by omega), if_neg (by omega), if_neg (fun h => y1 ⟨h.1, h.2.1⟩)]; simp
 rw [if_neg a4]
 by_cases a5 : C < 245
 ·rw [if_pos a5]
  match l, h1, h2, h3 with
  | [], _, _, _ =>
   unfold decodeN
   rw [if_neg a1]
   repeat' split
   all_goals simp
   all_goals simp_all
   all_goals omega
  | [x], _, _, _ =>
   unfold decodeN
   rw [if_neg a1]
   repeat' split
   all_goals simp
   all_goals simp_all
   all_goals omega
  | [x, y], _, _, _ =>
   unfold decodeN
   rw [if_neg a1]
   repeat' split
   all_goals simp
   all_goals simp_all
   all_goals omega
  | x :: y :: z :: l, h1, h2, h3 =>
   have e1 := h1 x rfl
   have e2 := h2 y rfl
   have e3 := h3 z rfl
   have hx := u8r x
   have hy := u8r y
   have hz := u8r z
   subst e1 e2 e3
   simp only [jCont, Bool.and_eq_true, decide_eq_true_eq]
   generalize x.toNat = X at *
   generalize y.toNat = Y at *
   generalize z.toNat = Z at *
   unfold decodeN
   rw [if_neg a1]
   simp only [List.length_cons]
   rw [if_neg (by omega), if_neg (by omega)]
   by_cases y1 : (128 ≤ X ∧ X ≤ 191) ∧ (128 ≤ Y ∧ Y ≤ 191) ∧ 128 ≤ Z ∧ Z ≤ 191
   ·obtain ⟨y1, y2, y3⟩ := y1
    rw [if_pos (by omega)]
    have ev : C % 8 * 262144 + X % 64 * 4096 + Y % 64 * 64 + Z % 64 = (C - 240) * 262144 + (X - 128) * 4096 + (Y - 128) * 64 + (Z - 128) := by omega
    rw [ev]
    by_cases zz : 65536 ≤ (C - 240) * 262144 + (X - 128) * 4096 + (Y - 128) * 64 + (Z - 128) ∧ (C - 240) * 262144 + (X - 128) * 4096 + (Y - 128) * 64 + (Z - 128) ≤ 1114111
    ·rw [if_pos (by omega), if_pos ⟨y1, y2, y3, zz⟩]; simp
    ·rw [if_neg (by omega), if_neg (fun h => zz h.2.2.2)]; simp
   ·rw [if_neg (by omega), if_neg (fun h => y1 ⟨h.1, h.2.1, h.2.2.1⟩)]; simp
 ·rw [if_neg a5]
  unfold decodeN
  rw [if_neg a1]
  repeat' split
  all_goals simp
  all_goals omega
theorem rune_sign {r : Nat} (h : r < 1114112) (hs : ¬ (55296 ≤ r ∧ r < 57344)) : encodeRuneZ (r : Int) = (jSign r).map (fun c => (c.toNat : Int)) := by
 unfold jSign
 by_cases a : r < 128
 ·rw [if_pos a, encodeRuneZ_one (by omega) (by omega)]
  simp; omega
 rw [if_neg a]
 by_cases b : r < 2048
 ·rw [if_pos b, encodeRuneZ_two (by omega) (by omega)]
  simp; omega
 rw [if_neg b]
 by_cases c : r < 65536
 ·rw [if_pos c, encodeRuneZ_three (by omega)]
  simp; omega
 ·rw [if_neg c, encodeRuneZ_four (by omega) (by omega)]
  simp; omega
end Go.Proofs.YtlhicfpmlncomaaGreatDoor
