/-
  Layer 6: the program's reader: four digits of an escape.
-/
import Derived.Test.YtdekogmegdhjoaaDoorJ3
import Derived.Laws.DeepBits32
namespace Go.Proofs.YtdekogmegdhjoaaDoor
open Go.RowKit

theorem hex_or (N d : Nat) (hN : N < 65536) (hd : d < 16) : bits BinOp.or IntKind.i32 ((N : Int) * 16) (d : Int) = ((16 * N + d : Nat) : Int) := by
  rw [show ((N : Int) * 16) = ((N * 16 : Nat) : Int) by push_cast; rfl]
  show IntKind.i32.wrap ((BitVec.ofInt 32 ((N * 16 : Nat) : Int) ||| BitVec.ofInt 32 (d : Int)).toNat : Int) = _
  have h3 : N * 16 ||| d = 16 * N + d := by
    rw [Nat.mul_comm N 16]
    exact (Nat.two_pow_add_eq_or_of_lt (i := 4) (by omega) N).symm
  rw [BitVec.toNat_or, ofInt_u32 _ (by omega), ofInt_u32 d (by omega), h3]
  exact wrap_i32_small _ (by omega) (by omega)
theorem jUnit_lt {b : List UInt8} {start : Nat} : ∀ {k N p x : Nat} {j : Nat}, N < 16 ^ j → jUnit b start k N p = .ok x → x < 16 ^ (j + k) ∧ (k = 0 ∨ p + k ≤ b.length)
  | 0, N, p, x, j, hN, h => by injection h with h; subst h; exact ⟨hN, .inl rfl⟩
  | k + 1, N, p, x, j, hN, h => by
    unfold jUnit at h
    cases hx : b[p]? with
    | none => rw [hx] at h; cases h
    | some c =>
      rw [hx] at h
      simp only [] at h
      cases hd : jHex c with
      | none => rw [hd] at h; cases h
      | some d =>
        rw [hd] at h
        simp only [] at h
        have hd16 : d < 16 := by
          unfold jHex at hd
          split at hd
          · injection hd; omega
          · split at hd
            · injection hd; omega
            · split at hd
              · injection hd; omega
              · cases hd
        have hp := (List.getElem?_eq_some_iff.1 hx).1
        obtain ⟨h1, h2⟩ := jUnit_lt (j := j + 1) (by rw [Nat.pow_succ]; omega) h
        refine ⟨by rw [show j + (k + 1) = j + 1 + k by omega]; exact h1, .inr ?_⟩
        rcases h2 with rfl | h2 <;> omega

set_option maxRecDepth 20000 in
set_option maxHeartbeats 3200000 in
theorem unit_any (g : Nat) (A : Option Addr) (n c p m B from_ : Nat) (b : List UInt8) (w : World) (hh : w.heap[g]? = some (.cells (rdrL A n c p m).toArray 63 (0, 0))) (hg : B ≤ g) (hB : B ≤ w.heap.size) (hn : n ≤ 140737488355000) (hp : p ≤ n) (hr : Rd w (· < B) A 1 n (b.map bv)) :
    Calls Tryd.prog 67 #[.pointer (some ⟨g, 0, none⟩), .int .i64 (from_ : Int)] w (JPost w g (jUnit b from_ 4 0 p) (fun x => .returned (.int .i32 (x : Int))) (fun _ => rdrL A n c (p + 4) m)) := by
  have hl := box hr.bytes_len
  have hF0 := Fr.one hh
  clear hh
  go_enter Tryd.func67, Tryd.ntmps67
  go_wp2_with fail
  go_loopg [5, 7] 4 (fun k x i wr => ∃ j N p' : Nat, j ≤ 4 ∧ k = 4 - j ∧ x = .int .i32 (N : Int) ∧ N < 16 ^ j ∧ i = .int .i64 (j : Int) ∧ p' = p + j ∧ p' ≤ n ∧ Box (jUnit b from_ 4 0 p = jUnit b from_ (4 - j) N p') ∧ Fr [g] w wr [.blk g 63 (rdrL A n c p' m)])
  case atStart => exact ⟨0, 0, p, by omega, rfl, rfl, by decide, rfl, rfl, hp, box rfl, hF0⟩
  case round =>
    obtain ⟨j, N, p', hj, hk, rfl, hN, rfl, hpp, hpn, hw, hF⟩ := hrel
    clear hF0
    by_cases hlt : j < 4
    · cases hx : b[p']? with
      | some x =>
        have hxb := x.toNat_lt
        have hnx := box (next_q hx (hF.blk (i := 0) rfl) (hF.rdB hg hB hr) 0)
        have hplt := (List.getElem?_eq_some_iff.1 hx).1
        rw [hl.out] at hplt
        replace hk := box hk
        replace hpp := box hpp
        have hN2 : N < 65536 := by
          have : 16 ^ j ≤ 16 ^ 4 := Nat.pow_le_pow_right (by decide) hj
          omega
        by_cases h0 : 48 ≤ x.toNat ∧ x.toNat ≤ 57
        · obtain ⟨d, hd, hdx⟩ : ∃ d, d < 16 ∧ x.toNat = d + 48 := ⟨x.toNat - 48, by omega, by omega⟩
          obtain ⟨N', hN'⟩ : ∃ N', N' = 16 * N + d := ⟨_, rfl⟩
          have hor : bits BinOp.or IntKind.i32 ((N : Int) * 16) ((x.toNat : Int) - 48) = (N' : Int) := by
            rw [show (x.toNat : Int) - 48 = (d : Int) by omega, hN']
            exact hex_or N d hN2 hd
          have hjh : jHex x = some d := by unfold jHex; rw [if_pos (by omega)]; exact congrArg some (by omega)
          have hgo : Box (jUnit b from_ 4 0 p = jUnit b from_ (4 - (j + 1)) N' (p' + 1)) := box (by
            rw [hw.out, show 4 - j = (4 - (j + 1)) + 1 by omega, jUnit, hx]; simp only []; rw [hjh, hN'])
          have hN16 : N' < 16 ^ (j + 1) := by rw [Nat.pow_succ]; omega
          clear hdx hN' hjh hx
          go_wp2_with fail
          refine (hnx.out).mono ?_
          rintro e w1 ⟨rfl, q1, rfl⟩
          have hFd := hF.drewN q1
          have hc1 := rdr_p (hFd.blk (i := 0) rfl)
          go_wp2_with (first | ((with_reducible refine lst (by with_unfolding_all rfl) (wp_fst0 hFd (by with_unfolding_all exact ⟨_, _, rfl, rfl, rfl⟩) (by kernel_rfl) rfl rfl (by rw [rdrL_len]; decide) (rdrL_at (v := (p' : Int) + 1) (q := p' + 1) (by omega)) ?_)); intro w2 hF2 hz2))
          go_roundg (4 - (j + 1))
          case rel => exact ⟨j + 1, N', p' + 1, by omega, rfl, rfl, hN16, by go_num, by have := hpp.out; omega, by omega, hgo, hF2⟩
          case measure => have := hk.out; omega
        · by_cases h1 : 97 ≤ x.toNat ∧ x.toNat ≤ 102
          · obtain ⟨d, hd, hdx⟩ : ∃ d, d < 16 ∧ x.toNat = d + 87 := ⟨x.toNat - 87, by omega, by omega⟩
            obtain ⟨N', hN'⟩ : ∃ N', N' = 16 * N + d := ⟨_, rfl⟩
            have hor : bits BinOp.or IntKind.i32 ((N : Int) * 16) ((x.toNat : Int) - 97 + 10) = (N' : Int) := by
              rw [show (x.toNat : Int) - 97 + 10 = (d : Int) by omega, hN']
              exact hex_or N d hN2 hd
            have hjh : jHex x = some d := by unfold jHex; rw [if_neg (by omega)]; rw [if_pos (by omega)]; exact congrArg some (by omega)
            have hgo : Box (jUnit b from_ 4 0 p = jUnit b from_ (4 - (j + 1)) N' (p' + 1)) := box (by
              rw [hw.out, show 4 - j = (4 - (j + 1)) + 1 by omega, jUnit, hx]; simp only []; rw [hjh, hN'])
            have hN16 : N' < 16 ^ (j + 1) := by rw [Nat.pow_succ]; omega
            clear hdx hN' hjh hx
            go_wp2_with fail
            refine (hnx.out).mono ?_
            rintro e w1 ⟨rfl, q1, rfl⟩
            have hFd := hF.drewN q1
            have hc1 := rdr_p (hFd.blk (i := 0) rfl)
            go_wp2_with (first | ((with_reducible refine lst (by with_unfolding_all rfl) (wp_fst0 hFd (by with_unfolding_all exact ⟨_, _, rfl, rfl, rfl⟩) (by kernel_rfl) rfl rfl (by rw [rdrL_len]; decide) (rdrL_at (v := (p' : Int) + 1) (q := p' + 1) (by omega)) ?_)); intro w2 hF2 hz2))
            go_roundg (4 - (j + 1))
            case rel => exact ⟨j + 1, N', p' + 1, by omega, rfl, rfl, hN16, by go_num, by have := hpp.out; omega, by omega, hgo, hF2⟩
            case measure => have := hk.out; omega
          · by_cases h2 : 65 ≤ x.toNat ∧ x.toNat ≤ 70
            · obtain ⟨d, hd, hdx⟩ : ∃ d, d < 16 ∧ x.toNat = d + 55 := ⟨x.toNat - 55, by omega, by omega⟩
              obtain ⟨N', hN'⟩ : ∃ N', N' = 16 * N + d := ⟨_, rfl⟩
              have hor : bits BinOp.or IntKind.i32 ((N : Int) * 16) ((x.toNat : Int) - 65 + 10) = (N' : Int) := by
                rw [show (x.toNat : Int) - 65 + 10 = (d : Int) by omega, hN']
                exact hex_or N d hN2 hd
              have hjh : jHex x = some d := by unfold jHex; rw [if_neg (by omega)]; rw [if_neg (by omega)]; rw [if_pos (by omega)]; exact congrArg some (by omega)
              have hgo : Box (jUnit b from_ 4 0 p = jUnit b from_ (4 - (j + 1)) N' (p' + 1)) := box (by
                rw [hw.out, show 4 - j = (4 - (j + 1)) + 1 by omega, jUnit, hx]; simp only []; rw [hjh, hN'])
              have hN16 : N' < 16 ^ (j + 1) := by rw [Nat.pow_succ]; omega
              clear hdx hN' hjh hx
              go_wp2_with fail
              refine (hnx.out).mono ?_
              rintro e w1 ⟨rfl, q1, rfl⟩
              have hFd := hF.drewN q1
              have hc1 := rdr_p (hFd.blk (i := 0) rfl)
              go_wp2_with (first | ((with_reducible refine lst (by with_unfolding_all rfl) (wp_fst0 hFd (by with_unfolding_all exact ⟨_, _, rfl, rfl, rfl⟩) (by kernel_rfl) rfl rfl (by rw [rdrL_len]; decide) (rdrL_at (v := (p' : Int) + 1) (q := p' + 1) (by omega)) ?_)); intro w2 hF2 hz2))
              go_roundg (4 - (j + 1))
              case rel => exact ⟨j + 1, N', p' + 1, by omega, rfl, rfl, hN16, by go_num, by have := hpp.out; omega, by omega, hgo, hF2⟩
              case measure => have := hk.out; omega
            ·
                have hjh : jHex x = none := by unfold jHex; rw [if_neg (by omega), if_neg (by omega), if_neg (by omega)]
                have hend : Box (jUnit b from_ 4 0 p = .error (from_, 62)) := box (by
                  rw [hw.out, show 4 - j = (4 - (j + 1)) + 1 by omega, jUnit, hx]; simp only []; rw [hjh])
                have hfl := box (fun v w => fail_any v from_ 62 w)
                clear hjh hx
                go_wp2_with fail
                refine (hnx.out).mono ?_
                rintro e w1 ⟨rfl, q1, rfl⟩
                have hFd := hF.drewN q1
                go_wp2_with fail
                all_goals
                  refine (hfl.out _ _).mono ?_
                  rintro e w2 ⟨rfl, rfl⟩
                  dsimp only [flt]
                  go_wp2
                  exact ⟨rfl, by unfold JPost; rw [hend.out]; exact ⟨rfl, hFd.grown⟩⟩
      | none =>
        have hend : Box (jUnit b from_ 4 0 p = .error (n, 9)) := box (by
          rw [hw.out, show 4 - j = (4 - (j + 1)) + 1 by omega, jUnit, hx, hl.out])
        have hnx := box (next_x hx (hF.blk (i := 0) rfl) (hF.rdB hg hB hr))
        rw [hl.out] at hnx
        clear hx
        go_wp2_with fail
        refine (hnx.out).mono ?_
        rintro e w1 ⟨rfl, hb1⟩
        have hFd := hF.call hb1
        dsimp only [flt]
        go_wp2
        exact ⟨rfl, by unfold JPost; rw [hend.out]; exact ⟨rfl, hFd.grown⟩⟩
    · obtain rfl : j = 4 := by omega
      have hend : Box (jUnit b from_ 4 0 p = .ok N) := box (by rw [hw.out]; rfl)
      have hpe : Box (p' = p + 4) := box hpp
      clear hpp hk
      go_wp2
      go_ret
      unfold JPost
      rw [hend.out]
      exact ⟨rfl, by rw [← hpe.out]; exact hF⟩
end Go.Proofs.YtdekogmegdhjoaaDoor
