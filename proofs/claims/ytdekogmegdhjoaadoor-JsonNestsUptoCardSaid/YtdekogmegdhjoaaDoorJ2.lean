/-
  Layer 6: the program's reader: blanks, words.
-/
import Derived.Test.YtdekogmegdhjoaaDoorJ1
import Derived.Deep.LoopGhost
import Derived.Deep.DeepCutAuto
namespace Go.Proofs.YtdekogmegdhjoaaDoor
open Go.RowKit

section
variable {w w' : World} {g B : Nat} {es : List Ent} {A : Option Addr} {size n c p m : Nat}
theorem Fr.rdB {xs : List Value} (hF : Fr [g] w w' es) (hg : B ≤ g) (hB : B ≤ w.heap.size) (hr : Rd w (· < B) A size n xs) : Rd w' (· < B) A size n xs :=
  ⟨hr.len, hr.some_, hr.inS, fun j u hu => by
    rw [← hr.cell j u hu]
    have hb := hr.inS (hr.pos_of hu)
    refine World.cell?_of_block (w := w) ?_
    rw [atp_block]
    exact hF.block _ (by omega) (by simp; omega)⟩
theorem rdrL_len : (rdrL A n c p m).length = 3 := rfl
theorem rdrL_at {v : Int} {q : Nat} (h : v = (q : Int)) : spl (rdrL A n c p m) 1 [.int .i64 v] = rdrL A n c q m := by subst h; rfl
theorem rdrL_it {v : Int} {q : Nat} (h : v = (q : Int)) : spl (rdrL A n c p m) 2 [.int .i64 v] = rdrL A n c p q := by subst h; rfl
end
theorem u8_ne {c d : UInt8} (h : c ≠ d) : ((c.toNat : Int) == (d.toNat : Int)) = false := by
  rw [beq_eq_false_iff_ne]; intro he; exact h (UInt8.toNat_inj.1 (by omega))
theorem u8_ne' {c d : UInt8} (h : c ≠ d) : ((c.toNat : Int) != (d.toNat : Int)) = true := by rw [bne, u8_ne h]; rfl
theorem jBlanks_go {b : List UInt8} {p : Nat} {x : UInt8} (hx : b[p]? = some x) (h : jBlank x = true) : jBlanks b p = jBlanks b (p + 1) := by
  have hp := (List.getElem?_eq_some_iff.1 hx).1
  unfold jBlanks
  rw [List.drop_eq_getElem_cons hp, (List.getElem?_eq_some_iff.1 hx).2, List.takeWhile_cons, if_pos h, List.length_cons]
  omega
theorem jBlanks_stop {b : List UInt8} {p : Nat} {x : UInt8} (hx : b[p]? = some x) (h : jBlank x = false) : jBlanks b p = p := by
  have hp := (List.getElem?_eq_some_iff.1 hx).1
  unfold jBlanks
  rw [List.drop_eq_getElem_cons hp, (List.getElem?_eq_some_iff.1 hx).2, List.takeWhile_cons, if_neg (by rw [h]; decide)]
  rfl
theorem jBlanks_end {b : List UInt8} {p : Nat} (hx : b.length ≤ p) : jBlanks b p = p := by
  unfold jBlanks
  rw [List.drop_of_length_le hx]
  rfl
theorem jBlanks_le (b : List UInt8) {p : Nat} (h : p ≤ b.length) : jBlanks b p ≤ b.length := by
  have := (List.takeWhile_sublist jBlank (l := b.drop p)).length_le
  rw [List.length_drop] at this
  unfold jBlanks
  omega
theorem jBlanks_ge (b : List UInt8) (p : Nat) : p ≤ jBlanks b p := by unfold jBlanks; omega

set_option maxRecDepth 20000 in
set_option maxHeartbeats 3200000 in
theorem blanks_any (g : Nat) (A : Option Addr) (n c p m B : Nat) (b : List UInt8) (w : World) (hh : w.heap[g]? = some (.cells (rdrL A n c p m).toArray 63 (0, 0))) (hg : B ≤ g) (hB : B ≤ w.heap.size) (hn : n ≤ 140737488355000) (hp : p ≤ n) (hr : Rd w (· < B) A 1 n (b.map bv)) :
    Calls Tryd.prog 25 #[.pointer (some ⟨g, 0, none⟩)] w fun e w' => e = .returned (.tuple #[]) ∧ Fr [g] w w' [.blk g 63 (rdrL A n c (jBlanks b p) m)] := by
  have hl := box hr.bytes_len
  have hF0 := Fr.one hh
  clear hh
  go_enter Tryd.func25, Tryd.ntmps25
  go_wp2_with fail
  go_loopg [] (n - p) (fun k wr => ∃ p' : Nat, p' ≤ n ∧ Box (k = n - p') ∧ Box (jBlanks b p = jBlanks b p') ∧ Fr [g] w wr [.blk g 63 (rdrL A n c p' m)])
  case atStart => exact ⟨p, hp, box rfl, box rfl, hF0⟩
  case round =>
    obtain ⟨p', hp', hk, hj, hF⟩ := hrel
    clear hF0
    have h0 := rdr_b (hF.blk (i := 0) rfl)
    have h1 := rdr_p (hF.blk (i := 0) rfl)
    by_cases hlt : p' < n
    · obtain ⟨ad, x, hA, hx, hcx⟩ := (hF.rdB hg hB hr).atB hlt
      have hxb := x.toNat_lt
      clear hr
      subst hA
      by_cases hx0 : x = 32
      · subst hx0
        have hgo := box (jBlanks_go hx (by decide))
        replace hx := box hx
        go_wp2
        go_quiet (fail)
        have hFd := hF.drewN nq
        go_wp2_with (first | ((with_reducible refine lst (by with_unfolding_all rfl) (wp_fst0 hFd (by with_unfolding_all exact ⟨_, _, rfl, rfl, rfl⟩) (by kernel_rfl) rfl rfl (by rw [rdrL_len]; decide) (rdrL_at (v := (p' : Int) + 1) (q := p' + 1) (by omega)) ?_)); intro w2 hF2 hz2))
        go_roundg (n - (p' + 1))
        case rel => exact ⟨p' + 1, by omega, box rfl, box (hj.out.trans hgo.out), hF2⟩
        case measure => have := hk.out; omega
      · by_cases hx1 : x = 9
        · subst hx1
          have hgo := box (jBlanks_go hx (by decide))
          replace hx := box hx
          go_wp2
          go_quiet (fail)
          have hFd := hF.drewN nq
          go_wp2_with (first | ((with_reducible refine lst (by with_unfolding_all rfl) (wp_fst0 hFd (by with_unfolding_all exact ⟨_, _, rfl, rfl, rfl⟩) (by kernel_rfl) rfl rfl (by rw [rdrL_len]; decide) (rdrL_at (v := (p' : Int) + 1) (q := p' + 1) (by omega)) ?_)); intro w2 hF2 hz2))
          go_roundg (n - (p' + 1))
          case rel => exact ⟨p' + 1, by omega, box rfl, box (hj.out.trans hgo.out), hF2⟩
          case measure => have := hk.out; omega
        · by_cases hx2 : x = 10
          · subst hx2
            have hgo := box (jBlanks_go hx (by decide))
            replace hx := box hx
            go_wp2
            go_quiet (fail)
            have hFd := hF.drewN nq
            go_wp2_with (first | ((with_reducible refine lst (by with_unfolding_all rfl) (wp_fst0 hFd (by with_unfolding_all exact ⟨_, _, rfl, rfl, rfl⟩) (by kernel_rfl) rfl rfl (by rw [rdrL_len]; decide) (rdrL_at (v := (p' : Int) + 1) (q := p' + 1) (by omega)) ?_)); intro w2 hF2 hz2))
            go_roundg (n - (p' + 1))
            case rel => exact ⟨p' + 1, by omega, box rfl, box (hj.out.trans hgo.out), hF2⟩
            case measure => have := hk.out; omega
          · by_cases hx3 : x = 13
            · subst hx3
              have hgo := box (jBlanks_go hx (by decide))
              replace hx := box hx
              go_wp2
              go_quiet (fail)
              have hFd := hF.drewN nq
              go_wp2_with (first | ((with_reducible refine lst (by with_unfolding_all rfl) (wp_fst0 hFd (by with_unfolding_all exact ⟨_, _, rfl, rfl, rfl⟩) (by kernel_rfl) rfl rfl (by rw [rdrL_len]; decide) (rdrL_at (v := (p' : Int) + 1) (q := p' + 1) (by omega)) ?_)); intro w2 hF2 hz2))
              go_roundg (n - (p' + 1))
              case rel => exact ⟨p' + 1, by omega, box rfl, box (hj.out.trans hgo.out), hF2⟩
              case measure => have := hk.out; omega
            · have hst := box (jBlanks_stop hx (by simp [jBlank, hx0, hx1, hx2, hx3]))
              replace hx := box hx
              have hn0 : ((x.toNat : Int) == 32) = false := u8_ne hx0
              have hn1 : ((x.toNat : Int) == 9) = false := u8_ne hx1
              have hn2 : ((x.toNat : Int) == 10) = false := u8_ne hx2
              have hn3 : ((x.toNat : Int) == 13) = false := u8_ne hx3
              clear hx0 hx1 hx2 hx3
              go_wp2
              go_quiet (fail)
              have hFd := hF.drewN nq
              go_wp2
              go_end0
              rw [hj.out, hst.out]
              exact ⟨rfl, hFd⟩
    · have hst := box (jBlanks_end (b := b) (p := p') (by have := hl.out; omega))
      go_wp2
      go_quiet (fail)
      have hFd := hF.drewN nq
      go_wp2
      go_end0
      rw [hj.out, hst.out]
      exact ⟨rfl, hFd⟩
end Go.Proofs.YtdekogmegdhjoaaDoor
