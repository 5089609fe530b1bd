/-
  The walk of the document's Same.
-/
import Derived.Test.YtcnjnkkdidpjiaaTy
import Derived.Deep.QuietTactic
import Derived.BigQuiet
namespace Go.Proofs.Ytcnjnkkdidpjiaa
open Go.RowKit

set_option maxRecDepth 20000 in
set_option maxHeartbeats 400000 in
theorem same_any (A B : Option Addr) (n m c d : Nat) (l k : List UInt8) (w : World) (hm : n ≤ 9223372036854775807) (hr : Rd w (· < w.heap.size) A 1 n (l.map bv)) (hr2 : Rd w (· < w.heap.size) B 1 m (k.map bv)) :
    Calls Try.prog 13 #[.slice A n c, .slice B m d] w fun e w' => e = .returned (.bool (l == k)) ∧ Below w.heap.size w w' := by
  have hl := box hr.bytes_len
  have hk := box hr2.bytes_len
  by_cases hnm : n = m
  · subst hnm
    go_enter Try.func13, Try.ntmps13
    go_wp2
    go_loopw [5] (fun i wr => ∃ j : Nat, j ≤ n ∧ Box (l.take j = k.take j) ∧ i = .int .i64 j ∧ Below w.heap.size w wr) (fun i _ => n - (intOf i).toNat)
    case atStart => exact ⟨0, by omega, box rfl, rfl, Below.refl _ _⟩
    case round =>
      obtain ⟨j, hj, HT, rfl, hb⟩ := hrel
      by_cases hlt : j < n
      · obtain ⟨ad, x, hA, hx, hcx⟩ := (hr.below hb).atB hlt
        obtain ⟨bd, y, hB, hy, hcy⟩ := (hr2.below hb).atB hlt
        replace hx := box hx
        replace hy := box hy
        clear hr hr2
        subst hA hB
        by_cases hxy : x = y
        · subst hxy
          go_wp2
          go_quiet (fail)
          go_wp2
          go_roundw
          case rel => exact ⟨j + 1, by omega, box (by rw [take_snoc hx.out, take_snoc hy.out, HT.out]), by go_num, below_drewN hb _⟩
          case measure => simp [intOf]; omega
        · have hne : ((x.toNat : Int) != (y.toNat : Int)) = true := by
            simp only [bne_iff_ne, ne_eq]
            intro h; exact hxy (UInt8.toNat_inj.1 (by omega))
          replace hxy := box hxy
          go_wp2
          go_quiet (fail)
          go_wp2
          go_ret
          exact ⟨by rw [beq_false_of_ne (fun h => hxy.out (by have h1 := hx.out; have h2 := hy.out; rw [h, h2] at h1; injection h1 with h1; exact h1.symm))]; rfl, below_drewN hb _⟩
      · go_wp2
        go_ret
        have he : l = k := by
          have := HT.out
          rwa [List.take_of_length_le (by have := hl.out; omega), List.take_of_length_le (by have := hk.out; omega)] at this
        exact ⟨by rw [he, beq_self_eq_true]; rfl, hb⟩
  · have hne : ((n : Int) != (m : Int)) = true := by simp only [bne_iff_ne, ne_eq]; omega
    have hlk : (l == k) = false := beq_false_of_ne (fun h => hnm (by rw [← hl.out, ← hk.out, h]))
    replace hlk := box hlk
    replace hnm := box hnm
    go_enter Try.func13, Try.ntmps13
    go_wp2
    go_ret
    exact ⟨by rw [hlk.out]; rfl, Below.refl _ _⟩
end Go.Proofs.Ytcnjnkkdidpjiaa
