/-
 Layer 6: the document's reader: faults, the next byte, blanks.
 A text appended to bytes that the call owns, over a frame of known blocks. No program is named here.
 A sign of a text, by its place: the laws of the operation. No program is named here.
 Layer 6: the document's reader: blanks, words.
-/
import Derived.Test.YtlhicfpmlncomaaGreatDoorG07
import Derived.Test.YtlhicfpmlncomaaGreatDoorG02
import Derived.Test.YtlhicfpmlncomaaGreatDoorG11
import Derived.Test.YtlhicfpmlncomaaGreatDoorG04
import Derived.Lib.AppendStr
namespace Go.Proofs.YtlhicfpmlncomaaGreatDoor
open Go.RowKit
set_option linter.unusedSimpArgs false
/-- The reader's cells: the bytes, the place, the fault, where it is, how many values. -/
def rrL (A : Option Addr) (n c p f wh m : Nat) : List Value := [.slice A n c, .int .i64 (p : Int), .int .i64 (f : Int), .int .i64 (wh : Int), .int .i64 (m : Int)]
section
variable {w w' : World} {g B : Nat} {A : Option Addr} {n c p f wh m : Nat} {b : List UInt8}
theorem rr_b (hh : w.heap[g]? = some (.cells (rrL A n c p f wh m).toArray 146 (0, 0))) : w.cell? ⟨g, 0, none⟩ = some (.slice A n c) := by rw [cell_of_row w g 0 _ _ (0, 0) hh]; rfl
theorem rr_p (hh : w.heap[g]? = some (.cells (rrL A n c p f wh m).toArray 146 (0, 0))) : w.cell? ⟨g, 1, none⟩ = some (.int .i64 (p : Int)) := by rw [cell_of_row w g 1 _ _ (0, 0) hh]; rfl
theorem rr_f (hh : w.heap[g]? = some (.cells (rrL A n c p f wh m).toArray 146 (0, 0))) : w.cell? ⟨g, 2, none⟩ = some (.int .i64 (f : Int)) := by rw [cell_of_row w g 2 _ _ (0, 0) hh]; rfl
theorem rrL_len : (rrL A n c p f wh m).length = 5 := rfl
theorem rrL_at {v : Int} {q : Nat} (h : v = (q : Int)) : spl (rrL A n c p f wh m) 1 [.int .i64 v] = rrL A n c q f wh m := by subst h; rfl
theorem rrL_ft {v : Int} {q : Nat} (h : v = (q : Int)) : spl (rrL A n c p f wh m) 2 [.int .i64 v] = rrL A n c p q wh m := by subst h; rfl
theorem rrL_wh {v : Int} {q : Nat} (h : v = (q : Int)) : spl (rrL A n c p f wh m) 3 [.int .i64 v] = rrL A n c p f q m := by subst h; rfl
theorem rrL_it {v : Int} {q : Nat} (h : v = (q : Int)) : spl (rrL A n c p f wh m) 4 [.int .i64 v] = rrL A n c p f wh q := by subst h; rfl
/-- Where the reader is behind a reading: at a place; or a fault stands in it. -/
def RSt (w : World) (g : Nat) (A : Option Addr) (n c m : Nat) (r : JR Nat) (w' : World) : Prop :=
 match r with
 | .ok q => Fr [g] w w' [.blk g 146 (rrL A n c q 0 0 m)]
 | .error x => ∃ p' m', Fr [g] w w' [.blk g 146 (rrL A n c p' x.2 x.1 m')]
end
set_option maxRecDepth 20000 in
set_option maxHeartbeats 800000 in
theorem rfail_ok (g : Nat) (A : Option Addr) (n c p m : Nat) (x : Nat × Nat) (w : World) (hh : w.heap[g]? = some (.cells (rrL A n c p 0 0 m).toArray 146 (0, 0))) :
  Calls Tryz.prog 73 #[.pointer (some ⟨g, 0, none⟩), .int .i64 (x.1 : Int), .int .i64 (x.2 : Int)] w fun e w' => e = .returned (.tuple #[]) ∧ Fr [g] w w' [.blk g 146 (rrL A n c p x.2 x.1 m)] := by
 have hF0 := Fr.one hh
 clear hh
 go_enter Tryz.func73, Tryz.ntmps73
 go_wp2_with (first | (with_reducible refine lst (by with_unfolding_all rfl) (wp_fld0 hF0 Tryz.underlying3 rfl (by with_unfolding_all exact ⟨_, rfl, rfl⟩) rfl ?_)) | (with_reducible refine lst (by with_unfolding_all rfl) (wp_fld0 hF0 Tryz.underlying22 rfl (by with_unfolding_all exact ⟨_, rfl, rfl⟩) rfl ?_)) | ((with_reducible refine lst (by with_unfolding_all rfl) (wp_fst0 hF0 (by with_unfolding_all exact ⟨_, _, rfl, rfl, rfl⟩) (by kernel_rfl) rfl rfl (by rw [rrL_len]; decide) (rrL_ft (q := x.2) rfl) ?_)); intro w1 hF1 hz1) | ((with_reducible refine lst (by with_unfolding_all rfl) (wp_fst0 hF1 (by with_unfolding_all exact ⟨_, _, rfl, rfl, rfl⟩) (by kernel_rfl) rfl rfl (by rw [rrL_len]; decide) (rrL_wh (q := x.1) rfl) ?_)); intro w2 hF2 hz2))
 go_end0
 exact ⟨rfl, hF2⟩
set_option maxRecDepth 20000 in
set_option maxHeartbeats 800000 in
theorem rfail_bad (g : Nat) (A : Option Addr) (n c p f wh m : Nat) (y z : Int) (w : World) (hf : f ≠ 0) (hh : w.heap[g]? = some (.cells (rrL A n c p f wh m).toArray 146 (0, 0))) :
  Calls Tryz.prog 73 #[.pointer (some ⟨g, 0, none⟩), .int .i64 y, .int .i64 z] w fun e w' => e = .returned (.tuple #[]) ∧ Fr [g] w w' [.blk g 146 (rrL A n c p f wh m)] := by
 have hF0 := Fr.one hh
 have hf0 : ((f : Int) == 0) = false := by rw [beq_eq_false_iff_ne]; omega
 clear hh
 replace hf := box hf
 go_enter Tryz.func73, Tryz.ntmps73
 go_wp2_with (first | (with_reducible refine lst (by with_unfolding_all rfl) (wp_fld0 hF0 Tryz.underlying3 rfl (by with_unfolding_all exact ⟨_, rfl, rfl⟩) rfl ?_)) | (with_reducible refine lst (by with_unfolding_all rfl) (wp_fld0 hF0 Tryz.underlying22 rfl (by with_unfolding_all exact ⟨_, rfl, rfl⟩) rfl ?_)))
 go_end0
 exact ⟨rfl, hF0⟩
/-- What the next byte is. -/
def jLook (b : List UInt8) (p f : Nat) : Nat := if f ≠ 0 then 256 else match b[p]? with | none => 256 | some c => c.toNat
set_option maxRecDepth 20000 in
set_option maxHeartbeats 800000 in
theorem rlook_any (g : Nat) (A : Option Addr) (n c p f wh m : Nat) (b : List UInt8) (w : World) (S : Nat → Prop) (hh : w.heap[g]? = some (.cells (rrL A n c p f wh m).toArray 146 (0, 0))) (hr : Rd w S A 1 n (b.map bv)) :
  Calls Tryz.prog 98 #[.pointer (some ⟨g, 0, none⟩)] w fun e w' => e = .returned (.int .i64 (jLook b p f : Int)) ∧ ∃ k, w' = w.drewN k := by
 have hl := hr.bytes_len
 have h0 := rr_b hh
 have h1 := rr_p hh
 have h2 := rr_f hh
 clear hh
 by_cases hf : f = 0
 ·subst hf
  by_cases hlt : p < n
  ·obtain ⟨ad, x, hA, hx, hcx⟩ := hr.atB hlt
   have hj : Box (jLook b p 0 = x.toNat) := box (by unfold jLook; rw [if_neg (by simp), hx])
   have hwx : wrap64 (x.toNat : Int) = (x.toNat : Int) := by have := x.toNat_lt; unfold wrap64; omega
   replace hx := box hx
   replace hl := box hl
   clear hr
   subst hA
   go_enter Tryz.func98, Tryz.ntmps98
   go_wp2
   go_quiet (fail)
   go_wp2
   go_quiet (fail)
   go_wp2
   go_ret
   exact ⟨(show _ = Ending.returned (Value.int .i64 (wrap64 (x.toNat : Int))) from rfl).trans (by rw [hwx, hj.out]), _, World.drewN_drewN _ _ _⟩
  ·have hj : Box (jLook b p 0 = 256) := box (by unfold jLook; rw [if_neg (by simp), List.getElem?_eq_none (by omega)])
   replace hl := box hl
   clear hr
   go_enter Tryz.func98, Tryz.ntmps98
   go_wp2
   go_quiet (fail)
   go_wp2
   go_ret
   exact ⟨by rw [hj.out]; rfl, _, rfl⟩
 ·have hj : Box (jLook b p f = 256) := box (by unfold jLook; rw [if_pos hf])
  have hf0 : ((f : Int) != 0) = true := by rw [bne_iff_ne]; omega
  replace hl := box hl
  replace hf := box hf
  clear hr
  go_enter Tryz.func98, Tryz.ntmps98
  go_wp2
  go_quiet (fail)
  go_wp2
  go_ret
  exact ⟨by rw [hj.out]; rfl, _, rfl⟩
section
variable {g : Nat} {A : Option Addr} {n c p f wh m B : Nat} {b : List UInt8} {w : World}
set_option maxRecDepth 20000 in
set_option maxHeartbeats 800000 in
theorem rwant_in {x : UInt8} (hx : b[p]? = some x) (hh : w.heap[g]? = some (.cells (rrL A n c p 0 wh m).toArray 146 (0, 0))) (hr : Rd w (· < B) A 1 n (b.map bv)) :
  Calls Tryz.prog 99 #[.pointer (some ⟨g, 0, none⟩)] w fun e w' => e = .returned (.int .i64 (x.toNat : Int)) ∧ Fr [g] w w' [.blk g 146 (rrL A n c p 0 wh m)] := by
 have hF0 := Fr.one hh
 have hlk := rlook_any g A n c p 0 wh m b w _ hh hr
 have hj : jLook b p 0 = x.toNat := by unfold jLook; rw [if_neg (by simp), hx]
 rw [hj] at hlk
 have hxl := x.toNat_lt
 have hne : ((x.toNat : Int) == 256) = false := by rw [beq_eq_false_iff_ne]; omega
 clear hh hr hx hj
 go_enter Tryz.func99, Tryz.ntmps99
 go_wp2_with fail
 refine hlk.mono ?_
 rintro e w1 ⟨rfl, k, rfl⟩
 go_wp2_with fail
 go_ret
 exact ⟨rfl, hF0.drewN k⟩
set_option maxRecDepth 20000 in
set_option maxHeartbeats 800000 in
theorem rwant_end (hx : b[p]? = none) (hh : w.heap[g]? = some (.cells (rrL A n c p 0 0 m).toArray 146 (0, 0))) (hr : Rd w (· < B) A 1 n (b.map bv)) :
  Calls Tryz.prog 99 #[.pointer (some ⟨g, 0, none⟩)] w fun e w' => e = .returned (.int .i64 256) ∧ Fr [g] w w' [.blk g 146 (rrL A n c p 9 n m)] := by
 have hF0 := Fr.one hh
 have hlk := rlook_any g A n c p 0 0 m b w _ hh hr
 have hj : jLook b p 0 = 256 := by unfold jLook; rw [if_neg (by simp), hx]
 rw [hj] at hlk
 clear hh hr hx hj
 go_enter Tryz.func99, Tryz.ntmps99
 go_wp2_with fail
 refine hlk.mono ?_
 rintro e w1 ⟨rfl, k, rfl⟩
 have hF1 := hF0.drewN k
 go_wp2_with (first | (with_reducible refine lst (by with_unfolding_all rfl) (wp_fld0 hF1 Tryz.underlying3 rfl (by with_unfolding_all exact ⟨_, rfl, rfl⟩) rfl ?_)) | (with_reducible refine lst (by with_unfolding_all rfl) (wp_fld0 hF1 Tryz.underlying22 rfl (by with_unfolding_all exact ⟨_, rfl, rfl⟩) rfl ?_)))
 refine (rfail_ok g A n c p m (n, 9) _ (hF1.blk (i := 0) rfl)).mono ?_
 rintro e w2 ⟨rfl, h2⟩
 have hF2 := hF1.putF (i := 0) rfl h2
 simp only [List.set_cons_zero] at hF2
 go_wp2_with fail
 go_ret
 exact ⟨rfl, hF2⟩
set_option maxRecDepth 20000 in
set_option maxHeartbeats 800000 in
theorem rwant_bad (hf : f ≠ 0) (hh : w.heap[g]? = some (.cells (rrL A n c p f wh m).toArray 146 (0, 0))) (hr : Rd w (· < B) A 1 n (b.map bv)) :
  Calls Tryz.prog 99 #[.pointer (some ⟨g, 0, none⟩)] w fun e w' => e = .returned (.int .i64 256) ∧ Fr [g] w w' [.blk g 146 (rrL A n c p f wh m)] := by
 have hF0 := Fr.one hh
 have hlk := rlook_any g A n c p f wh m b w _ hh hr
 have hj : jLook b p f = 256 := by unfold jLook; rw [if_pos hf]
 rw [hj] at hlk
 have hfa := box hf
 clear hh hr hf hj
 go_enter Tryz.func99, Tryz.ntmps99
 go_wp2_with fail
 refine hlk.mono ?_
 rintro e w1 ⟨rfl, k, rfl⟩
 have hF1 := hF0.drewN k
 go_wp2_with (first | (with_reducible refine lst (by with_unfolding_all rfl) (wp_fld0 hF1 Tryz.underlying3 rfl (by with_unfolding_all exact ⟨_, rfl, rfl⟩) rfl ?_)) | (with_reducible refine lst (by with_unfolding_all rfl) (wp_fld0 hF1 Tryz.underlying22 rfl (by with_unfolding_all exact ⟨_, rfl, rfl⟩) rfl ?_)))
 refine (rfail_bad g A n c p f wh m _ _ _ hfa.out (hF1.blk (i := 0) rfl)).mono ?_
 rintro e w2 ⟨rfl, h2⟩
 have hF2 := hF1.putF (i := 0) rfl h2
 simp only [List.set_cons_zero] at hF2
 go_wp2_with fail
 go_ret
 exact ⟨rfl, hF2⟩
end
end Go.Proofs.YtlhicfpmlncomaaGreatDoor

namespace Go.Proofs.YtlhicfpmlncomaaGreatDoor
open Go.RowKit
section
variable {P : Program} {w : World}
end
end Go.Proofs.YtlhicfpmlncomaaGreatDoor

namespace Go.Proofs.YtlhicfpmlncomaaGreatDoor
open Go.RowKit
set_option linter.unusedSimpArgs false
/-- A sign of a text, by its place. -/
theorem run_sidx {P : Program} {t : TypeId} (ht : P.underlying t = some .string) {s : ByteArray} {kd : IntKind} {j : Int} {k : Nat} {c : UInt8} (hj : j = (k : Int)) (hc : s.data.toList[k]? = some c) (w : World) : (Instr.index t (.string s) (.int kd j)).run P w = .ok (.int .u8 (c.toNat : Int)) w := by
 subst hj
 have hk : k < s.data.toList.length := (List.getElem?_eq_some_iff.1 hc).1
 have hk2 : k < s.size := by rw [← str_len s]; exact hk
 have he : s[k]'hk2 = c := by
  have := (List.getElem?_eq_some_iff.1 hc).2
  rw [← this]
  rfl
 rw [run_index_string w t s kd _ ht, dif_pos ⟨by omega, by omega⟩]
 simp only [Int.toNat_natCast, he]
theorem wp_sidx {P : Program} {o : Oper} {a : Act} {w : World} {K : Act → World → Prop} {Q : Exit → Act → World → Prop} {t : TypeId} (ht : P.underlying t = some .string) {s : ByteArray} {j : Int} {k : Nat} {c : UInt8} (hj : j = (k : Int)) (hc : s.data.toList[k]? = some c)
  (ho : ∃ x i kd, o.op = .index t x i ∧ a.eval x = .string s ∧ a.eval i = .int kd j) (hK : K (a.put o.dst (.int .u8 (c.toNat : Int))) w) : o.wp P a w K Q := by
 obtain ⟨x, i, kd, ho, hx, hi⟩ := ho
 refine wp_run (v := .int .u8 (c.toNat : Int)) (w' := w) ?_ hK
 unfold execOp
 simp [ho, hx, hi, run_sidx ht hj hc]
end Go.Proofs.YtlhicfpmlncomaaGreatDoor

namespace Go.Proofs.YtlhicfpmlncomaaGreatDoor
open Go.RowKit
set_option linter.unusedSimpArgs false
theorem jWord_go {b l : List UInt8} {p : Nat} {x : UInt8} (hx : b[p]? = some x) : jWord b (x :: l) p = jWord b l (p + 1) := by rw [jWord, hx]; simp
theorem jWord_no {b l : List UInt8} {p : Nat} {x y : UInt8} (hx : b[p]? = some x) (h : x ≠ y) : jWord b (y :: l) p = .error (p, 10) := by rw [jWord, hx]; simp [h]
theorem jWord_end {b l : List UInt8} {p : Nat} {y : UInt8} (hx : b[p]? = none) : jWord b (y :: l) p = .error (b.length, 9) := by rw [jWord, hx]
theorem jLook_in {b : List UInt8} {p : Nat} {x : UInt8} (hx : b[p]? = some x) : jLook b p 0 = x.toNat := by unfold jLook; rw [if_neg (by simp), hx]
theorem jLook_end {b : List UInt8} {p : Nat} (hx : b[p]? = none) : jLook b p 0 = 256 := by unfold jLook; rw [if_neg (by simp), hx]
theorem jLook_bad {b : List UInt8} {p f : Nat} (hf : f ≠ 0) : jLook b p f = 256 := by unfold jLook; rw [if_pos hf]
set_option maxRecDepth 20000 in
set_option maxHeartbeats 3200000 in
theorem rblanks_ok (g : Nat) (A : Option Addr) (n c p wh m B : Nat) (b : List UInt8) (w : World) (hh : w.heap[g]? = some (.cells (rrL A n c p 0 wh m).toArray 146 (0, 0))) (hg : B ≤ g) (hB : B ≤ w.heap.size) (hn : n ≤ 140737488355000) (hp : p ≤ n) (hr : Rd w (· < B) A 1 n (b.map bv)) :
  Calls Tryz.prog 71 #[.pointer (some ⟨g, 0, none⟩)] w fun e w' => e = .returned (.tuple #[]) ∧ Fr [g] w w' [.blk g 146 (rrL A n c (jBlanks b p) 0 wh m)] := by
 have hl := box hr.bytes_len
 have hF0 := Fr.one hh
 clear hh
 go_enter Tryz.func71, Tryz.ntmps71
 go_wp2_with fail
 go_loopg [] (n - p) (fun k wr => ∃ p' : Nat, p' ≤ n ∧ Box (k = n - p') ∧ Box (jBlanks b p = jBlanks b p') ∧ Fr [g] w wr [.blk g 146 (rrL A n c p' 0 wh m)])
 case atStart => exact ⟨p, hp, box rfl, box rfl, hF0⟩
 case round =>
  obtain ⟨p', hp', hk, hj, hF⟩ := hrel
  clear hF0
  go_wp2_with fail
  refine (rlook_any g A n c p' 0 wh m b _ _ (hF.blk (i := 0) rfl) (hF.rdB hg hB hr)).mono ?_
  rintro e w1 ⟨rfl, kk, rfl⟩
  by_cases hlt : p' < n
  ·obtain ⟨x, hx'⟩ : ∃ x, b[p']? = some x := ⟨b[p']'(by rw [hl.out]; exact hlt), by simp⟩
   have hx := box hx'
   have hxb := x.toNat_lt
   clear hx'
   by_cases hx0 : x = 32
   ·subst hx0
    have hgo := box (jBlanks_go hx.out (by decide))
    rw [jLook_in hx.out]
    have hFd := hF.drewN kk
    go_wp2_with (first | (with_reducible refine lst (by with_unfolding_all rfl) (wp_fld0 hFd Tryz.underlying3 rfl (by with_unfolding_all exact ⟨_, rfl, rfl⟩) rfl ?_)) | (with_reducible refine lst (by with_unfolding_all rfl) (wp_fld0 hFd Tryz.underlying22 rfl (by with_unfolding_all exact ⟨_, rfl, rfl⟩) rfl ?_)) | ((with_reducible refine lst (by with_unfolding_all rfl) (wp_fst0 hFd (by with_unfolding_all exact ⟨_, _, rfl, rfl, rfl⟩) (by kernel_rfl) rfl rfl (by rw [rrL_len]; decide) (rrL_at (v := (p' : Int) + 1) (q := p' + 1) (by omega)) ?_)); intro w2 hF2 hz2))
    go_roundg (n - (p' + 1))
    case rel => exact ⟨p' + 1, by omega, box rfl, box (hj.out.trans hgo.out), hF2⟩
    case measure => have := hk.out; omega
   ·skip
    by_cases hx1 : x = 9
    ·subst hx1
     have hgo := box (jBlanks_go hx.out (by decide))
     rw [jLook_in hx.out]
     have hFd := hF.drewN kk
     go_wp2_with (first | (with_reducible refine lst (by with_unfolding_all rfl) (wp_fld0 hFd Tryz.underlying3 rfl (by with_unfolding_all exact ⟨_, rfl, rfl⟩) rfl ?_)) | (with_reducible refine lst (by with_unfolding_all rfl) (wp_fld0 hFd Tryz.underlying22 rfl (by with_unfolding_all exact ⟨_, rfl, rfl⟩) rfl ?_)) | ((with_reducible refine lst (by with_unfolding_all rfl) (wp_fst0 hFd (by with_unfolding_all exact ⟨_, _, rfl, rfl, rfl⟩) (by kernel_rfl) rfl rfl (by rw [rrL_len]; decide) (rrL_at (v := (p' : Int) + 1) (q := p' + 1) (by omega)) ?_)); intro w2 hF2 hz2))
     go_roundg (n - (p' + 1))
     case rel => exact ⟨p' + 1, by omega, box rfl, box (hj.out.trans hgo.out), hF2⟩
     case measure => have := hk.out; omega
    ·skip
     by_cases hx2 : x = 10
     ·subst hx2
      have hgo := box (jBlanks_go hx.out (by decide))
      rw [jLook_in hx.out]
      have hFd := hF.drewN kk
      go_wp2_with (first | (with_reducible refine lst (by with_unfolding_all rfl) (wp_fld0 hFd Tryz.underlying3 rfl (by with_unfolding_all exact ⟨_, rfl, rfl⟩) rfl ?_)) | (with_reducible refine lst (by with_unfolding_all rfl) (wp_fld0 hFd Tryz.underlying22 rfl (by with_unfolding_all exact ⟨_, rfl, rfl⟩) rfl ?_)) | ((with_reducible refine lst (by with_unfolding_all rfl) (wp_fst0 hFd (by with_unfolding_all exact ⟨_, _, rfl, rfl, rfl⟩) (by kernel_rfl) rfl rfl (by rw [rrL_len]; decide) (rrL_at (v := (p' : Int) + 1) (q := p' + 1) (by omega)) ?_)); intro w2 hF2 hz2))
      go_roundg (n - (p' + 1))
      case rel => exact ⟨p' + 1, by omega, box rfl, box (hj.out.trans hgo.out), hF2⟩
      case measure => have := hk.out; omega
     ·skip
      by_cases hx3 : x = 13
      ·subst hx3
       have hgo := box (jBlanks_go hx.out (by decide))
       rw [jLook_in hx.out]
       have hFd := hF.drewN kk
       go_wp2_with (first | (with_reducible refine lst (by with_unfolding_all rfl) (wp_fld0 hFd Tryz.underlying3 rfl (by with_unfolding_all exact ⟨_, rfl, rfl⟩) rfl ?_)) | (with_reducible refine lst (by with_unfolding_all rfl) (wp_fld0 hFd Tryz.underlying22 rfl (by with_unfolding_all exact ⟨_, rfl, rfl⟩) rfl ?_)) | ((with_reducible refine lst (by with_unfolding_all rfl) (wp_fst0 hFd (by with_unfolding_all exact ⟨_, _, rfl, rfl, rfl⟩) (by kernel_rfl) rfl rfl (by rw [rrL_len]; decide) (rrL_at (v := (p' : Int) + 1) (q := p' + 1) (by omega)) ?_)); intro w2 hF2 hz2))
       go_roundg (n - (p' + 1))
       case rel => exact ⟨p' + 1, by omega, box rfl, box (hj.out.trans hgo.out), hF2⟩
       case measure => have := hk.out; omega
      have hst := box (jBlanks_stop hx.out (by simp [jBlank, hx0, hx1, hx2, hx3]))
      rw [jLook_in hx.out]
      have hn0 : ((x.toNat : Int) != 32) = true := u8_ne' hx0
      have hn1 : ((x.toNat : Int) != 9) = true := u8_ne' hx1
      have hn2 : ((x.toNat : Int) != 10) = true := u8_ne' hx2
      have hn3 : ((x.toNat : Int) != 13) = true := u8_ne' hx3
      clear hx0 hx1 hx2 hx3
      go_wp2_with fail
      ((try simp only [Exit.inBlock, Exit.then]); refine bodyPost_ret (results_none rfl _ _ _) rfl ?_)
      rw [hj.out, hst.out]
      exact ⟨rfl, hF.drewN kk⟩
  ·have hx : b[p']? = none := List.getElem?_eq_none (by rw [hl.out]; omega)
   have hst := box (jBlanks_end (b := b) (p := p') (by have := hl.out; omega))
   rw [jLook_end hx]
   clear hx
   go_wp2_with fail
   ((try simp only [Exit.inBlock, Exit.then]); refine bodyPost_ret (results_none rfl _ _ _) rfl ?_)
   rw [hj.out, hst.out]
   exact ⟨rfl, hF.drewN kk⟩
set_option maxRecDepth 20000 in
set_option maxHeartbeats 3200000 in
theorem rblanks_bad (g : Nat) (A : Option Addr) (n c p f wh m B : Nat) (b : List UInt8) (w : World) (hf : f ≠ 0) (hh : w.heap[g]? = some (.cells (rrL A n c p f wh m).toArray 146 (0, 0))) (hr : Rd w (· < B) A 1 n (b.map bv)) :
  Calls Tryz.prog 71 #[.pointer (some ⟨g, 0, none⟩)] w fun e w' => e = .returned (.tuple #[]) ∧ Fr [g] w w' [.blk g 146 (rrL A n c p f wh m)] := by
 have hF0 := Fr.one hh
 have hlk := rlook_any g A n c p f wh m b w _ hh hr
 rw [jLook_bad hf] at hlk
 clear hh
 replace hf := box hf
 go_enter Tryz.func71, Tryz.ntmps71
 go_wp2_with fail
 go_loopg [] 0 (fun k wr => wr = w)
 case atStart => rfl
 case round =>
  subst hrel
  go_wp2_with fail
  refine hlk.mono ?_
  rintro e w1 ⟨rfl, kk, rfl⟩
  go_wp2_with fail
  ((try simp only [Exit.inBlock, Exit.then]); refine bodyPost_ret (results_none rfl _ _ _) rfl ?_)
  exact ⟨rfl, hF0.drewN kk⟩
set_option maxRecDepth 20000 in
set_option maxHeartbeats 3200000 in
theorem rword_bad (g : Nat) (A : Option Addr) (n c p f wh m : Nat) (s : ByteArray) (w : World) (hf : f ≠ 0) (hh : w.heap[g]? = some (.cells (rrL A n c p f wh m).toArray 146 (0, 0))) :
  Calls Tryz.prog 100 #[.pointer (some ⟨g, 0, none⟩), .string s] w fun e w' => e = .returned (.tuple #[]) ∧ Fr [g] w w' [.blk g 146 (rrL A n c p f wh m)] := by
 have hF0 := Fr.one hh
 have hf0 : ((f : Int) == 0) = false := by rw [beq_eq_false_iff_ne]; omega
 clear hh
 replace hf := box hf
 go_enter Tryz.func100, Tryz.ntmps100
 go_wp2_with fail
 go_loopg [4] 0 (fun k i wr => i = .int .i64 0 ∧ wr = w)
 case atStart => exact ⟨rfl, rfl⟩
 case round =>
  obtain ⟨rfl, rfl⟩ := hrel
  by_cases h0 : 0 < s.size
  ·go_wp2_with (first | (with_reducible refine lst (by with_unfolding_all rfl) (wp_fld0 hF0 Tryz.underlying3 rfl (by with_unfolding_all exact ⟨_, rfl, rfl⟩) rfl ?_)) | (with_reducible refine lst (by with_unfolding_all rfl) (wp_fld0 hF0 Tryz.underlying22 rfl (by with_unfolding_all exact ⟨_, rfl, rfl⟩) rfl ?_)))
   go_end0
   exact ⟨rfl, hF0⟩
  ·go_wp2_with (first | (with_reducible refine lst (by with_unfolding_all rfl) (wp_fld0 hF0 Tryz.underlying3 rfl (by with_unfolding_all exact ⟨_, rfl, rfl⟩) rfl ?_)) | (with_reducible refine lst (by with_unfolding_all rfl) (wp_fld0 hF0 Tryz.underlying22 rfl (by with_unfolding_all exact ⟨_, rfl, rfl⟩) rfl ?_)))
   go_end0
   exact ⟨rfl, hF0⟩
set_option maxRecDepth 20000 in
set_option maxHeartbeats 6400000 in
theorem rword_ok (g : Nat) (A : Option Addr) (n c p m B : Nat) (b : List UInt8) (s : ByteArray) (w : World) (hh : w.heap[g]? = some (.cells (rrL A n c p 0 0 m).toArray 146 (0, 0))) (hg : B ≤ g) (hB : B ≤ w.heap.size) (hn : n ≤ 140737488355000) (hp : p ≤ n) (hs : s.size ≤ 1000) (hr : Rd w (· < B) A 1 n (b.map bv)) :
  Calls Tryz.prog 100 #[.pointer (some ⟨g, 0, none⟩), .string s] w fun e w' => e = .returned (.tuple #[]) ∧ RSt w g A n c m (jWord b s.data.toList p) w' := by
 have hl := box hr.bytes_len
 have hsl : s.data.toList.length = s.size := str_len s
 replace hsl := box hsl
 have hF0 := Fr.one hh
 clear hh
 obtain ⟨J, hJ⟩ : ∃ J, J = jWord b s.data.toList p := ⟨_, rfl⟩
 rw [← hJ]
 replace hJ := box hJ
 go_enter Tryz.func100, Tryz.ntmps100
 go_wp2_with fail
 go_loopg [4] s.size (fun k i wr => ∃ j : Nat, j ≤ s.size ∧ Box (k = s.size - j) ∧ i = .int .i64 (j : Int) ∧ ((∃ p', p' ≤ n ∧ Box (J = jWord b (s.data.toList.drop j) p') ∧ Fr [g] w wr [.blk g 146 (rrL A n c p' 0 0 m)]) ∨ (∃ x p' m', Box (J = .error x) ∧ x.2 ≠ 0 ∧ Fr [g] w wr [.blk g 146 (rrL A n c p' x.2 x.1 m')])))
 case atStart => exact ⟨0, by omega, box rfl, rfl, .inl ⟨p, hp, box (by rw [hJ.out, List.drop_zero]), hF0⟩⟩
 case round =>
  clear hF0
  obtain ⟨j, hj, hk, rfl, hst⟩ := hrel
  have hkf : Box (gk = s.size - j) := hk
  clear hk
  rcases hst with ⟨p', hp', hJ', hF⟩ | ⟨x, p', m', hJx, hx2, hF⟩
  ·by_cases hlt : j < s.size
   ·obtain ⟨y, hy'⟩ : ∃ y, s.data.toList[j]? = some y := ⟨s.data.toList[j]'(by rw [hsl.out]; exact hlt), by simp⟩
    have hdr : Box (s.data.toList.drop j = y :: s.data.toList.drop (j + 1)) := box (by rw [List.drop_eq_getElem_cons (List.getElem?_eq_some_iff.1 hy').1, (List.getElem?_eq_some_iff.1 hy').2])
    have hy := box hy'
    have hyl := y.toNat_lt
    have hwy : wrap64 (y.toNat : Int) = (y.toNat : Int) := by unfold wrap64; omega
    clear hy'
    by_cases hpn : p' < n
    ·obtain ⟨x, hx'⟩ : ∃ x, b[p']? = some x := ⟨b[p']'(by rw [hl.out]; exact hpn), by simp⟩
     have hx := box hx'
     clear hx'
     by_cases hxy : x = y
     ·subst hxy
      have hJn : Box (J = jWord b (s.data.toList.drop (j + 1)) (p' + 1)) := box (by rw [hJ'.out, hdr.out, jWord_go hx.out])
      go_wp2_with (first | (with_reducible refine lst (by with_unfolding_all rfl) (wp_fld0 hF Tryz.underlying3 rfl (by with_unfolding_all exact ⟨_, rfl, rfl⟩) rfl ?_)) | (with_reducible refine lst (by with_unfolding_all rfl) (wp_fld0 hF Tryz.underlying22 rfl (by with_unfolding_all exact ⟨_, rfl, rfl⟩) rfl ?_)))
      refine (rwant_in hx.out (hF.blk (i := 0) rfl) (hF.rdB hg hB hr)).mono ?_
      rintro e w1 ⟨rfl, h1⟩
      have hF1 := hF.putF (i := 0) rfl h1
      simp only [List.set_cons_zero] at hF1
      go_wp2_with (first | ((with_reducible refine lst (by with_unfolding_all rfl) (wp_sidx Tryz.underlying9 (k := j) rfl hy.out (by with_unfolding_all exact ⟨_, _, _, rfl, rfl, rfl⟩) ?_))) | (with_reducible refine lst (by with_unfolding_all rfl) (wp_fld0 hF1 Tryz.underlying3 rfl (by with_unfolding_all exact ⟨_, rfl, rfl⟩) rfl ?_)) | (with_reducible refine lst (by with_unfolding_all rfl) (wp_fld0 hF1 Tryz.underlying22 rfl (by with_unfolding_all exact ⟨_, rfl, rfl⟩) rfl ?_)) | ((with_reducible refine lst (by with_unfolding_all rfl) (wp_fst0 hF1 (by with_unfolding_all exact ⟨_, _, rfl, rfl, rfl⟩) (by kernel_rfl) rfl rfl (by rw [rrL_len]; decide) (rrL_at (v := (p' : Int) + 1) (q := p' + 1) (by omega)) ?_)); intro w2 hF2 hz2))
      go_roundg (s.size - (j + 1))
      case rel => exact ⟨j + 1, by omega, box rfl, by go_num, .inl ⟨p' + 1, by omega, hJn, hF2⟩⟩
      case measure => have := hkf.out; omega
     ·have hJn : Box (J = .error (p', 10)) := box (by rw [hJ'.out, hdr.out, jWord_no hx.out hxy])
      have hne : ((x.toNat : Int) == (y.toNat : Int)) = false := u8_ne hxy
      replace hxy := box hxy
      go_wp2_with (first | (with_reducible refine lst (by with_unfolding_all rfl) (wp_fld0 hF Tryz.underlying3 rfl (by with_unfolding_all exact ⟨_, rfl, rfl⟩) rfl ?_)) | (with_reducible refine lst (by with_unfolding_all rfl) (wp_fld0 hF Tryz.underlying22 rfl (by with_unfolding_all exact ⟨_, rfl, rfl⟩) rfl ?_)))
      refine (rwant_in hx.out (hF.blk (i := 0) rfl) (hF.rdB hg hB hr)).mono ?_
      rintro e w1 ⟨rfl, h1⟩
      have hF1 := hF.putF (i := 0) rfl h1
      simp only [List.set_cons_zero] at hF1
      go_wp2_with (first | ((with_reducible refine lst (by with_unfolding_all rfl) (wp_sidx Tryz.underlying9 (k := j) rfl hy.out (by with_unfolding_all exact ⟨_, _, _, rfl, rfl, rfl⟩) ?_))) | (with_reducible refine lst (by with_unfolding_all rfl) (wp_fld0 hF1 Tryz.underlying3 rfl (by with_unfolding_all exact ⟨_, rfl, rfl⟩) rfl ?_)) | (with_reducible refine lst (by with_unfolding_all rfl) (wp_fld0 hF1 Tryz.underlying22 rfl (by with_unfolding_all exact ⟨_, rfl, rfl⟩) rfl ?_)))
      refine (rfail_ok g A n c p' m (p', 10) _ (hF1.blk (i := 0) rfl)).mono ?_
      rintro e w2 ⟨rfl, h2⟩
      have hF2 := hF1.putF (i := 0) rfl h2
      simp only [List.set_cons_zero] at hF2
      go_wp2_with fail
      go_roundg (s.size - (j + 1))
      case rel => exact ⟨j + 1, by omega, box rfl, by go_num, .inr ⟨_, _, _, hJn, Nat.succ_ne_zero _, hF2⟩⟩
      case measure => have := hkf.out; omega
    ·have hx : Box (b[p']? = none) := box (List.getElem?_eq_none (by rw [hl.out]; omega))
     have hJn : Box (J = .error (n, 9)) := box (by rw [hJ'.out, hdr.out, jWord_end hx.out, hl.out])
     have hne : ((256 : Int) == (y.toNat : Int)) = false := by rw [beq_eq_false_iff_ne]; omega
     go_wp2_with (first | (with_reducible refine lst (by with_unfolding_all rfl) (wp_fld0 hF Tryz.underlying3 rfl (by with_unfolding_all exact ⟨_, rfl, rfl⟩) rfl ?_)) | (with_reducible refine lst (by with_unfolding_all rfl) (wp_fld0 hF Tryz.underlying22 rfl (by with_unfolding_all exact ⟨_, rfl, rfl⟩) rfl ?_)))
     refine (rwant_end hx.out (hF.blk (i := 0) rfl) (hF.rdB hg hB hr)).mono ?_
     rintro e w1 ⟨rfl, h1⟩
     have hF1 := hF.putF (i := 0) rfl h1
     simp only [List.set_cons_zero] at hF1
     go_wp2_with (first | ((with_reducible refine lst (by with_unfolding_all rfl) (wp_sidx Tryz.underlying9 (k := j) rfl hy.out (by with_unfolding_all exact ⟨_, _, _, rfl, rfl, rfl⟩) ?_))) | (with_reducible refine lst (by with_unfolding_all rfl) (wp_fld0 hF1 Tryz.underlying3 rfl (by with_unfolding_all exact ⟨_, rfl, rfl⟩) rfl ?_)) | (with_reducible refine lst (by with_unfolding_all rfl) (wp_fld0 hF1 Tryz.underlying22 rfl (by with_unfolding_all exact ⟨_, rfl, rfl⟩) rfl ?_)))
     refine (rfail_bad g A n c p' 9 n m _ _ _ (by decide) (hF1.blk (i := 0) rfl)).mono ?_
     rintro e w2 ⟨rfl, h2⟩
     have hF2 := hF1.putF (i := 0) rfl h2
     simp only [List.set_cons_zero] at hF2
     go_wp2_with fail
     go_roundg (s.size - (j + 1))
     case rel => exact ⟨j + 1, by omega, box rfl, by go_num, .inr ⟨_, _, _, hJn, Nat.succ_ne_zero _, hF2⟩⟩
     case measure => have := hkf.out; omega
   ·have hJe : Box (J = .ok p') := box (by rw [hJ'.out, List.drop_of_length_le (by rw [hsl.out]; omega)]; rfl)
    go_wp2_with (first | (with_reducible refine lst (by with_unfolding_all rfl) (wp_fld0 hF Tryz.underlying3 rfl (by with_unfolding_all exact ⟨_, rfl, rfl⟩) rfl ?_)) | (with_reducible refine lst (by with_unfolding_all rfl) (wp_fld0 hF Tryz.underlying22 rfl (by with_unfolding_all exact ⟨_, rfl, rfl⟩) rfl ?_)))
    go_end0
    refine ⟨rfl, ?_⟩
    rw [hJe.out]
    exact hF
  ·have hf0 : ((x.2 : Int) == 0) = false := by rw [beq_eq_false_iff_ne]; omega
   replace hx2 := box hx2
   by_cases hlt : j < s.size
   ·go_wp2_with (first | (with_reducible refine lst (by with_unfolding_all rfl) (wp_fld0 hF Tryz.underlying3 rfl (by with_unfolding_all exact ⟨_, rfl, rfl⟩) rfl ?_)) | (with_reducible refine lst (by with_unfolding_all rfl) (wp_fld0 hF Tryz.underlying22 rfl (by with_unfolding_all exact ⟨_, rfl, rfl⟩) rfl ?_)))
    go_end0
    refine ⟨rfl, ?_⟩
    rw [hJx.out]
    exact ⟨_, _, hF⟩
   ·go_wp2_with (first | (with_reducible refine lst (by with_unfolding_all rfl) (wp_fld0 hF Tryz.underlying3 rfl (by with_unfolding_all exact ⟨_, rfl, rfl⟩) rfl ?_)) | (with_reducible refine lst (by with_unfolding_all rfl) (wp_fld0 hF Tryz.underlying22 rfl (by with_unfolding_all exact ⟨_, rfl, rfl⟩) rfl ?_)))
    go_end0
    refine ⟨rfl, ?_⟩
    rw [hJx.out]
    exact ⟨_, _, hF⟩
end Go.Proofs.YtlhicfpmlncomaaGreatDoor
