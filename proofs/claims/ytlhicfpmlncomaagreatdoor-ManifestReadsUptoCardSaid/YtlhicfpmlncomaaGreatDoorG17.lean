/-
 Layer 6: the document's Sign.
 Layer 6: the document's reader: an escape.
 Layer 6: the document's Size and Valid, walked.
 Layer 6: the document's Size, walked.
-/
import Derived.Test.YtlhicfpmlncomaaGreatDoorG16
import Derived.Test.YtlhicfpmlncomaaGreatDoorG02
import Derived.Test.YtlhicfpmlncomaaGreatDoorG03
import Derived.Test.YtlhicfpmlncomaaGreatDoorG07
import Derived.Lib.ValidLaws
namespace Go.Proofs.YtlhicfpmlncomaaGreatDoor
open Go.RowKit
set_option linter.unusedSimpArgs false
section
variable {P : Program} {o : Oper} {a : Act} {K : Act → World → Prop} {Q : Exit → Act → World → Prop} {X : List Nat} {w0 w : World} {es : List Ent} {sl e : TypeId}
theorem wp_fb2 (T : SlT P sl e 1 1 (.int .u8 0)) (hF : Fr X w0 w es) {p0 p1 : Operand} (ho : o.op = .buildSlice sl 2 #[(0, p0), (1, p1)]) {z0 z1 : Int} {c0 c1 : UInt8} (h0 : z0 = (c0.toNat : Int)) (h1 : z1 = (c1.toNat : Int)) (v0 : a.eval p0 = .int .u8 z0) (v1 : a.eval p1 = .int .u8 z1)
  (k : ∀ w' g, Fr X w0 w' (Ent.bytes w0.heap.size e (.slice (some ⟨g, 0, none⟩) 2 2) [c0, c1] :: es) → w'.heap.size = w.heap.size + 1 → K (a.put o.dst (.slice (some ⟨g, 0, none⟩) 2 2)) w') : o.wp P a w K Q := by
 subst h0 h1
 exact wp_fbsl T hF ho (vs := [bv c0, bv c1]) (by simp [v0, v1, parts, bv]) rfl (by decide) (by simp [bv, Value.cells]) k
theorem wp_fb3 (T : SlT P sl e 1 1 (.int .u8 0)) (hF : Fr X w0 w es) {p0 p1 p2 : Operand} (ho : o.op = .buildSlice sl 3 #[(0, p0), (1, p1), (2, p2)]) {z0 z1 z2 : Int} {c0 c1 c2 : UInt8} (h0 : z0 = (c0.toNat : Int)) (h1 : z1 = (c1.toNat : Int)) (h2 : z2 = (c2.toNat : Int)) (v0 : a.eval p0 = .int .u8 z0) (v1 : a.eval p1 = .int .u8 z1) (v2 : a.eval p2 = .int .u8 z2)
  (k : ∀ w' g, Fr X w0 w' (Ent.bytes w0.heap.size e (.slice (some ⟨g, 0, none⟩) 3 3) [c0, c1, c2] :: es) → w'.heap.size = w.heap.size + 1 → K (a.put o.dst (.slice (some ⟨g, 0, none⟩) 3 3)) w') : o.wp P a w K Q := by
 subst h0 h1 h2
 exact wp_fbsl T hF ho (vs := [bv c0, bv c1, bv c2]) (by simp [v0, v1, v2, parts, bv]) rfl (by decide) (by simp [bv, Value.cells]) k
theorem wp_fb4 (T : SlT P sl e 1 1 (.int .u8 0)) (hF : Fr X w0 w es) {p0 p1 p2 p3 : Operand} (ho : o.op = .buildSlice sl 4 #[(0, p0), (1, p1), (2, p2), (3, p3)]) {z0 z1 z2 z3 : Int} {c0 c1 c2 c3 : UInt8} (h0 : z0 = (c0.toNat : Int)) (h1 : z1 = (c1.toNat : Int)) (h2 : z2 = (c2.toNat : Int)) (h3 : z3 = (c3.toNat : Int)) (v0 : a.eval p0 = .int .u8 z0) (v1 : a.eval p1 = .int .u8 z1) (v2 : a.eval p2 = .int .u8 z2) (v3 : a.eval p3 = .int .u8 z3)
  (k : ∀ w' g, Fr X w0 w' (Ent.bytes w0.heap.size e (.slice (some ⟨g, 0, none⟩) 4 4) [c0, c1, c2, c3] :: es) → w'.heap.size = w.heap.size + 1 → K (a.put o.dst (.slice (some ⟨g, 0, none⟩) 4 4)) w') : o.wp P a w K Q := by
 subst h0 h1 h2 h3
 exact wp_fbsl T hF ho (vs := [bv c0, bv c1, bv c2, bv c3]) (by simp [v0, v1, v2, v3, parts, bv]) rfl (by decide) (by simp [bv, Value.cells]) k
end
set_option maxRecDepth 20000 in
set_option maxHeartbeats 3200000 in
theorem rsign_any (u : Nat) (w : World) (hu : u < 1114112) :
  Calls Tryz.prog 137 #[.int .i64 (u : Int)] w fun e w' => ∃ v, e = .returned v ∧ Fr [] w w' [Ent.bytes w.heap.size 5 v (jSign u)] := by
 have hF0 := Fr.nil w
 by_cases h1 : u < 128
 ·have d1 : decide ((u : Int) < 128) = true := decide_eq_true (by omega)
  obtain ⟨c0, hc0⟩ : ∃ c, c = UInt8.ofNat (u) := ⟨_, rfl⟩
  have hz0 : Box ((u : Int) = (c0.toNat : Int)) := box (by rw [hc0, UInt8.toNat_ofNat']; omega)
  have hjs : Box (jSign u = [c0]) := box (by unfold jSign; rw [if_pos (by omega)]; rw [hc0])
  replace hc0 := box hc0
  go_enter Tryz.func137, Tryz.ntmps137
  go_wp2_with (first | ((with_reducible refine lst (by with_unfolding_all rfl) (wp_fb1 T_u8 hF0 rfl hz0.out (by with_unfolding_all rfl) ?_)); intro w2 g2 hF2 hz2))
  go_ret
  exact ⟨_, rfl, by rw [hjs.out]; exact hF2⟩
 have d1 : decide ((u : Int) < 128) = false := decide_eq_false (by omega)
 by_cases h2 : u < 2048
 ·have d2 : decide ((u : Int) < 2048) = true := decide_eq_true (by omega)
  obtain ⟨c0, hc0⟩ : ∃ c, c = UInt8.ofNat (192 + u / 64) := ⟨_, rfl⟩
  have hz0 : Box (192 + (u : Int) / 64 = (c0.toNat : Int)) := box (by rw [hc0, UInt8.toNat_ofNat']; omega)
  obtain ⟨c1, hc1⟩ : ∃ c, c = UInt8.ofNat (128 + u % 64) := ⟨_, rfl⟩
  have hz1 : Box (128 + (u : Int) % 64 = (c1.toNat : Int)) := box (by rw [hc1, UInt8.toNat_ofNat']; omega)
  have hjs : Box (jSign u = [c0, c1]) := box (by unfold jSign; rw [if_neg (by omega), if_pos (by omega)]; rw [hc0, hc1])
  replace hc0 := box hc0
  replace hc1 := box hc1
  go_enter Tryz.func137, Tryz.ntmps137
  go_wp2_with (first | ((with_reducible refine lst (by with_unfolding_all rfl) (wp_fb2 T_u8 hF0 rfl hz0.out hz1.out (by with_unfolding_all rfl) (by with_unfolding_all rfl) ?_)); intro w2 g2 hF2 hz2))
  go_ret
  exact ⟨_, rfl, by rw [hjs.out]; exact hF2⟩
 have d2 : decide ((u : Int) < 2048) = false := decide_eq_false (by omega)
 by_cases h3 : u < 65536
 ·have d3 : decide ((u : Int) < 65536) = true := decide_eq_true (by omega)
  obtain ⟨c0, hc0⟩ : ∃ c, c = UInt8.ofNat (224 + u / 4096) := ⟨_, rfl⟩
  have hz0 : Box (224 + (u : Int) / 4096 = (c0.toNat : Int)) := box (by rw [hc0, UInt8.toNat_ofNat']; omega)
  obtain ⟨c1, hc1⟩ : ∃ c, c = UInt8.ofNat (128 + u / 64 % 64) := ⟨_, rfl⟩
  have hz1 : Box (128 + (u : Int) / 64 % 64 = (c1.toNat : Int)) := box (by rw [hc1, UInt8.toNat_ofNat']; omega)
  obtain ⟨c2, hc2⟩ : ∃ c, c = UInt8.ofNat (128 + u % 64) := ⟨_, rfl⟩
  have hz2 : Box (128 + (u : Int) % 64 = (c2.toNat : Int)) := box (by rw [hc2, UInt8.toNat_ofNat']; omega)
  have hjs : Box (jSign u = [c0, c1, c2]) := box (by unfold jSign; rw [if_neg (by omega), if_neg (by omega), if_pos (by omega)]; rw [hc0, hc1, hc2])
  replace hc0 := box hc0
  replace hc1 := box hc1
  replace hc2 := box hc2
  go_enter Tryz.func137, Tryz.ntmps137
  go_wp2_with (first | ((with_reducible refine lst (by with_unfolding_all rfl) (wp_fb3 T_u8 hF0 rfl hz0.out hz1.out hz2.out (by with_unfolding_all rfl) (by with_unfolding_all rfl) (by with_unfolding_all rfl) ?_)); intro w2 g2 hF2 hz2))
  go_ret
  exact ⟨_, rfl, by rw [hjs.out]; exact hF2⟩
 have d3 : decide ((u : Int) < 65536) = false := decide_eq_false (by omega)
 obtain ⟨c0, hc0⟩ : ∃ c, c = UInt8.ofNat (240 + u / 262144) := ⟨_, rfl⟩
 have hz0 : Box (240 + (u : Int) / 262144 = (c0.toNat : Int)) := box (by rw [hc0, UInt8.toNat_ofNat']; omega)
 obtain ⟨c1, hc1⟩ : ∃ c, c = UInt8.ofNat (128 + u / 4096 % 64) := ⟨_, rfl⟩
 have hz1 : Box (128 + (u : Int) / 4096 % 64 = (c1.toNat : Int)) := box (by rw [hc1, UInt8.toNat_ofNat']; omega)
 obtain ⟨c2, hc2⟩ : ∃ c, c = UInt8.ofNat (128 + u / 64 % 64) := ⟨_, rfl⟩
 have hz2 : Box (128 + (u : Int) / 64 % 64 = (c2.toNat : Int)) := box (by rw [hc2, UInt8.toNat_ofNat']; omega)
 obtain ⟨c3, hc3⟩ : ∃ c, c = UInt8.ofNat (128 + u % 64) := ⟨_, rfl⟩
 have hz3 : Box (128 + (u : Int) % 64 = (c3.toNat : Int)) := box (by rw [hc3, UInt8.toNat_ofNat']; omega)
 have hjs : Box (jSign u = [c0, c1, c2, c3]) := box (by unfold jSign; rw [if_neg (by omega), if_neg (by omega), if_neg (by omega)]; rw [hc0, hc1, hc2, hc3])
 replace hc0 := box hc0
 replace hc1 := box hc1
 replace hc2 := box hc2
 replace hc3 := box hc3
 go_enter Tryz.func137, Tryz.ntmps137
 go_wp2_with (first | ((with_reducible refine lst (by with_unfolding_all rfl) (wp_fb4 T_u8 hF0 rfl hz0.out hz1.out hz2.out hz3.out (by with_unfolding_all rfl) (by with_unfolding_all rfl) (by with_unfolding_all rfl) (by with_unfolding_all rfl) ?_)); intro w2 g2 hF2 hz2))
 go_ret
 exact ⟨_, rfl, by rw [hjs.out]; exact hF2⟩
end Go.Proofs.YtlhicfpmlncomaaGreatDoor

namespace Go.Proofs.YtlhicfpmlncomaaGreatDoor
open Go.RowKit
set_option linter.unusedSimpArgs false
theorem T_ints : SlT Tryz.prog 57 3 1 8 (.int .i64 0) := ⟨Tryz.underlying57, by kernel_rfl, rfl, by decide⟩
theorem jUnit_err {b : List UInt8} {s : Nat} : ∀ {k a p : Nat} {x : Nat × Nat}, jUnit b s k a p = .error x → x.2 ≠ 0
 | 0, a, p, x, h => by rw [jUnit] at h; cases h
 | k + 1, a, p, x, h => by
  rw [jUnit] at h
  cases hx : b[p]? with
  | none => rw [hx] at h; cases h; exact Nat.succ_ne_zero _
  | some c =>
   rw [hx] at h
   simp only [] at h
   cases hc : jHex c with
   | none => rw [hc] at h; cases h; exact Nat.succ_ne_zero _
   | some d => rw [hc] at h; exact jUnit_err h
theorem jEscape_short {b : List UInt8} {p i : Nat} {K M x : UInt8} (hx : b[p + 1]? = some x) (hK : ([34, 92, 47, 98, 102, 110, 114, 116] : List UInt8)[i]? = some K) (hM : ([34, 92, 47, 8, 12, 10, 13, 9] : List UInt8)[i]? = some M) (h : x = K) : jEscape b p = .ok ([M], p + 2) := by
 subst h
 unfold jEscape
 rw [hx]
 match i, hK, hM with
 | 0, hK, hM => obtain rfl := Option.some.inj hK; obtain rfl := Option.some.inj hM; rfl
 | 1, hK, hM => obtain rfl := Option.some.inj hK; obtain rfl := Option.some.inj hM; rfl
 | 2, hK, hM => obtain rfl := Option.some.inj hK; obtain rfl := Option.some.inj hM; rfl
 | 3, hK, hM => obtain rfl := Option.some.inj hK; obtain rfl := Option.some.inj hM; rfl
 | 4, hK, hM => obtain rfl := Option.some.inj hK; obtain rfl := Option.some.inj hM; rfl
 | 5, hK, hM => obtain rfl := Option.some.inj hK; obtain rfl := Option.some.inj hM; rfl
 | 6, hK, hM => obtain rfl := Option.some.inj hK; obtain rfl := Option.some.inj hM; rfl
 | 7, hK, hM => obtain rfl := Option.some.inj hK; obtain rfl := Option.some.inj hM; rfl
 | k + 8, hK, _ => simp at hK
theorem jEscape_no {b : List UInt8} {p : Nat} {x : UInt8} (hx : b[p + 1]? = some x) (hno : ∀ (j : Nat) (K : UInt8), j < 8 → ([34, 92, 47, 98, 102, 110, 114, 116] : List UInt8)[j]? = some K → x ≠ K) (h : x ≠ 117) : jEscape b p = .error (p, 62) := by
 have h0 := hno 0 34 (by omega) rfl
 have h1 := hno 1 92 (by omega) rfl
 have h2 := hno 2 47 (by omega) rfl
 have h3 := hno 3 98 (by omega) rfl
 have h4 := hno 4 102 (by omega) rfl
 have h5 := hno 5 110 (by omega) rfl
 have h6 := hno 6 114 (by omega) rfl
 have h7 := hno 7 116 (by omega) rfl
 unfold jEscape
 rw [hx]
 simp [h0, h1, h2, h3, h4, h5, h6, h7, h]
/-- What an escape tells. -/
def REsc (w : World) (g : Nat) (A : Option Addr) (n c m : Nat) (J : JR (List UInt8 × Nat)) (e : Ending) (w' : World) : Prop :=
 match J with
 | .ok r => ∃ v bb, e = .returned v ∧ Fr [g] w w' [Ent.bytes bb 5 v r.1, .blk g 146 (rrL A n c r.2 0 0 m)]
 | .error x => e = .returned (.slice none 0 0) ∧ ∃ p' m', Fr [g] w w' [.blk g 146 (rrL A n c p' x.2 x.1 m')]
set_option maxRecDepth 20000 in
set_option maxHeartbeats 3200000 in
theorem rescape_end (g : Nat) (A : Option Addr) (n c p m B : Nat) (b : List UInt8) (w : World) (hx : b[p + 1]? = none) (hh : w.heap[g]? = some (.cells (rrL A n c p 0 0 m).toArray 146 (0, 0))) (hg : B ≤ g) (hB : B ≤ w.heap.size) (hn : n ≤ 65536) (hp : p ≤ n) (hr : Rd w (· < B) A 1 n (b.map bv)) :
  Calls Tryz.prog 123 #[.pointer (some ⟨g, 0, none⟩)] w (REsc w g A n c m (jEscape b p)) := by
 have hje : jEscape b p = .error (b.length, 9) := by unfold jEscape; rw [hx]
 have hl := box hr.bytes_len
 have hF0 := Fr.one hh
 clear hh
 replace hje := box hje
 go_enter Tryz.func123, Tryz.ntmps123
 go_wp2_with (first | (with_reducible refine lst (by with_unfolding_all rfl) (wp_fld0 hF0 Tryz.underlying3 rfl (by with_unfolding_all exact ⟨_, rfl, rfl⟩) rfl ?_)) | (with_reducible refine lst (by with_unfolding_all rfl) (wp_fld0 hF0 Tryz.underlying22 rfl (by with_unfolding_all exact ⟨_, rfl, rfl⟩) rfl ?_)) | ((with_reducible refine lst (by with_unfolding_all rfl) (wp_fst0 hF0 (by with_unfolding_all exact ⟨_, _, rfl, rfl, rfl⟩) (by kernel_rfl) rfl rfl (by rw [rrL_len]; decide) (rrL_at (v := (p : Int) + 1) (q := p + 1) (by omega)) ?_)); intro w1 hF1 hz1))
 refine (rwant_end hx (hF1.blk (i := 0) rfl) (hF1.rdB hg hB hr)).mono ?_
 rintro e w2 ⟨rfl, h2⟩
 have hF2 := hF1.putF (i := 0) rfl h2
 simp only [List.set_cons_zero] at hF2
 go_wp2_with (first | (with_reducible refine lst (by with_unfolding_all rfl) (wp_fld0 hF2 Tryz.underlying3 rfl (by with_unfolding_all exact ⟨_, rfl, rfl⟩) rfl ?_)) | (with_reducible refine lst (by with_unfolding_all rfl) (wp_fld0 hF2 Tryz.underlying22 rfl (by with_unfolding_all exact ⟨_, rfl, rfl⟩) rfl ?_)))
 go_ret
 unfold REsc
 rw [hje.out, hl.out]
 exact ⟨rfl, _, _, hF2⟩
set_option maxRecDepth 20000 in
set_option maxHeartbeats 12800000 in
theorem rescape_in (g : Nat) (A : Option Addr) (n c p m B : Nat) (b : List UInt8) (x : UInt8) (w : World) (hx' : b[p + 1]? = some x) (hh : w.heap[g]? = some (.cells (rrL A n c p 0 0 m).toArray 146 (0, 0))) (hg : B ≤ g) (hB : B ≤ w.heap.size) (hn : n ≤ 65536) (hr : Rd w (· < B) A 1 n (b.map bv)) :
  Calls Tryz.prog 123 #[.pointer (some ⟨g, 0, none⟩)] w (REsc w g A n c m (jEscape b p)) := by
 have hl := box hr.bytes_len
 have hpl := (List.getElem?_eq_some_iff.1 hx').1
 rw [hl.out] at hpl
 have hF0 := Fr.one hh
 have hx := box hx'
 have hwa := box (fun w' (hF : Fr [g] w w' [.blk g 146 (rrL A n c (p + 1) 0 0 m)]) => rwant_in hx' (hF.blk (i := 0) rfl) (hF.rdB hg hB hr))
 have hxl := x.toNat_lt
 clear hh hx'
 go_enter Tryz.func123, Tryz.ntmps123
 go_wp2_with (first | (with_reducible refine lst (by with_unfolding_all rfl) (wp_fld0 hF0 Tryz.underlying3 rfl (by with_unfolding_all exact ⟨_, rfl, rfl⟩) rfl ?_)) | (with_reducible refine lst (by with_unfolding_all rfl) (wp_fld0 hF0 Tryz.underlying22 rfl (by with_unfolding_all exact ⟨_, rfl, rfl⟩) rfl ?_)) | ((with_reducible refine lst (by with_unfolding_all rfl) (wp_fst0 hF0 (by with_unfolding_all exact ⟨_, _, rfl, rfl, rfl⟩) (by kernel_rfl) rfl rfl (by rw [rrL_len]; decide) (rrL_at (v := (p : Int) + 1) (q := p + 1) (by omega)) ?_)); intro w1 hF1 hz1))
 refine (hwa.out _ hF1).mono ?_
 rintro e w2 ⟨rfl, h2⟩
 have hF2 := hF1.putF (i := 0) rfl h2
 simp only [List.set_cons_zero] at hF2
 clear hwa
 go_wp2_with (first | (with_reducible refine lst (by with_unfolding_all rfl) (wp_fld0 hF2 Tryz.underlying3 rfl (by with_unfolding_all exact ⟨_, rfl, rfl⟩) rfl ?_)) | (with_reducible refine lst (by with_unfolding_all rfl) (wp_fld0 hF2 Tryz.underlying22 rfl (by with_unfolding_all exact ⟨_, rfl, rfl⟩) rfl ?_)) | ((with_reducible refine lst (by with_unfolding_all rfl) (wp_fst0 hF2 (by with_unfolding_all exact ⟨_, _, rfl, rfl, rfl⟩) (by kernel_rfl) rfl rfl (by rw [rrL_len]; decide) (rrL_at (v := (p + 1 : Int) + 1) (q := p + 2) (by omega)) ?_)); intro w3 hF3 hz3))
 clear hF0 hF1 hF2
 go_loopg [7] 8 (fun gk iv wr => ∃ i : Nat, i ≤ 8 ∧ Box (gk = 8 - i) ∧ iv = .int .i64 (i : Int) ∧ Box (∀ (j : Nat) (K : UInt8), j < i → ([34, 92, 47, 98, 102, 110, 114, 116] : List UInt8)[j]? = some K → x ≠ K) ∧ Fr [g] w wr [.blk g 146 (rrL A n c (p + 2) 0 0 m)])
 case atStart => exact ⟨0, by omega, box rfl, rfl, box (fun j K h => absurd h (by omega)), hF3⟩
 case round =>
  obtain ⟨i, hi, hk, rfl, hno, hF⟩ := hrel
  have hkf : Box (gk = 8 - i) := hk
  clear hk hF3
  by_cases hlt : i < 8
  ·obtain ⟨K, hK⟩ : ∃ K, ([34, 92, 47, 98, 102, 110, 114, 116] : List UInt8)[i]? = some K := ⟨([34, 92, 47, 98, 102, 110, 114, 116] : List UInt8)[i]'(by simpa using hlt), by simp⟩
   obtain ⟨M, hM⟩ : ∃ K, ([34, 92, 47, 8, 12, 10, 13, 9] : List UInt8)[i]? = some K := ⟨([34, 92, 47, 8, 12, 10, 13, 9] : List UInt8)[i]'(by simpa using hlt), by simp⟩
   have hsK : Box ((ByteArray.mk #[34, 92, 47, 98, 102, 110, 114, 116]).data.toList[i]? = some K) := box hK
   have hsM : Box ((ByteArray.mk #[34, 92, 47, 8, 12, 10, 13, 9]).data.toList[i]? = some M) := box hM
   by_cases hxK : x = K
   ·have hq : ((x.toNat : Int) == wrap64 (K.toNat : Int)) = true := by rw [hxK, (show wrap64 (K.toNat : Int) = (K.toNat : Int) by have := K.toNat_lt; unfold wrap64; omega)]; simp
    have hJ := box (jEscape_short hx.out hK hM hxK)
    clear hK hM
    replace hxK := box hxK
    go_wp2_with (first | ((with_reducible refine lst (by with_unfolding_all rfl) (wp_sidx Tryz.underlying9 (k := i) rfl hsK.out (by with_unfolding_all exact ⟨_, _, _, rfl, rfl, rfl⟩) ?_))) | ((with_reducible refine lst (by with_unfolding_all rfl) (wp_sidx Tryz.underlying9 (k := i) rfl hsM.out (by with_unfolding_all exact ⟨_, _, _, rfl, rfl, rfl⟩) ?_))) | ((with_reducible refine lst (by with_unfolding_all rfl) (wp_fbsl T_u8 hF (vs := [bv M]) (by with_unfolding_all rfl) (by with_unfolding_all rfl) (by with_unfolding_all rfl) (by decide) (by simp [bv, Value.cells]) ?_)); intro w5 g5 hF5 hz5; have hr5 : Rd w5 (· < w5.heap.size) (some ⟨g5, 0, none⟩) 1 1 ([M].map bv) := hF5.rdOwn0; replace hF5 : Fr _ _ w5 (Ent.bytes _ 5 (.slice (some ⟨g5, 0, none⟩) 1 1) [M] :: _) := hF5))
    go_ret
    unfold REsc
    rw [hJ.out]
    exact ⟨_, _, rfl, hF5⟩
   ·have hq : ((x.toNat : Int) == wrap64 (K.toNat : Int)) = false := by
     rw [(show wrap64 (K.toNat : Int) = (K.toNat : Int) by have := K.toNat_lt; unfold wrap64; omega), beq_eq_false_iff_ne]; intro h; exact hxK (UInt8.toNat_inj.1 (by omega))
    have hno' : Box (∀ (j : Nat) (K : UInt8), j < i + 1 → ([34, 92, 47, 98, 102, 110, 114, 116] : List UInt8)[j]? = some K → x ≠ K) := box (by
     intro j K' hj hK'
     rcases Nat.lt_succ_iff_lt_or_eq.1 hj with h | h
     ·exact hno.out j K' h hK'
     ·rw [h, hK] at hK'; rw [← Option.some.inj hK']; exact hxK)
    clear hK hM
    replace hxK := box hxK
    go_wp2_with (first | ((with_reducible refine lst (by with_unfolding_all rfl) (wp_sidx Tryz.underlying9 (k := i) rfl hsK.out (by with_unfolding_all exact ⟨_, _, _, rfl, rfl, rfl⟩) ?_))))
    go_roundg (8 - (i + 1))
    case rel => exact ⟨i + 1, by omega, box rfl, by go_num, hno', hF⟩
    case measure => have := hkf.out; omega
  ·obtain rfl : 8 = i := by omega
   by_cases h117 : x = 117
   ·subst h117
    have hj := jEscape_u hx.out
    have hdg := box (rdigits_ok g A n c (p + 2) m p B b wr (hF.blk (i := 0) rfl) hg (Nat.le_trans hB hF.size) hn (by omega) (hF.rdB hg hB hr))
    cases hU : jUnit b p 4 0 (p + 2) with
    | error z =>
     have hz2 := jUnit_err hU
     rw [hU] at hj hdg
     replace hj := box hj
     have hz1 : ((z.2 : Int) != 0) = true := by rw [bne_iff_ne]; omega
     replace hz2 := box hz2
     clear hU
     go_wp2_with fail
     refine hdg.out.mono ?_
     rintro e w4 ⟨zz, rfl, p4, m4, h4⟩
     have hF4 := hF.putF (i := 0) rfl h4
     simp only [List.set_cons_zero] at hF4
     go_wp2_with (first | (with_reducible refine lst (by with_unfolding_all rfl) (wp_fld0 hF4 Tryz.underlying3 rfl (by with_unfolding_all exact ⟨_, rfl, rfl⟩) rfl ?_)) | (with_reducible refine lst (by with_unfolding_all rfl) (wp_fld0 hF4 Tryz.underlying22 rfl (by with_unfolding_all exact ⟨_, rfl, rfl⟩) rfl ?_)))
     go_ret
     unfold REsc
     rw [hj.out]
     exact ⟨rfl, _, _, hF4⟩
    | ok N =>
     have hN1 := jUnit_lt (N := 0) (j := 0) (by decide) hU
     have hN65 : N < 65536 := hN1.1
     rw [hU] at hj hdg
     simp only [] at hj
     replace hj := box hj
     clear hU hN1
     go_wp2_with fail
     refine hdg.out.mono ?_
     rintro e w4 ⟨zz, rfl, rfl, hp6', h4⟩
     have hF5 := hF.putF (i := 0) rfl h4
     simp only [List.set_cons_zero] at hF5
     have hp6 : p + 6 ≤ n := by omega
     clear hp6' hdg
     by_cases h1 : N < 55296
     ·have hJ : Box (jEscape b p = .ok (jSign N, p + 6)) := box (by rw [hj.out, if_neg (by omega), if_neg (by omega)])
      have hd1 : decide ((N : Int) < 55296) = true := decide_eq_true (by omega)
      have hsg := box (fun w => rsign_any N w (by omega))
      clear hN65
      go_wp2_with (first | (with_reducible refine lst (by with_unfolding_all rfl) (wp_fld0 hF5 Tryz.underlying3 rfl (by with_unfolding_all exact ⟨_, rfl, rfl⟩) rfl ?_)) | (with_reducible refine lst (by with_unfolding_all rfl) (wp_fld0 hF5 Tryz.underlying22 rfl (by with_unfolding_all exact ⟨_, rfl, rfl⟩) rfl ?_)))
      refine (hsg.out _).mono ?_
      rintro e w6 ⟨v6, rfl, hS⟩
      have hF6 := hF5.join hS
      go_wp2_with fail
      go_ret
      unfold REsc
      rw [hJ.out]
      exact ⟨_, _, rfl, hF6⟩
     by_cases h2 : 57344 ≤ N
     ·have hJ : Box (jEscape b p = .ok (jSign N, p + 6)) := box (by rw [hj.out, if_neg (by omega), if_neg (by omega)])
      have hd1 : decide ((N : Int) < 55296) = false := decide_eq_false (by omega)
      have hd2 : decide ((57344 : Int) ≤ (N : Int)) = true := decide_eq_true (by omega)
      have hsg := box (fun w => rsign_any N w (by omega))
      clear hN65
      go_wp2_with (first | (with_reducible refine lst (by with_unfolding_all rfl) (wp_fld0 hF5 Tryz.underlying3 rfl (by with_unfolding_all exact ⟨_, rfl, rfl⟩) rfl ?_)) | (with_reducible refine lst (by with_unfolding_all rfl) (wp_fld0 hF5 Tryz.underlying22 rfl (by with_unfolding_all exact ⟨_, rfl, rfl⟩) rfl ?_)))
      refine (hsg.out _).mono ?_
      rintro e w6 ⟨v6, rfl, hS⟩
      have hF6 := hF5.join hS
      go_wp2_with fail
      go_ret
      unfold REsc
      rw [hJ.out]
      exact ⟨_, _, rfl, hF6⟩
     by_cases h3 : 56320 ≤ N
     ·have hJ : Box (jEscape b p = .error (p, 62)) := box (by rw [hj.out, if_neg (by omega), if_pos (by omega)])
      have hd1 : decide ((N : Int) < 55296) = false := decide_eq_false (by omega)
      have hd2 : decide ((57344 : Int) ≤ (N : Int)) = false := decide_eq_false (by omega)
      have hd3 : decide ((56320 : Int) ≤ (N : Int)) = true := decide_eq_true (by omega)
      clear hN65
      go_wp2_with (first | (with_reducible refine lst (by with_unfolding_all rfl) (wp_fld0 hF5 Tryz.underlying3 rfl (by with_unfolding_all exact ⟨_, rfl, rfl⟩) rfl ?_)) | (with_reducible refine lst (by with_unfolding_all rfl) (wp_fld0 hF5 Tryz.underlying22 rfl (by with_unfolding_all exact ⟨_, rfl, rfl⟩) rfl ?_)))
      refine (rfail_ok g A n c (p + 6) m (p, 62) _ (hF5.blk (i := 0) rfl)).mono ?_
      rintro e w6 ⟨rfl, h6⟩
      have hF6 := hF5.putF (i := 0) rfl h6
      simp only [List.set_cons_zero] at hF6
      go_wp2_with fail
      go_ret
      unfold REsc
      rw [hJ.out]
      exact ⟨rfl, _, _, hF6⟩
     have hJ0 : Box (jEscape b p = jEsc0 b p N) := box (by rw [hj.out, if_pos (by omega)])
     have hd1 : decide ((N : Int) < 55296) = false := decide_eq_false (by omega)
     have hd2 : decide ((57344 : Int) ≤ (N : Int)) = false := decide_eq_false (by omega)
     have hd3 : decide ((56320 : Int) ≤ (N : Int)) = false := decide_eq_false (by omega)
     clear hj
     replace h1 := box h1
     replace h3 := box h3
     go_wp2_with (first | (with_reducible refine lst (by with_unfolding_all rfl) (wp_fld0 hF5 Tryz.underlying3 rfl (by with_unfolding_all exact ⟨_, rfl, rfl⟩) rfl ?_)) | (with_reducible refine lst (by with_unfolding_all rfl) (wp_fld0 hF5 Tryz.underlying22 rfl (by with_unfolding_all exact ⟨_, rfl, rfl⟩) rfl ?_)) | ((with_reducible refine lst (by with_unfolding_all rfl) (wp_fbsl T_ints hF5 (vs := [.int .i64 92, .int .i64 117]) (by with_unfolding_all rfl) (by with_unfolding_all rfl) (by with_unfolding_all rfl) (by decide) (by simp [Value.cells]) ?_)); intro w6 g6 hF6 hz6))
     clear hF5 hd1 hd2 hd3
     replace h2 := box h2
     go_loopg [10] 2 (fun gk iv wr => ∃ j : Nat, j ≤ 2 ∧ Box (gk = 2 - j) ∧ iv = .int .i64 (j : Int) ∧ p + 6 + j ≤ n ∧ Box (jEscape b p = jEscJ b p N j) ∧ Fr [g] w wr [.own w.heap.size 3 1 (.slice (some ⟨g6, 0, none⟩) 2 2) 2 [.int .i64 92, .int .i64 117], .blk g 146 (rrL A n c (p + 6 + j) 0 0 m)])
     case atStart => exact ⟨0, by omega, box rfl, rfl, hp6, hJ0, hF6⟩
     case round =>
      obtain ⟨j, hj2, hkj, rfl, hpn, hJj, hF⟩ := hrel
      have hkg : Box (gk = 2 - j) := hkj
      clear hkj hF6
      by_cases hjlt : j < 2
      ·obtain ⟨K, hK⟩ : ∃ K : UInt8, ([92, 117] : List UInt8)[j]? = some K := ⟨[92, 117][j]'(by simpa using hjlt), by simp⟩
       have hKi : Box (([.int .i64 92, .int .i64 117] : List Value)[j]? = some (.int .i64 (K.toNat : Int))) := box (by match j, hjlt, hK with | 0, _, h => obtain rfl := Option.some.inj h; rfl | 1, _, h => obtain rfl := Option.some.inj h; rfl)
       cases hy' : b[p + 6 + j]? with
       | some y =>
        have hyl := y.toNat_lt
        have hwa := box (rwant_in hy' (hF.blk (i := 1) rfl) (hF.rdB hg hB hr))
        have hplt := (List.getElem?_eq_some_iff.1 hy').1
        rw [hl.out] at hplt
        by_cases hyK : y = K
        ·have hq : ((y.toNat : Int) != (K.toNat : Int)) = false := by rw [hyK]; simp
         have hgo : Box (jEscape b p = jEscJ b p N (j + 1)) := box (by rw [hJj.out, jEscJ_step hjlt hK hy', if_pos hyK])
         clear hy' hK
         replace hyK := box hyK
         go_wp2_with fail
         refine hwa.out.mono ?_
         rintro e w7 ⟨rfl, h7⟩
         have hF7 := hF.putF (i := 1) rfl h7
         simp only [List.set_cons_zero, List.set_cons_succ] at hF7
         go_wp2_with (first | (with_reducible refine lst (by with_unfolding_all rfl) (wp_fld1 hF7 Tryz.underlying3 rfl (by with_unfolding_all exact ⟨_, rfl, rfl⟩) rfl ?_)) | (with_reducible refine lst (by with_unfolding_all rfl) (wp_indexAddr T_ints (hF7.rdOwn (i := 0) rfl) (by with_unfolding_all exact ⟨_, _, _, _, rfl, rfl, rfl⟩) (by omega) (by omega) ?_)) | (with_reducible refine lst (by with_unfolding_all rfl) (wp_load1C (hF7.rdOwn (i := 0) rfl) hKi Tryz.underlying3 rfl (by with_unfolding_all exact ⟨_, rfl, rfl⟩) (by first | (simp; done) | (simp; omega) | omega) ?_)) | ((with_reducible refine lst (by with_unfolding_all rfl) (wp_fst1 hF7 (by with_unfolding_all exact ⟨_, _, rfl, rfl, rfl⟩) (by kernel_rfl) rfl rfl (by rw [rrL_len]; decide) (rrL_at (v := (p + 6 + j : Int) + 1) (q := p + 6 + (j + 1)) (by omega)) ?_)); intro w8 hF8 hz8))
         go_roundg (2 - (j + 1))
         case rel => exact ⟨j + 1, by omega, box rfl, by go_num, by omega, hgo, hF8⟩
         case measure => have := hkg.out; omega
        ·have hq : ((y.toNat : Int) != (K.toNat : Int)) = true := by rw [bne_iff_ne]; intro h; exact hyK (UInt8.toNat_inj.1 (by omega))
         have hend : Box (jEscape b p = .error (p, 62)) := box (by rw [hJj.out, jEscJ_step hjlt hK hy', if_neg hyK])
         clear hy' hK
         replace hyK := box hyK
         go_wp2_with fail
         refine hwa.out.mono ?_
         rintro e w7 ⟨rfl, h7⟩
         have hF7 := hF.putF (i := 1) rfl h7
         simp only [List.set_cons_zero, List.set_cons_succ] at hF7
         go_wp2_with (first | (with_reducible refine lst (by with_unfolding_all rfl) (wp_fld1 hF7 Tryz.underlying3 rfl (by with_unfolding_all exact ⟨_, rfl, rfl⟩) rfl ?_)) | (with_reducible refine lst (by with_unfolding_all rfl) (wp_indexAddr T_ints (hF7.rdOwn (i := 0) rfl) (by with_unfolding_all exact ⟨_, _, _, _, rfl, rfl, rfl⟩) (by omega) (by omega) ?_)) | (with_reducible refine lst (by with_unfolding_all rfl) (wp_load1C (hF7.rdOwn (i := 0) rfl) hKi Tryz.underlying3 rfl (by with_unfolding_all exact ⟨_, rfl, rfl⟩) (by first | (simp; done) | (simp; omega) | omega) ?_)))
         refine (rfail_ok g A n c (p + 6 + j) m (p, 62) _ (hF7.blk (i := 1) rfl)).mono ?_
         rintro e w8 ⟨rfl, h8⟩
         have hF8 := hF7.putF (i := 1) rfl h8
         simp only [List.set_cons_zero, List.set_cons_succ] at hF8
         go_wp2_with fail
         go_ret
         unfold REsc
         rw [hend.out]
         exact ⟨rfl, _, _, hF8.tail⟩
       | none =>
        have hend : Box (jEscape b p = .error (n, 9)) := box (by rw [hJj.out, jEscJ_none hjlt hy', hl.out])
        have hwa := box (rwant_end hy' (hF.blk (i := 1) rfl) (hF.rdB hg hB hr))
        clear hy' hK
        go_wp2_with fail
        refine hwa.out.mono ?_
        rintro e w7 ⟨rfl, h7⟩
        have hF7 := hF.putF (i := 1) rfl h7
        simp only [List.set_cons_zero, List.set_cons_succ] at hF7
        go_wp2_with (first | (with_reducible refine lst (by with_unfolding_all rfl) (wp_fld1 hF7 Tryz.underlying3 rfl (by with_unfolding_all exact ⟨_, rfl, rfl⟩) rfl ?_)))
        go_ret
        unfold REsc
        rw [hend.out]
        exact ⟨rfl, _, _, hF7.tail⟩
      ·obtain rfl : j = 2 := by omega
       have hJ2 : jEscape b p = jEsc2 b p N := hJj.out
       unfold jEsc2 at hJ2
       have hdg2 := box (rdigits_ok g A n c (p + 6 + 2) m p B b wr (hF.blk (i := 1) rfl) hg (Nat.le_trans hB hF.size) hn hpn (hF.rdB hg hB hr))
       rw [show p + 6 + 2 = p + 8 by omega] at hdg2
       cases hM : jUnit b p 4 0 (p + 8) with
       | error z =>
        have hz2 := jUnit_err hM
        rw [hM] at hJ2 hdg2
        simp only [] at hJ2
        replace hJ2 := box hJ2
        have hz0 : ((z.2 : Int) == 0) = false := by rw [beq_eq_false_iff_ne]; omega
        have hz1 : ((z.2 : Int) != 0) = true := by rw [bne_iff_ne]; omega
        replace hz2 := box hz2
        clear hM
        go_wp2_with fail
        refine hdg2.out.mono ?_
        rintro e w7 ⟨zz, rfl, p7, m7, h7⟩
        have hF7 := hF.putF (i := 1) rfl h7
        simp only [List.set_cons_zero, List.set_cons_succ] at hF7
        go_wp2_with (first | (with_reducible refine lst (by with_unfolding_all rfl) (wp_fld1 hF7 Tryz.underlying3 rfl (by with_unfolding_all exact ⟨_, rfl, rfl⟩) rfl ?_)))
        go_ret
        unfold REsc
        rw [hJ2.out]
        exact ⟨rfl, _, _, hF7.tail⟩
       | ok M =>
        have hM1 := jUnit_lt (N := 0) (j := 0) (by decide) hM
        have hM65 : M < 65536 := hM1.1
        rw [hM] at hJ2 hdg2
        simp only [] at hJ2
        clear hM hM1
        by_cases h4 : M < 56320
        ·skip
         have hJ3 : Box (jEscape b p = .error (p, 62)) := box (by rw [hJ2, if_neg (by omega)])
         have hd4 : decide ((M : Int) < 56320) = true := decide_eq_true (by omega)
         clear hJ2 hM65
         go_wp2_with fail
         refine hdg2.out.mono ?_
         rintro e w7 ⟨zz, rfl, rfl, hp12, h7⟩
         have hF7 := hF.putF (i := 1) rfl h7
         simp only [List.set_cons_zero, List.set_cons_succ] at hF7
         replace hp12 := box hp12
         go_wp2_with (first | (with_reducible refine lst (by with_unfolding_all rfl) (wp_fld1 hF7 Tryz.underlying3 rfl (by with_unfolding_all exact ⟨_, rfl, rfl⟩) rfl ?_)))
         refine (rfail_ok g A n c (p + 8 + 4) m (p, 62) _ (hF7.blk (i := 1) rfl)).mono ?_
         rintro e w8 ⟨rfl, h8⟩
         have hF8 := hF7.putF (i := 1) rfl h8
         simp only [List.set_cons_zero, List.set_cons_succ] at hF8
         go_wp2_with (first | (with_reducible refine lst (by with_unfolding_all rfl) (wp_fld1 hF8 Tryz.underlying3 rfl (by with_unfolding_all exact ⟨_, rfl, rfl⟩) rfl ?_)))
         go_ret
         unfold REsc
         rw [hJ3.out]
         exact ⟨rfl, _, _, hF8.tail⟩
        have hd4 : decide ((M : Int) < 56320) = false := decide_eq_false (by omega)
        by_cases h5 : 57344 ≤ M
        ·skip
         have hJ3 : Box (jEscape b p = .error (p, 62)) := box (by rw [hJ2, if_neg (by omega)])
         have hd5 : decide ((57344 : Int) ≤ (M : Int)) = true := decide_eq_true (by omega)
         clear hJ2 hM65
         go_wp2_with fail
         refine hdg2.out.mono ?_
         rintro e w7 ⟨zz, rfl, rfl, hp12, h7⟩
         have hF7 := hF.putF (i := 1) rfl h7
         simp only [List.set_cons_zero, List.set_cons_succ] at hF7
         replace hp12 := box hp12
         go_wp2_with (first | (with_reducible refine lst (by with_unfolding_all rfl) (wp_fld1 hF7 Tryz.underlying3 rfl (by with_unfolding_all exact ⟨_, rfl, rfl⟩) rfl ?_)))
         refine (rfail_ok g A n c (p + 8 + 4) m (p, 62) _ (hF7.blk (i := 1) rfl)).mono ?_
         rintro e w8 ⟨rfl, h8⟩
         have hF8 := hF7.putF (i := 1) rfl h8
         simp only [List.set_cons_zero, List.set_cons_succ] at hF8
         go_wp2_with (first | (with_reducible refine lst (by with_unfolding_all rfl) (wp_fld1 hF8 Tryz.underlying3 rfl (by with_unfolding_all exact ⟨_, rfl, rfl⟩) rfl ?_)))
         go_ret
         unfold REsc
         rw [hJ3.out]
         exact ⟨rfl, _, _, hF8.tail⟩
        have hd5 : decide ((57344 : Int) ≤ (M : Int)) = false := decide_eq_false (by omega)
        obtain ⟨u, hu⟩ : ∃ u, u = 65536 + (N - 55296) * 1024 + (M - 56320) := ⟨_, rfl⟩
        have hJ3 : Box (jEscape b p = .ok (jSign u, p + 8 + 4)) := box (by rw [hJ2, if_pos (by omega), hu])
        have h1o := h1.out
        have h3o := h3.out
        have hui : (65536 : Int) + ((N - 55296 : Nat) : Int) * 1024 + ((M - 56320 : Nat) : Int) = (u : Int) := by omega
        have hsg := box (fun w (z : Int) (hz : z = (u : Int)) => hz ▸ rsign_any u w (by omega))
        clear hJ2
        go_wp2_with fail
        refine hdg2.out.mono ?_
        rintro e w7 ⟨zz, rfl, rfl, hp12, h7⟩
        have hF7 := hF.putF (i := 1) rfl h7
        simp only [List.set_cons_zero, List.set_cons_succ] at hF7
        replace hp12 := box hp12
        go_wp2_with (first | (with_reducible refine lst (by with_unfolding_all rfl) (wp_fld1 hF7 Tryz.underlying3 rfl (by with_unfolding_all exact ⟨_, rfl, rfl⟩) rfl ?_)))
        refine (hsg.out _ _ ?_).mono ?_
        ·clear hF hF7 hsg h7; omega
        rintro e w8 ⟨v8, rfl, hS⟩
        have hF8 := hF7.tail.join hS
        go_wp2_with fail
        go_ret
        unfold REsc
        rw [hJ3.out]
        exact ⟨_, _, rfl, hF8⟩
   ·have hq : ((x.toNat : Int) != 117) = true := u8_ne' h117
    have hJ := box (jEscape_no hx.out hno.out h117)
    replace h117 := box h117
    go_wp2_with fail
    refine (rfail_ok g A n c (p + 2) m (p, 62) _ (hF.blk (i := 0) rfl)).mono ?_
    rintro e w4 ⟨rfl, h4⟩
    have hF4 := hF.putF (i := 0) rfl h4
    simp only [List.set_cons_zero] at hF4
    go_wp2_with fail
    go_ret
    unfold REsc
    rw [hJ.out]
    exact ⟨rfl, _, _, hF4⟩
end Go.Proofs.YtlhicfpmlncomaaGreatDoor

namespace Go.Proofs.YtlhicfpmlncomaaGreatDoor
open Go.RowKit Go.Lib
set_option linter.unusedSimpArgs false
/-- The number that a sign's bytes make, behind its first. -/
def szv (n : Int) (xs : List UInt8) : Int := xs.foldl (fun n x => n * 64 + (x.toNat : Int) - 128) n
theorem szv_snoc (n : Int) (xs : List UInt8) (x : UInt8) : szv n (xs ++ [x]) = szv n xs * 64 + (x.toNat : Int) - 128 := by unfold szv; rw [List.foldl_append]; rfl
theorem jSize1 {c : UInt8} {t : List UInt8} (h : c.toNat < 128) : jSize (c :: t) = 1 := by rw [jSize.eq_def]; simp only []; rw [if_pos h]
theorem jSize0 {c : UInt8} {t : List UInt8} (h : 128 ≤ c.toNat ∧ c.toNat < 194 ∨ 245 ≤ c.toNat) : jSize (c :: t) = 0 := by
 rw [jSize.eq_def]
 simp only []
 rw [if_neg (by omega)]
 by_cases h1 : c.toNat < 194
 ·rw [if_pos h1]
 ·rw [if_neg h1, if_neg (by omega), if_neg (by omega), if_neg (by omega)]
theorem cont_eq (x : UInt8) : jCont x = true ↔ 128 ≤ x.toNat ∧ x.toNat ≤ 191 := by unfold jCont; rw [Bool.and_eq_true, decide_eq_true_eq, decide_eq_true_eq]
/-- What is told of a sign of k bytes of which the first is c. -/
def szOk (k : Nat) (base : Nat) (c : UInt8) (xs : List UInt8) : Prop :=
 xs.all jCont = true ∧ (k = 3 → ¬ (szv ((c.toNat : Int) - base) xs < 2048 ∨ 55296 ≤ szv ((c.toNat : Int) - base) xs ∧ szv ((c.toNat : Int) - base) xs < 57344)) ∧ (k = 4 → ¬ (szv ((c.toNat : Int) - base) xs < 65536 ∨ 1114111 < szv ((c.toNat : Int) - base) xs))
instance (k base : Nat) (c : UInt8) (xs : List UInt8) : Decidable (szOk k base c xs) := by unfold szOk; exact inferInstance
theorem jSize_k {c : UInt8} {t : List UInt8} {k base : Nat} (h : k = 2 ∧ base = 192 ∧ 194 ≤ c.toNat ∧ c.toNat < 224 ∨ k = 3 ∧ base = 224 ∧ 224 ≤ c.toNat ∧ c.toNat < 240 ∨ k = 4 ∧ base = 240 ∧ 240 ≤ c.toNat ∧ c.toNat < 245) :
  jSize (c :: t) = if k ≤ t.length + 1 ∧ szOk k base c (t.take (k - 1)) then k else 0 := by
 rw [jSize.eq_def]
 simp only []
 rw [if_neg (by omega), if_neg (by omega)]
 rcases h with ⟨rfl, rfl, h1, h2⟩ | ⟨rfl, rfl, h1, h2⟩ | ⟨rfl, rfl, h1, h2⟩
 ·rw [if_pos h2]
  match t with
  | [] => simp
  | x :: t => simp [szOk]
 ·rw [if_neg (by omega), if_pos h2]
  match t with
  | [] => simp
  | [x] => simp
  | x :: y :: t =>
   simp only [List.length_cons, szOk, szv, List.take_succ_cons, List.take_zero, List.all_cons, List.all_nil, Bool.and_true, Bool.and_eq_true, List.foldl_cons, List.foldl_nil]
   by_cases hx : jCont x = true
   ·by_cases hy : jCont y = true
    ·have h3 := (cont_eq x).1 hx
     have h4 := (cont_eq y).1 hy
     congr 1
     simp only [hx, hy, true_and, eq_iff_iff]
     constructor
     ·intro h; refine ⟨by omega, fun _ => by omega, fun h => by omega⟩
     ·intro h; have := h.2.1 trivial; omega
    ·simp [hy]
   ·simp [hx]
 ·rw [if_neg (by omega), if_neg (by omega), if_pos h2]
  match t with
  | [] => simp
  | [x] => simp
  | [x, y] => simp
  | x :: y :: z :: t =>
   simp only [List.length_cons, szOk, szv, List.take_succ_cons, List.take_zero, List.all_cons, List.all_nil, Bool.and_true, Bool.and_eq_true, List.foldl_cons, List.foldl_nil]
   by_cases hx : jCont x = true
   ·by_cases hy : jCont y = true
    ·by_cases hz : jCont z = true
     ·have h3 := (cont_eq x).1 hx
      have h4 := (cont_eq y).1 hy
      have h5 := (cont_eq z).1 hz
      congr 1
      simp only [hx, hy, hz, true_and, eq_iff_iff]
      constructor
      ·intro h; refine ⟨by omega, fun h => by omega, fun _ => by omega⟩
      ·intro h; have := h.2.2 trivial; omega
     ·simp [hz]
    ·simp [hy]
   ·simp [hx]
end Go.Proofs.YtlhicfpmlncomaaGreatDoor

namespace Go.Proofs.YtlhicfpmlncomaaGreatDoor
open Go.RowKit
set_option linter.unusedSimpArgs false
set_option maxRecDepth 20000 in
set_option maxHeartbeats 12800000 in
theorem rsize_pos (A : Option Addr) (n c : Nat) (c0 : UInt8) (t : List UInt8) (w : World) (S : Nat → Prop) (hn : n ≤ 140737488355328) (hr : Rd w S A 1 n ((c0 :: t).map bv)) :
  Calls Tryz.prog 104 #[.slice A n c] w fun e w' => e = .returned (.int .i64 (jSize (c0 :: t) : Int)) ∧ w = w' := by
 have hl0 := hr.bytes_len
 rw [List.length_cons] at hl0
 have hl := box hl0
 have hn0 : 0 < n := by omega
 have hz : ((n : Int) == 0) = false := by rw [beq_eq_false_iff_ne]; omega
 clear hl0
 have hc0 : Box ((c0 :: t)[0]? = some c0) := box rfl
 have hcl := c0.toNat_lt
 by_cases k1 : c0.toNat < 128
 ·have hend : Box (jSize (c0 :: t) = 1) := box (jSize1 k1)
  have d128 : decide ((128 : Int) ≤ (c0.toNat : Int)) = false := decide_eq_false (by omega)
  have hn1 : ¬ (n : Int) < 1 := by omega
  replace k1 := box k1
  go_enter Tryz.func104, Tryz.ntmps104
  go_wp2_with (first | (with_reducible refine lst (by with_unfolding_all rfl) (wp_indexAddr T_u8 hr (by with_unfolding_all exact ⟨_, _, _, _, rfl, rfl, rfl⟩) (by omega) (by omega) ?_)) | (with_reducible refine lst (by with_unfolding_all rfl) (wp_loadC hr hc0 Tryz.underlying5 rfl (by with_unfolding_all exact ⟨_, rfl, rfl⟩) (by first | (simp; done) | (simp; omega) | omega) ?_)))
  go_loopg [5] 0 (fun gk b wr => b = .int .i64 1 ∧ wr = w)
  case atStart => exact ⟨rfl, rfl⟩
  case round =>
   obtain ⟨rfl, rfl⟩ := hrel
   go_wp2
   go_ret
   exact ⟨by rw [hend.out]; rfl, rfl⟩
 have d128 : decide ((128 : Int) ≤ (c0.toNat : Int)) = true := decide_eq_true (by omega)
 by_cases k2 : c0.toNat < 194
 ·have hend : Box (jSize (c0 :: t) = 0) := box (jSize0 (.inl ⟨by omega, k2⟩))
  have d194 : decide ((194 : Int) ≤ (c0.toNat : Int)) = false := decide_eq_false (by omega)
  have d224 : decide ((224 : Int) ≤ (c0.toNat : Int)) = false := decide_eq_false (by omega)
  have d240 : decide ((240 : Int) ≤ (c0.toNat : Int)) = false := decide_eq_false (by omega)
  replace k1 := box k1
  replace k2 := box k2
  go_enter Tryz.func104, Tryz.ntmps104
  go_wp2_with (first | (with_reducible refine lst (by with_unfolding_all rfl) (wp_indexAddr T_u8 hr (by with_unfolding_all exact ⟨_, _, _, _, rfl, rfl, rfl⟩) (by omega) (by omega) ?_)) | (with_reducible refine lst (by with_unfolding_all rfl) (wp_loadC hr hc0 Tryz.underlying5 rfl (by with_unfolding_all exact ⟨_, rfl, rfl⟩) (by first | (simp; done) | (simp; omega) | omega) ?_)))
  go_ret
  exact ⟨by rw [hend.out]; rfl, rfl⟩
 by_cases k3 : 245 ≤ c0.toNat
 ·have hend : Box (jSize (c0 :: t) = 0) := box (jSize0 (.inr k3))
  have d194 : decide ((194 : Int) ≤ (c0.toNat : Int)) = true := decide_eq_true (by omega)
  have e224 : decide ((c0.toNat : Int) < 224) = false := decide_eq_false (by omega)
  have d224 : decide ((224 : Int) ≤ (c0.toNat : Int)) = true := decide_eq_true (by omega)
  have e240 : decide ((c0.toNat : Int) < 240) = false := decide_eq_false (by omega)
  have d240 : decide ((240 : Int) ≤ (c0.toNat : Int)) = true := decide_eq_true (by omega)
  have e245 : decide ((c0.toNat : Int) < 245) = false := decide_eq_false (by omega)
  replace k1 := box k1
  replace k2 := box k2
  replace k3 := box k3
  go_enter Tryz.func104, Tryz.ntmps104
  go_wp2_with (first | (with_reducible refine lst (by with_unfolding_all rfl) (wp_indexAddr T_u8 hr (by with_unfolding_all exact ⟨_, _, _, _, rfl, rfl, rfl⟩) (by omega) (by omega) ?_)) | (with_reducible refine lst (by with_unfolding_all rfl) (wp_loadC hr hc0 Tryz.underlying5 rfl (by with_unfolding_all exact ⟨_, rfl, rfl⟩) (by first | (simp; done) | (simp; omega) | omega) ?_)))
  go_ret
  exact ⟨by rw [hend.out]; rfl, rfl⟩
 have d194 : decide ((194 : Int) ≤ (c0.toNat : Int)) = true := decide_eq_true (by omega)
 by_cases k4 : c0.toNat < 224
 ·skip
  have e224 : decide ((c0.toNat : Int) < 224) = true := decide_eq_true (by omega)
  have hj := box (jSize_k (c := c0) (t := t) (k := 2) (base := 192) (by omega))
  have hb0 : 0 ≤ (c0.toNat : Int) - 192 ∧ (c0.toNat : Int) - 192 ≤ 31 := by omega
  have hb1 : 192 ≤ c0.toNat := by omega
  replace k1 := box k1
  replace k2 := box k2
  replace k3 := box k3
  replace k4 := box k4
  by_cases hshort : n < 2
  ·have hend : Box (jSize (c0 :: t) = 0) := box (by rw [hj.out, if_neg (by have := hl.out; omega)])
   have hn1 : (n : Int) < 2 := by omega
   go_enter Tryz.func104, Tryz.ntmps104
   go_wp2_with (first | (with_reducible refine lst (by with_unfolding_all rfl) (wp_indexAddr T_u8 hr (by with_unfolding_all exact ⟨_, _, _, _, rfl, rfl, rfl⟩) (by omega) (by omega) ?_)) | (with_reducible refine lst (by with_unfolding_all rfl) (wp_loadC hr hc0 Tryz.underlying5 rfl (by with_unfolding_all exact ⟨_, rfl, rfl⟩) (by first | (simp; done) | (simp; omega) | omega) ?_)))
   go_ret
   exact ⟨by rw [hend.out]; rfl, rfl⟩
  have hn1 : ¬ (n : Int) < 2 := by omega
  replace hshort := box hshort
  go_enter Tryz.func104, Tryz.ntmps104
  go_wp2_with (first | (with_reducible refine lst (by with_unfolding_all rfl) (wp_indexAddr T_u8 hr (by with_unfolding_all exact ⟨_, _, _, _, rfl, rfl, rfl⟩) (by omega) (by omega) ?_)) | (with_reducible refine lst (by with_unfolding_all rfl) (wp_loadC hr hc0 Tryz.underlying5 rfl (by with_unfolding_all exact ⟨_, rfl, rfl⟩) (by first | (simp; done) | (simp; omega) | omega) ?_)))
  go_loopg [4, 5] 1 (fun gk a b wr => ∃ (i : Nat) (m : Int), 1 ≤ i ∧ i ≤ 2 ∧ Box (gk = 2 - i) ∧ a = .int .i64 m ∧ b = .int .i64 (i : Int) ∧ Box (m = szv ((c0.toNat : Int) - (192 : Nat)) (t.take (i - 1))) ∧ Box ((t.take (i - 1)).all jCont = true) ∧ 0 ≤ m ∧ m ≤ 8388607 ∧ Box ((i = 1 → m ≤ 31) ∧ (i = 2 → m ≤ 2047) ∧ (i = 3 → m ≤ 131071)) ∧ wr = w)
  case atStart => exact ⟨1, (c0.toNat : Int) - 192, by omega, by omega, box rfl, by go_num, rfl, box rfl, box rfl, by omega, by omega, box ⟨fun _ => by omega, fun h => by omega, fun h => by omega⟩, rfl⟩
  case round =>
   obtain ⟨i, m, hi1, hi, hk, rfl, rfl, hm, hco, hm0, hm1, hmb, rfl⟩ := hrel
   by_cases hlt : i < 2
   ·obtain ⟨x, hx'⟩ : ∃ x, t[i - 1]? = some x := ⟨t[i - 1]'(by have := hl.out; omega), by simp⟩
    have hx : Box ((c0 :: t)[i]? = some x) := box (by obtain ⟨j, rfl⟩ : ∃ j, i = j + 1 := ⟨i - 1, by omega⟩; simpa using hx')
    have hm2 : m ≤ 131071 := by have h := hmb.out; rcases (by omega : i = 1 ∨ i = 2 ∨ i = 3) with h1 | h1 | h1; exact Int.le_trans (h.1 h1) (by omega); exact Int.le_trans (h.2.1 h1) (by omega); exact h.2.2 h1
    have hxl := x.toNat_lt
    have hsn : Box (t.take i = t.take (i - 1) ++ [x]) := box (by obtain ⟨j, rfl⟩ : ∃ j, i = j + 1 := ⟨i - 1, by omega⟩; rw [List.take_add_one]; simp only [Nat.add_sub_cancel] at hx' ⊢; rw [hx']; rfl)
    replace hx' := box hx'
    by_cases hc : 128 ≤ x.toNat ∧ x.toNat ≤ 191
    ·have f1 : decide ((x.toNat : Int) < 128) = false := decide_eq_false (by omega)
     have f2 : decide ((191 : Int) < (x.toNat : Int)) = false := decide_eq_false (by omega)
     go_wp2_with (first | (with_reducible refine lst (by with_unfolding_all rfl) (wp_indexAddr T_u8 hr (by with_unfolding_all exact ⟨_, _, _, _, rfl, rfl, rfl⟩) (by omega) (by omega) ?_)) | (with_reducible refine lst (by with_unfolding_all rfl) (wp_loadC hr hc0 Tryz.underlying5 rfl (by with_unfolding_all exact ⟨_, rfl, rfl⟩) (by first | (simp; done) | (simp; omega) | omega) ?_)) | (with_reducible refine lst (by with_unfolding_all rfl) (wp_loadC hr hx Tryz.underlying5 rfl (by with_unfolding_all exact ⟨_, rfl, rfl⟩) (by first | (simp; done) | (simp; omega) | omega) ?_)))
     go_roundg (2 - (i + 1))
     case rel => exact ⟨i + 1, m * 64 + (x.toNat : Int) - 128, by omega, by omega, box rfl, by go_num, by go_num, box (by rw [Nat.add_sub_cancel, hsn.out, szv_snoc, hm.out]), box (by rw [Nat.add_sub_cancel, hsn.out, List.all_append, hco.out]; simp only [List.all_cons, List.all_nil, Bool.and_true, Bool.true_and]; exact (cont_eq x).2 hc), by omega, by omega, box (by have h := hmb.out; refine ⟨fun h1 => by omega, fun h1 => ?_, fun h1 => ?_⟩; have := h.1 (by omega); omega; have := h.2.1 (by omega); omega), rfl⟩
     case measure => have := hk.out; omega
    ·have hend : Box (jSize (c0 :: t) = 0) := box (by
      rw [hj.out, if_neg]
      intro h
      have h2 := h.2.1
      have h3 : x ∈ t.take (2 - 1) := by
       refine List.mem_of_getElem? (i := i - 1) ?_
       rw [List.getElem?_take, if_pos (by omega)]; exact hx'.out
      have := (cont_eq x).1 (List.all_eq_true.1 h2 x h3)
      exact hc this)
     by_cases hc2 : x.toNat < 128
     ·have f1 : decide ((x.toNat : Int) < 128) = true := decide_eq_true (by omega)
      go_wp2_with (first | (with_reducible refine lst (by with_unfolding_all rfl) (wp_indexAddr T_u8 hr (by with_unfolding_all exact ⟨_, _, _, _, rfl, rfl, rfl⟩) (by omega) (by omega) ?_)) | (with_reducible refine lst (by with_unfolding_all rfl) (wp_loadC hr hc0 Tryz.underlying5 rfl (by with_unfolding_all exact ⟨_, rfl, rfl⟩) (by first | (simp; done) | (simp; omega) | omega) ?_)) | (with_reducible refine lst (by with_unfolding_all rfl) (wp_loadC hr hx Tryz.underlying5 rfl (by with_unfolding_all exact ⟨_, rfl, rfl⟩) (by first | (simp; done) | (simp; omega) | omega) ?_)))
      go_ret
      exact ⟨by rw [hend.out]; rfl, rfl⟩
     ·have f1 : decide ((x.toNat : Int) < 128) = false := decide_eq_false (by omega)
      have f2 : decide ((191 : Int) < (x.toNat : Int)) = true := decide_eq_true (by omega)
      go_wp2_with (first | (with_reducible refine lst (by with_unfolding_all rfl) (wp_indexAddr T_u8 hr (by with_unfolding_all exact ⟨_, _, _, _, rfl, rfl, rfl⟩) (by omega) (by omega) ?_)) | (with_reducible refine lst (by with_unfolding_all rfl) (wp_loadC hr hc0 Tryz.underlying5 rfl (by with_unfolding_all exact ⟨_, rfl, rfl⟩) (by first | (simp; done) | (simp; omega) | omega) ?_)) | (with_reducible refine lst (by with_unfolding_all rfl) (wp_loadC hr hx Tryz.underlying5 rfl (by with_unfolding_all exact ⟨_, rfl, rfl⟩) (by first | (simp; done) | (simp; omega) | omega) ?_)))
      go_ret
      exact ⟨by rw [hend.out]; rfl, rfl⟩
   ·obtain rfl : i = 2 := by omega
    have hend : Box (jSize (c0 :: t) = 2) := box (by rw [hj.out, if_pos]; refine ⟨by have := hl.out; have := hshort.out; omega, hco.out, ?_, ?_⟩ <;> (intro hh; first | omega | (have := hm.out; simp only [Nat.add_one_sub_one] at this; rw [← this]; omega)))
    go_wp2
    go_ret
    exact ⟨by rw [hend.out]; rfl, rfl⟩
 have e224 : decide ((c0.toNat : Int) < 224) = false := decide_eq_false (by omega)
 have d224 : decide ((224 : Int) ≤ (c0.toNat : Int)) = true := decide_eq_true (by omega)
 by_cases k5 : c0.toNat < 240
 ·skip
  have e240 : decide ((c0.toNat : Int) < 240) = true := decide_eq_true (by omega)
  have hj := box (jSize_k (c := c0) (t := t) (k := 3) (base := 224) (by omega))
  have hb0 : 0 ≤ (c0.toNat : Int) - 224 ∧ (c0.toNat : Int) - 224 ≤ 31 := by omega
  have hb1 : 224 ≤ c0.toNat := by omega
  replace k1 := box k1
  replace k2 := box k2
  replace k3 := box k3
  replace k4 := box k4
  replace k5 := box k5
  by_cases hshort : n < 3
  ·have hend : Box (jSize (c0 :: t) = 0) := box (by rw [hj.out, if_neg (by have := hl.out; omega)])
   have hn1 : (n : Int) < 3 := by omega
   go_enter Tryz.func104, Tryz.ntmps104
   go_wp2_with (first | (with_reducible refine lst (by with_unfolding_all rfl) (wp_indexAddr T_u8 hr (by with_unfolding_all exact ⟨_, _, _, _, rfl, rfl, rfl⟩) (by omega) (by omega) ?_)) | (with_reducible refine lst (by with_unfolding_all rfl) (wp_loadC hr hc0 Tryz.underlying5 rfl (by with_unfolding_all exact ⟨_, rfl, rfl⟩) (by first | (simp; done) | (simp; omega) | omega) ?_)))
   go_ret
   exact ⟨by rw [hend.out]; rfl, rfl⟩
  have hn1 : ¬ (n : Int) < 3 := by omega
  replace hshort := box hshort
  go_enter Tryz.func104, Tryz.ntmps104
  go_wp2_with (first | (with_reducible refine lst (by with_unfolding_all rfl) (wp_indexAddr T_u8 hr (by with_unfolding_all exact ⟨_, _, _, _, rfl, rfl, rfl⟩) (by omega) (by omega) ?_)) | (with_reducible refine lst (by with_unfolding_all rfl) (wp_loadC hr hc0 Tryz.underlying5 rfl (by with_unfolding_all exact ⟨_, rfl, rfl⟩) (by first | (simp; done) | (simp; omega) | omega) ?_)))
  go_loopg [4, 5] 2 (fun gk a b wr => ∃ (i : Nat) (m : Int), 1 ≤ i ∧ i ≤ 3 ∧ Box (gk = 3 - i) ∧ a = .int .i64 m ∧ b = .int .i64 (i : Int) ∧ Box (m = szv ((c0.toNat : Int) - (224 : Nat)) (t.take (i - 1))) ∧ Box ((t.take (i - 1)).all jCont = true) ∧ 0 ≤ m ∧ m ≤ 8388607 ∧ Box ((i = 1 → m ≤ 31) ∧ (i = 2 → m ≤ 2047) ∧ (i = 3 → m ≤ 131071)) ∧ wr = w)
  case atStart => exact ⟨1, (c0.toNat : Int) - 224, by omega, by omega, box rfl, by go_num, rfl, box rfl, box rfl, by omega, by omega, box ⟨fun _ => by omega, fun h => by omega, fun h => by omega⟩, rfl⟩
  case round =>
   obtain ⟨i, m, hi1, hi, hk, rfl, rfl, hm, hco, hm0, hm1, hmb, rfl⟩ := hrel
   by_cases hlt : i < 3
   ·obtain ⟨x, hx'⟩ : ∃ x, t[i - 1]? = some x := ⟨t[i - 1]'(by have := hl.out; omega), by simp⟩
    have hx : Box ((c0 :: t)[i]? = some x) := box (by obtain ⟨j, rfl⟩ : ∃ j, i = j + 1 := ⟨i - 1, by omega⟩; simpa using hx')
    have hm2 : m ≤ 131071 := by have h := hmb.out; rcases (by omega : i = 1 ∨ i = 2 ∨ i = 3) with h1 | h1 | h1; exact Int.le_trans (h.1 h1) (by omega); exact Int.le_trans (h.2.1 h1) (by omega); exact h.2.2 h1
    have hxl := x.toNat_lt
    have hsn : Box (t.take i = t.take (i - 1) ++ [x]) := box (by obtain ⟨j, rfl⟩ : ∃ j, i = j + 1 := ⟨i - 1, by omega⟩; rw [List.take_add_one]; simp only [Nat.add_sub_cancel] at hx' ⊢; rw [hx']; rfl)
    replace hx' := box hx'
    by_cases hc : 128 ≤ x.toNat ∧ x.toNat ≤ 191
    ·have f1 : decide ((x.toNat : Int) < 128) = false := decide_eq_false (by omega)
     have f2 : decide ((191 : Int) < (x.toNat : Int)) = false := decide_eq_false (by omega)
     go_wp2_with (first | (with_reducible refine lst (by with_unfolding_all rfl) (wp_indexAddr T_u8 hr (by with_unfolding_all exact ⟨_, _, _, _, rfl, rfl, rfl⟩) (by omega) (by omega) ?_)) | (with_reducible refine lst (by with_unfolding_all rfl) (wp_loadC hr hc0 Tryz.underlying5 rfl (by with_unfolding_all exact ⟨_, rfl, rfl⟩) (by first | (simp; done) | (simp; omega) | omega) ?_)) | (with_reducible refine lst (by with_unfolding_all rfl) (wp_loadC hr hx Tryz.underlying5 rfl (by with_unfolding_all exact ⟨_, rfl, rfl⟩) (by first | (simp; done) | (simp; omega) | omega) ?_)))
     go_roundg (3 - (i + 1))
     case rel => exact ⟨i + 1, m * 64 + (x.toNat : Int) - 128, by omega, by omega, box rfl, by go_num, by go_num, box (by rw [Nat.add_sub_cancel, hsn.out, szv_snoc, hm.out]), box (by rw [Nat.add_sub_cancel, hsn.out, List.all_append, hco.out]; simp only [List.all_cons, List.all_nil, Bool.and_true, Bool.true_and]; exact (cont_eq x).2 hc), by omega, by omega, box (by have h := hmb.out; refine ⟨fun h1 => by omega, fun h1 => ?_, fun h1 => ?_⟩; have := h.1 (by omega); omega; have := h.2.1 (by omega); omega), rfl⟩
     case measure => have := hk.out; omega
    ·have hend : Box (jSize (c0 :: t) = 0) := box (by
      rw [hj.out, if_neg]
      intro h
      have h2 := h.2.1
      have h3 : x ∈ t.take (3 - 1) := by
       refine List.mem_of_getElem? (i := i - 1) ?_
       rw [List.getElem?_take, if_pos (by omega)]; exact hx'.out
      have := (cont_eq x).1 (List.all_eq_true.1 h2 x h3)
      exact hc this)
     by_cases hc2 : x.toNat < 128
     ·have f1 : decide ((x.toNat : Int) < 128) = true := decide_eq_true (by omega)
      go_wp2_with (first | (with_reducible refine lst (by with_unfolding_all rfl) (wp_indexAddr T_u8 hr (by with_unfolding_all exact ⟨_, _, _, _, rfl, rfl, rfl⟩) (by omega) (by omega) ?_)) | (with_reducible refine lst (by with_unfolding_all rfl) (wp_loadC hr hc0 Tryz.underlying5 rfl (by with_unfolding_all exact ⟨_, rfl, rfl⟩) (by first | (simp; done) | (simp; omega) | omega) ?_)) | (with_reducible refine lst (by with_unfolding_all rfl) (wp_loadC hr hx Tryz.underlying5 rfl (by with_unfolding_all exact ⟨_, rfl, rfl⟩) (by first | (simp; done) | (simp; omega) | omega) ?_)))
      go_ret
      exact ⟨by rw [hend.out]; rfl, rfl⟩
     ·have f1 : decide ((x.toNat : Int) < 128) = false := decide_eq_false (by omega)
      have f2 : decide ((191 : Int) < (x.toNat : Int)) = true := decide_eq_true (by omega)
      go_wp2_with (first | (with_reducible refine lst (by with_unfolding_all rfl) (wp_indexAddr T_u8 hr (by with_unfolding_all exact ⟨_, _, _, _, rfl, rfl, rfl⟩) (by omega) (by omega) ?_)) | (with_reducible refine lst (by with_unfolding_all rfl) (wp_loadC hr hc0 Tryz.underlying5 rfl (by with_unfolding_all exact ⟨_, rfl, rfl⟩) (by first | (simp; done) | (simp; omega) | omega) ?_)) | (with_reducible refine lst (by with_unfolding_all rfl) (wp_loadC hr hx Tryz.underlying5 rfl (by with_unfolding_all exact ⟨_, rfl, rfl⟩) (by first | (simp; done) | (simp; omega) | omega) ?_)))
      go_ret
      exact ⟨by rw [hend.out]; rfl, rfl⟩
   ·obtain rfl : i = 3 := by omega
    by_cases b1 : m < 2048
    ·have hend : Box (jSize (c0 :: t) = 0) := box (by rw [hj.out, if_neg]; intro hh; have h3 := hh.2.2.1 rfl; have := hm.out; simp only [Nat.add_one_sub_one] at this; rw [← this] at h3; omega)
     have f1 : decide (m < 2048) = true := decide_eq_true b1
     go_wp2
     go_ret
     exact ⟨by rw [hend.out]; rfl, rfl⟩
    have f1 : decide (m < 2048) = false := decide_eq_false b1
    by_cases b2 : 55296 ≤ m
    ·have f2 : decide ((55296 : Int) ≤ m) = true := decide_eq_true b2
     by_cases b3 : m < 57344
     ·have hend : Box (jSize (c0 :: t) = 0) := box (by rw [hj.out, if_neg]; intro hh; have h3 := hh.2.2.1 rfl; have := hm.out; simp only [Nat.add_one_sub_one] at this; rw [← this] at h3; omega)
      have f3 : decide (m < 57344) = true := decide_eq_true b3
      go_wp2
      go_ret
      exact ⟨by rw [hend.out]; rfl, rfl⟩
     ·have hend : Box (jSize (c0 :: t) = 3) := box (by rw [hj.out, if_pos]; refine ⟨by have := hl.out; have := hshort.out; omega, hco.out, ?_, ?_⟩ <;> (intro hh; first | omega | (have := hm.out; simp only [Nat.add_one_sub_one] at this; rw [← this]; omega)))
      have f3 : decide (m < 57344) = false := decide_eq_false b3
      go_wp2
      go_ret
      exact ⟨by rw [hend.out]; rfl, rfl⟩
    ·have hend : Box (jSize (c0 :: t) = 3) := box (by rw [hj.out, if_pos]; refine ⟨by have := hl.out; have := hshort.out; omega, hco.out, ?_, ?_⟩ <;> (intro hh; first | omega | (have := hm.out; simp only [Nat.add_one_sub_one] at this; rw [← this]; omega)))
     have f2 : decide ((55296 : Int) ≤ m) = false := decide_eq_false b2
     go_wp2
     go_ret
     exact ⟨by rw [hend.out]; rfl, rfl⟩
 have e240 : decide ((c0.toNat : Int) < 240) = false := decide_eq_false (by omega)
 have d240 : decide ((240 : Int) ≤ (c0.toNat : Int)) = true := decide_eq_true (by omega)
 have e245 : decide ((c0.toNat : Int) < 245) = true := decide_eq_true (by omega)
 have hj := box (jSize_k (c := c0) (t := t) (k := 4) (base := 240) (by omega))
 have hb0 : 0 ≤ (c0.toNat : Int) - 240 ∧ (c0.toNat : Int) - 240 ≤ 31 := by omega
 have hb1 : 240 ≤ c0.toNat := by omega
 replace k1 := box k1
 replace k2 := box k2
 replace k3 := box k3
 replace k4 := box k4
 replace k5 := box k5
 by_cases hshort : n < 4
 ·have hend : Box (jSize (c0 :: t) = 0) := box (by rw [hj.out, if_neg (by have := hl.out; omega)])
  have hn1 : (n : Int) < 4 := by omega
  go_enter Tryz.func104, Tryz.ntmps104
  go_wp2_with (first | (with_reducible refine lst (by with_unfolding_all rfl) (wp_indexAddr T_u8 hr (by with_unfolding_all exact ⟨_, _, _, _, rfl, rfl, rfl⟩) (by omega) (by omega) ?_)) | (with_reducible refine lst (by with_unfolding_all rfl) (wp_loadC hr hc0 Tryz.underlying5 rfl (by with_unfolding_all exact ⟨_, rfl, rfl⟩) (by first | (simp; done) | (simp; omega) | omega) ?_)))
  go_ret
  exact ⟨by rw [hend.out]; rfl, rfl⟩
 have hn1 : ¬ (n : Int) < 4 := by omega
 replace hshort := box hshort
 go_enter Tryz.func104, Tryz.ntmps104
 go_wp2_with (first | (with_reducible refine lst (by with_unfolding_all rfl) (wp_indexAddr T_u8 hr (by with_unfolding_all exact ⟨_, _, _, _, rfl, rfl, rfl⟩) (by omega) (by omega) ?_)) | (with_reducible refine lst (by with_unfolding_all rfl) (wp_loadC hr hc0 Tryz.underlying5 rfl (by with_unfolding_all exact ⟨_, rfl, rfl⟩) (by first | (simp; done) | (simp; omega) | omega) ?_)))
 go_loopg [4, 5] 3 (fun gk a b wr => ∃ (i : Nat) (m : Int), 1 ≤ i ∧ i ≤ 4 ∧ Box (gk = 4 - i) ∧ a = .int .i64 m ∧ b = .int .i64 (i : Int) ∧ Box (m = szv ((c0.toNat : Int) - (240 : Nat)) (t.take (i - 1))) ∧ Box ((t.take (i - 1)).all jCont = true) ∧ 0 ≤ m ∧ m ≤ 8388607 ∧ Box ((i = 1 → m ≤ 31) ∧ (i = 2 → m ≤ 2047) ∧ (i = 3 → m ≤ 131071)) ∧ wr = w)
 case atStart => exact ⟨1, (c0.toNat : Int) - 240, by omega, by omega, box rfl, by go_num, rfl, box rfl, box rfl, by omega, by omega, box ⟨fun _ => by omega, fun h => by omega, fun h => by omega⟩, rfl⟩
 case round =>
  obtain ⟨i, m, hi1, hi, hk, rfl, rfl, hm, hco, hm0, hm1, hmb, rfl⟩ := hrel
  by_cases hlt : i < 4
  ·obtain ⟨x, hx'⟩ : ∃ x, t[i - 1]? = some x := ⟨t[i - 1]'(by have := hl.out; omega), by simp⟩
   have hx : Box ((c0 :: t)[i]? = some x) := box (by obtain ⟨j, rfl⟩ : ∃ j, i = j + 1 := ⟨i - 1, by omega⟩; simpa using hx')
   have hm2 : m ≤ 131071 := by have h := hmb.out; rcases (by omega : i = 1 ∨ i = 2 ∨ i = 3) with h1 | h1 | h1; exact Int.le_trans (h.1 h1) (by omega); exact Int.le_trans (h.2.1 h1) (by omega); exact h.2.2 h1
   have hxl := x.toNat_lt
   have hsn : Box (t.take i = t.take (i - 1) ++ [x]) := box (by obtain ⟨j, rfl⟩ : ∃ j, i = j + 1 := ⟨i - 1, by omega⟩; rw [List.take_add_one]; simp only [Nat.add_sub_cancel] at hx' ⊢; rw [hx']; rfl)
   replace hx' := box hx'
   by_cases hc : 128 ≤ x.toNat ∧ x.toNat ≤ 191
   ·have f1 : decide ((x.toNat : Int) < 128) = false := decide_eq_false (by omega)
    have f2 : decide ((191 : Int) < (x.toNat : Int)) = false := decide_eq_false (by omega)
    go_wp2_with (first | (with_reducible refine lst (by with_unfolding_all rfl) (wp_indexAddr T_u8 hr (by with_unfolding_all exact ⟨_, _, _, _, rfl, rfl, rfl⟩) (by omega) (by omega) ?_)) | (with_reducible refine lst (by with_unfolding_all rfl) (wp_loadC hr hc0 Tryz.underlying5 rfl (by with_unfolding_all exact ⟨_, rfl, rfl⟩) (by first | (simp; done) | (simp; omega) | omega) ?_)) | (with_reducible refine lst (by with_unfolding_all rfl) (wp_loadC hr hx Tryz.underlying5 rfl (by with_unfolding_all exact ⟨_, rfl, rfl⟩) (by first | (simp; done) | (simp; omega) | omega) ?_)))
    go_roundg (4 - (i + 1))
    case rel => exact ⟨i + 1, m * 64 + (x.toNat : Int) - 128, by omega, by omega, box rfl, by go_num, by go_num, box (by rw [Nat.add_sub_cancel, hsn.out, szv_snoc, hm.out]), box (by rw [Nat.add_sub_cancel, hsn.out, List.all_append, hco.out]; simp only [List.all_cons, List.all_nil, Bool.and_true, Bool.true_and]; exact (cont_eq x).2 hc), by omega, by omega, box (by have h := hmb.out; refine ⟨fun h1 => by omega, fun h1 => ?_, fun h1 => ?_⟩; have := h.1 (by omega); omega; have := h.2.1 (by omega); omega), rfl⟩
    case measure => have := hk.out; omega
   ·have hend : Box (jSize (c0 :: t) = 0) := box (by
     rw [hj.out, if_neg]
     intro h
     have h2 := h.2.1
     have h3 : x ∈ t.take (4 - 1) := by
      refine List.mem_of_getElem? (i := i - 1) ?_
      rw [List.getElem?_take, if_pos (by omega)]; exact hx'.out
     have := (cont_eq x).1 (List.all_eq_true.1 h2 x h3)
     exact hc this)
    by_cases hc2 : x.toNat < 128
    ·have f1 : decide ((x.toNat : Int) < 128) = true := decide_eq_true (by omega)
     go_wp2_with (first | (with_reducible refine lst (by with_unfolding_all rfl) (wp_indexAddr T_u8 hr (by with_unfolding_all exact ⟨_, _, _, _, rfl, rfl, rfl⟩) (by omega) (by omega) ?_)) | (with_reducible refine lst (by with_unfolding_all rfl) (wp_loadC hr hc0 Tryz.underlying5 rfl (by with_unfolding_all exact ⟨_, rfl, rfl⟩) (by first | (simp; done) | (simp; omega) | omega) ?_)) | (with_reducible refine lst (by with_unfolding_all rfl) (wp_loadC hr hx Tryz.underlying5 rfl (by with_unfolding_all exact ⟨_, rfl, rfl⟩) (by first | (simp; done) | (simp; omega) | omega) ?_)))
     go_ret
     exact ⟨by rw [hend.out]; rfl, rfl⟩
    ·have f1 : decide ((x.toNat : Int) < 128) = false := decide_eq_false (by omega)
     have f2 : decide ((191 : Int) < (x.toNat : Int)) = true := decide_eq_true (by omega)
     go_wp2_with (first | (with_reducible refine lst (by with_unfolding_all rfl) (wp_indexAddr T_u8 hr (by with_unfolding_all exact ⟨_, _, _, _, rfl, rfl, rfl⟩) (by omega) (by omega) ?_)) | (with_reducible refine lst (by with_unfolding_all rfl) (wp_loadC hr hc0 Tryz.underlying5 rfl (by with_unfolding_all exact ⟨_, rfl, rfl⟩) (by first | (simp; done) | (simp; omega) | omega) ?_)) | (with_reducible refine lst (by with_unfolding_all rfl) (wp_loadC hr hx Tryz.underlying5 rfl (by with_unfolding_all exact ⟨_, rfl, rfl⟩) (by first | (simp; done) | (simp; omega) | omega) ?_)))
     go_ret
     exact ⟨by rw [hend.out]; rfl, rfl⟩
  ·obtain rfl : i = 4 := by omega
   by_cases b1 : m < 65536
   ·have hend : Box (jSize (c0 :: t) = 0) := box (by rw [hj.out, if_neg]; intro hh; have h3 := hh.2.2.2 rfl; have := hm.out; simp only [Nat.add_one_sub_one] at this; rw [← this] at h3; omega)
    have f1 : decide (m < 65536) = true := decide_eq_true b1
    go_wp2
    go_ret
    exact ⟨by rw [hend.out]; rfl, rfl⟩
   have f1 : decide (m < 65536) = false := decide_eq_false b1
   by_cases b2 : 1114111 < m
   ·have hend : Box (jSize (c0 :: t) = 0) := box (by rw [hj.out, if_neg]; intro hh; have h3 := hh.2.2.2 rfl; have := hm.out; simp only [Nat.add_one_sub_one] at this; rw [← this] at h3; omega)
    have f2 : decide ((1114111 : Int) < m) = true := decide_eq_true b2
    go_wp2
    go_ret
    exact ⟨by rw [hend.out]; rfl, rfl⟩
   ·have hend : Box (jSize (c0 :: t) = 4) := box (by rw [hj.out, if_pos]; refine ⟨by have := hl.out; have := hshort.out; omega, hco.out, ?_, ?_⟩ <;> (intro hh; first | omega | (have := hm.out; simp only [Nat.add_one_sub_one] at this; rw [← this]; omega)))
    have f2 : decide ((1114111 : Int) < m) = false := decide_eq_false b2
    go_wp2
    go_ret
    exact ⟨by rw [hend.out]; rfl, rfl⟩
theorem rsize_any (A : Option Addr) (n c : Nat) (l : List UInt8) (w : World) (S : Nat → Prop) (hn : n ≤ 140737488355328) (hr : Rd w S A 1 n (l.map bv)) :
  Calls Tryz.prog 104 #[.slice A n c] w fun e w' => e = .returned (.int .i64 (jSize l : Int)) ∧ w = w' := by
 cases l with
 | cons c0 t => exact rsize_pos A n c c0 t w S hn hr
 | nil =>
  have hl := hr.bytes_len
  obtain rfl : 0 = n := hl
  go_enter Tryz.func104, Tryz.ntmps104
  go_wp2
  go_ret
  exact ⟨rfl, rfl⟩
end Go.Proofs.YtlhicfpmlncomaaGreatDoor
