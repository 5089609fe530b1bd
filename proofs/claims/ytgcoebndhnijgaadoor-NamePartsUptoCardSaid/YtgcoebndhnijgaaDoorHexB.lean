/-
  Walks of layer 1: bytes as digits.
-/
import Derived.Test.YtgcoebndhnijgaaDoorHexA
import Derived.Deep.RegionLaw
namespace Go.Proofs.YtgcoebndhnijgaaDoor
open Go.RowKit

def hexS : ByteArray := ⟨#[48, 49, 50, 51, 52, 53, 54, 55, 56, 57, 97, 98, 99, 100, 101, 102]⟩
theorem hexS_at (d : UInt8) (h : d.toNat < 16) : hexS.data.toList[d.toNat]? = some (hexd d) := by
  have : ∀ n : Fin 16, hexS.data.toList[n.val]? = some (hexd (UInt8.ofNat n.val)) := by decide +kernel
  have h2 := this ⟨d.toNat, h⟩
  simpa using h2

theorem hexL_len : ∀ (l : List UInt8), (hexL l).length = 2 * l.length
  | [] => rfl
  | c :: l => by rw [hexL, List.length_cons, List.length_cons, hexL_len l, List.length_cons]; omega
theorem hexL_snoc : ∀ (l : List UInt8) (d : UInt8), hexL (l ++ [d]) = hexL l ++ [hexd (d / 16), hexd (d % 16)]
  | [], _ => rfl
  | c :: l, d => by rw [List.cons_append, hexL, hexL_snoc l d, hexL]; rfl

set_option maxRecDepth 20000 in
set_option maxHeartbeats 800000 in
theorem hex_any (A : Option Addr) (n c : Nat) (l : List UInt8) (w : World) (hm : n ≤ 70368744177000) (hr : Rd w (· < w.heap.size) A 1 n (l.map bv)) :
    Calls Tryd.prog 40 #[.slice A n c] w fun e w' => e = .returned (.string ⟨(hexL l).toArray⟩) ∧ Below w.heap.size w w' := by
  have hl := box hr.bytes_len
  have hb0 := Below.refl w.heap.size w
  have hB0 := Nat.le_refl w.heap.size
  go_enter Tryd.func40, Tryd.ntmps40
  go_wp2_with (first | (at_make; go_must (with_reducible refine lst (by with_unfolding_all rfl) (wp_makeB0 T_u8 hb0 hB0 (by with_unfolding_all exact ⟨_, _, _, _, rfl, rfl, rfl⟩) (n := (2*n)) (by omega) (by omega) ?_); intro v1 w1 hown1 hb1 hB1 hg1)))
  obtain ⟨W, rfl⟩ : ∃ W : World, W = w1 := ⟨_, rfl⟩
  go_loopw [3, 12] (fun v i wr => ∃ k : Nat, k ≤ n ∧ i = .int .i64 k ∧ OwnB wr w.heap.size 5 v (hexL (l.take k)) ∧ Below w.heap.size w wr ∧ w.heap.size ≤ wr.heap.size) (fun _ i _ => n - (intOf i).toNat)
  case atStart => exact ⟨0, by omega, rfl, hown1, hb1, hB1⟩
  case round =>
    clear hown1 hb1 hB1 hg1
    obtain ⟨k, hk, rfl, hown, hb, hB⟩ := hrel
    have hr' := hr.below hb
    have hroom : (hexL (l.take k)).length + 2 ≤ 140737488355328 := by rw [hexL_len, List.length_take]; omega
    by_cases hlt : k < n
    · obtain ⟨d, hd⟩ : ∃ d, l[k]? = some d := ⟨l[k]'(by have := hl.out; omega), by simp⟩
      replace hd := box hd
      have hd16 : (d / 16).toNat = d.toNat / 16 := by rw [UInt8.toNat_div]; rfl
      have hm16 : (d % 16).toNat = d.toNat % 16 := by rw [UInt8.toNat_mod]; rfl
      have dlt : d.toNat < 256 := d.toNat_lt
      have h15 : bits BinOp.and IntKind.u8 (d.toNat : Int) 15 = ((d.toNat % 16 : Nat) : Int) := by
        rw [show (15 : Int) = ((15 : Nat) : Int) from rfl, u8_and_nat _ _ (by omega) (by decide), nat_mask4]
      have hi1 := fun W => run_strIx (P := Tryd.prog) Tryd.underlying9 (hexS_at (d / 16) (by omega)) (i := (d.toNat : Int) / 16) (by omega) .u8 W
      have hi2 := fun W => run_strIx (P := Tryd.prog) Tryd.underlying9 (hexS_at (d % 16) (by omega)) (i := (d.toNat : Int) % 16) (by omega) .u8 W
      simp only [hexS] at hi1 hi2
      replace hd16 := box hd16
      replace hm16 := box hm16
      generalize hx : hexd (d / 16) = x at *
      generalize hy : hexd (d % 16) = y at *
      replace hx := box hx
      replace hy := box hy
      have xlt : x.toNat < 256 := x.toNat_lt
      have ylt : y.toNat < 256 := y.toNat_lt
      have hownd := hown.drew
      have hbd := hb.drew
      go_wp2_with (first | (with_reducible refine lst (by with_unfolding_all rfl) (wp_indexAddr T_u8 hr' (by with_unfolding_all exact ⟨_, _, _, _, rfl, rfl, rfl⟩) (by omega) (by omega) ?_)) | (with_reducible refine lst (by with_unfolding_all rfl) (wp_loadC hr' hd Tryd.underlying5 rfl (by with_unfolding_all exact ⟨_, rfl, rfl⟩) (by first | (simp; done) | (simp; omega) | omega) ?_)))
      go_region_law ((refine stp rfl (wp_appB2 T_u8 hownd hbd (by exact ⟨_, _, rfl, rfl, rfl⟩) hroom hB ?_ ?_ ?_); exact byte_of (by omega) (by omega); exact byte_of (by omega) (by omega); intro v' w1 c1 c2 hc1 hc2 hown1 hb1 hB1))
      all_goals
        go_wp2
        go_roundw
        have e1 := byte_eq hc1
        have e2 := byte_eq hc2
        subst e1 e2
        case rel => exact ⟨k + 1, by omega, by go_num, by rw [take_snoc hd.out, hexL_snoc, hx.out, hy.out]; exact hown1, hb1, hB1⟩
        case measure => simp [intOf]; omega
    · obtain ⟨A5, c5, rfl, _⟩ := hown.form
      have hr5 := hown.rd
      go_wp2_with (first | (with_reducible refine lst (by with_unfolding_all rfl) (wp_b2s T_u8 Tryd.underlying5 Tryd.underlying9 hr5 (by with_unfolding_all exact ⟨_, rfl, rfl⟩) ?_)))
      go_ret
      exact ⟨by rw [List.take_of_length_le (by have := hl.out; omega)]; rfl, hb⟩

theorem hexd_nat (x : UInt8) (h : x.toNat < 16) : (hexd x).toNat = if x.toNat < 10 then 48 + x.toNat else 87 + x.toNat := by
  have : ∀ n : Fin 16, (hexd (UInt8.ofNat n.val)).toNat = if n.val < 10 then 48 + n.val else 87 + n.val := by decide +kernel
  have h2 := this ⟨x.toNat, h⟩
  simpa using h2

def two (d : UInt8) : List UInt8 := [hexd (d / 16), hexd (d % 16)]

set_option maxRecDepth 20000 in
set_option maxHeartbeats 800000 in
theorem rhex_any (A : Option Addr) (n c : Nat) (l : List UInt8) (w : World) (hm : n ≤ 70368744177000) (hr : Rd w (· < w.heap.size) A 1 n (l.map bv)) :
    Calls Tryd.prog 41 #[.slice A n c] w fun e w' => e = .returned (.string ⟨(hexL l).toArray⟩) ∧ Below w.heap.size w w' := by
  have hl := box hr.bytes_len
  go_enter Tryd.func41, Tryd.ntmps41
  go_wp2
  go_loopw [3, 4] (fun v i wr => ∃ k : Nat, k ≤ n ∧ i = .int .i64 k ∧ OwnB wr w.heap.size 5 v (hexL (l.take k)) ∧ Below w.heap.size w wr ∧ w.heap.size ≤ wr.heap.size) (fun _ i _ => n - (intOf i).toNat)
  case atStart => exact ⟨0, by omega, rfl, OwnB.nil _ _ _, Below.refl _ _, Nat.le_refl _⟩
  case round =>
    obtain ⟨k, hk, rfl, hown, hb, hB⟩ := hrel
    by_cases hlt : k < n
    · obtain ⟨d, hd⟩ : ∃ d, l[k]? = some d := ⟨l[k]'(by have := hl.out; omega), by simp⟩
      replace hd := box hd
      obtain ⟨wo, rfl⟩ : ∃ wo : World, wo = wr := ⟨_, rfl⟩
      go_wp2
      go_loopw [3, 5, 6] (fun v j q wr => ∃ m : Nat, m ≤ 2 ∧ j = .int .i64 m ∧ OwnB wr w.heap.size 5 v (hexL (l.take k) ++ (two d).take m) ∧ Below w.heap.size w wr ∧ w.heap.size ≤ wr.heap.size) (fun _ j _ _ => 2 - (intOf j).toNat)
      case atStart => exact ⟨0, by omega, rfl, by rw [List.take_zero, List.append_nil]; exact hown, hb, hB⟩
      case round =>
        clear hown hb hB
        obtain ⟨m, hm2, rfl, hown, hb, hB⟩ := hrel
        have hr' := hr.below hb
        have hroom : (hexL (l.take k) ++ (two d).take m).length + 1 ≤ 140737488355328 := by
          rw [List.length_append, hexL_len, List.length_take, List.length_take]; omega
        have dlt : d.toNat < 256 := d.toNat_lt
        have hd16 : (d / 16).toNat = d.toNat / 16 := by rw [UInt8.toNat_div]; rfl
        have hm16 : (d % 16).toNat = d.toNat % 16 := by rw [UInt8.toNat_mod]; rfl
        have hx := hexd_nat (d / 16) (by omega)
        have hy := hexd_nat (d % 16) (by omega)
        rw [hd16] at hx
        rw [hm16] at hy
        replace hx := box hx
        replace hy := box hy
        clear hd16 hm16
        by_cases h0 : m = 0
        · subst h0
          by_cases h10 : d.toNat / 16 < 10
          all_goals
            go_wp2_with (first | (at_builtin; go_must (with_reducible refine lst (by with_unfolding_all rfl) (wp_appB1 T_u8 hown hb (by with_unfolding_all exact ⟨_, _, rfl, rfl, rfl⟩) hroom hB ?_ ?_); exact byte_of (by omega) (by omega); intro v' w1 c hc hown1 hb1 hB1)) | (with_reducible refine lst (by with_unfolding_all rfl) (wp_indexAddr T_u8 hr' (by with_unfolding_all exact ⟨_, _, _, _, rfl, rfl, rfl⟩) (by omega) (by omega) ?_)) | (with_reducible refine lst (by with_unfolding_all rfl) (wp_loadC hr' hd Tryd.underlying5 rfl (by with_unfolding_all exact ⟨_, rfl, rfl⟩) (by first | (simp; done) | (simp; omega) | omega) ?_)))
            go_roundw
            have e : c = hexd (d / 16) := UInt8.toNat_inj.1 (by have h1 := hx.out; have h2 := hc.out; split at h1 <;> omega)
            case rel => exact ⟨1, by omega, by go_num, by rw [two, List.take_succ_cons, List.take_zero, ← e]; simpa using hown1, hb1, hB1⟩
            case measure => simp [intOf]
        · by_cases h1 : m = 1
          · subst h1
            by_cases h10 : d.toNat % 16 < 10
            all_goals
              go_wp2_with (first | (at_builtin; go_must (with_reducible refine lst (by with_unfolding_all rfl) (wp_appB1 T_u8 hown hb (by with_unfolding_all exact ⟨_, _, rfl, rfl, rfl⟩) hroom hB ?_ ?_); exact byte_of (by omega) (by omega); intro v' w1 c hc hown1 hb1 hB1)) | (with_reducible refine lst (by with_unfolding_all rfl) (wp_indexAddr T_u8 hr' (by with_unfolding_all exact ⟨_, _, _, _, rfl, rfl, rfl⟩) (by omega) (by omega) ?_)) | (with_reducible refine lst (by with_unfolding_all rfl) (wp_loadC hr' hd Tryd.underlying5 rfl (by with_unfolding_all exact ⟨_, rfl, rfl⟩) (by first | (simp; done) | (simp; omega) | omega) ?_)))
              go_roundw
              have e : c = hexd (d % 16) := UInt8.toNat_inj.1 (by have h1 := hy.out; have h2 := hc.out; split at h1 <;> omega)
              case rel => exact ⟨2, by omega, by go_num, by rw [e, two, List.append_assoc] at hown1; exact hown1, hb1, hB1⟩
              case measure => simp [intOf]
          · obtain rfl : m = 2 := by omega
            go_wp2
            go_roundw
            case rel => exact ⟨k + 1, by omega, by go_num, by rw [take_snoc hd.out, hexL_snoc]; exact hown, hb, hB⟩
            case measure => simp [intOf]; omega
    · obtain ⟨A5, c5, rfl, _⟩ := hown.form
      have hr5 := hown.rd
      go_wp2_with (first | (with_reducible refine lst (by with_unfolding_all rfl) (wp_b2s T_u8 Tryd.underlying5 Tryd.underlying9 hr5 (by with_unfolding_all exact ⟨_, rfl, rfl⟩) ?_)))
      go_ret
      exact ⟨by rw [List.take_of_length_le (by have := hl.out; omega)]; rfl, hb⟩
end Go.Proofs.YtgcoebndhnijgaaDoor
