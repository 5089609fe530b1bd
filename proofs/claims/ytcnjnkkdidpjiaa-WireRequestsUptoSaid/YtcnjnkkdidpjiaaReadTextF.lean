/-
  The walk of the document's ReadText.
-/
import Derived.Test.YtcnjnkkdidpjiaaReadCountF
namespace Go.Proofs.Ytcnjnkkdidpjiaa
open Go.RowKit

set_option maxRecDepth 20000 in
set_option maxHeartbeats 800000 in
theorem rreadText_any (A : Option Addr) (n c : Nat) (l : List UInt8) (most : Int) (w : World) (hm : n ≤ 140737488355000) (hmo : most ≤ 9223372036854775807) (hr : Rd w (· < w.heap.size) A 1 n (l.map bv)) :
    Calls Try.prog 40 #[.slice A n c, .int .i64 most] w fun e w' => ∃ v, e = .returned (.tuple #[v, .int .i64 (rdt l most).2.1, .int .i64 (rdt l most).2.2]) ∧ OwnB w' w.heap.size 5 v (rdt l most).1 ∧ Below w.heap.size w w' := by
  have hrc := box (rreadCount_any A n c l w (by omega) hr)
  have hl := box hr.bytes_len
  have hway := rdt_way hr.bytes_len most
  have h64 := box (rdc_lt l)
  have herr := rdc_err l 0 0
  generalize (rdc 0 0 l).1 = x at *
  generalize (rdc 0 0 l).2.1 = u at *
  generalize (rdc 0 0 l).2.2 = er at *
  generalize rdt l most = r at *
  have herr' : er ≤ 10 := by omega
  clear herr
  rcases hway.way with ⟨h0, rfl⟩ | ⟨rfl, hu, ⟨h1, rfl⟩ | ⟨h1, ⟨h2, rfl⟩ | ⟨h2, rfl⟩⟩⟩
  · clear hway
    have hne : ((er : Int) != 0) = true := by simp; omega
    go_enter Try.func40, Try.ntmps40
    go_wp2_with fail
    refine hrc.out.mono ?_
    rintro e w1 ⟨rfl, rfl⟩
    go_wp2
    go_ret3
    exact ⟨_, rfl, OwnB.nil _ _ _, Below.refl _ _⟩
  · clear hway
    by_cases hmn : most < 0
    all_goals
      go_enter Try.func40, Try.ntmps40
      go_wp2_with fail
      refine hrc.out.mono ?_
      rintro e w1 ⟨rfl, rfl⟩
      go_wp2
      go_ret3
      exact ⟨_, rfl, OwnB.nil _ _ _, Below.refl _ _⟩
  · clear hway
    have hmn : ¬ most < 0 := by omega
    go_enter Try.func40, Try.ntmps40
    go_wp2_with fail
    refine hrc.out.mono ?_
    rintro e w1 ⟨rfl, rfl⟩
    go_wp2
    go_ret3
    exact ⟨_, rfl, OwnB.nil _ _ _, Below.refl _ _⟩
  · clear hway
    have hmn : ¬ most < 0 := by omega
    go_enter Try.func40, Try.ntmps40
    go_wp2_with fail
    refine hrc.out.mono ?_
    rintro e w1 ⟨rfl, rfl⟩
    go_wp2
    go_loopw [10, 11] (fun v i wr => ∃ k : Nat, k ≤ x ∧ i = .int .i64 k ∧ OwnB wr w.heap.size 5 v ((l.drop u).take k) ∧ Below w.heap.size w wr ∧ w.heap.size ≤ wr.heap.size) (fun _ i _ => x - (intOf i).toNat)
    case atStart => exact ⟨0, by omega, rfl, OwnB.nil _ _ _, Below.refl _ _, Nat.le_refl _⟩
    case round =>
      obtain ⟨k, hk, rfl, hown, hb, hB⟩ := hrel
      have hr' := hr.below hb
      have hroom : ((l.drop u).take k).length + 1 ≤ 140737488355328 := by rw [List.length_take]; omega
      by_cases hlt : k < x
      · obtain ⟨d, hd⟩ : ∃ d, l[u + k]? = some d := ⟨l[u + k]'(by have := hl.out; omega), by simp⟩
        have hd2 : (l.drop u)[k]? = some d := by rw [List.getElem?_drop]; exact hd
        have dlt : d.toNat < 256 := d.toNat_lt
        replace hd := box hd
        replace hd2 := box hd2
        go_wp2_with (first | (at_builtin; go_must (with_reducible refine lst (by with_unfolding_all rfl) (wp_appB1 T_u8 hown hb (by with_unfolding_all exact ⟨_, _, rfl, rfl, rfl⟩) hroom hB ?_ ?_); exact byte_of (by omega) (by omega); intro v' w1 c hc hown1 hb1 hB1)) | (with_reducible refine lst (by with_unfolding_all rfl) (wp_indexAddr T_u8 hr' (by with_unfolding_all exact ⟨_, _, _, _, rfl, rfl, rfl⟩) (by omega) (by omega) ?_)) | (with_reducible refine lst (by with_unfolding_all rfl) (wp_loadC hr' hd Try.underlying5 rfl (by with_unfolding_all exact ⟨_, rfl, rfl⟩) (by first | (simp; done) | (simp; omega) | omega) ?_)))
        go_roundw
        have hcd := byte_eq hc
        subst hcd
        case rel => exact ⟨k + 1, by omega, by go_num, by rw [take_snoc hd2.out]; exact hown1, hb1, hB1⟩
        case measure => simp [intOf]; omega
      · go_wp2
        go_ret3
        obtain rfl : k = x := by omega
        exact ⟨_, ret3 rfl (int_eq (by simp)) rfl, hown, hb⟩
end Go.Proofs.Ytcnjnkkdidpjiaa
