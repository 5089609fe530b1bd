/-
  Layer 19: the walk of the document's reader: texts.
-/
import Derived.Test.YtcnjnkkdidpjiaaW1
import Derived.Test.YtcnjnkkdidpjiaaWRd
import Derived.Test.YtcnjnkkdidpjiaaRdtP
import Derived.Test.YtcnjnkkdidpjiaaReadTextF
import Derived.Test.YtcnjnkkdidpjiaaW5
namespace Go.Proofs.Ytcnjnkkdidpjiaa
open Go.RowKit

set_option maxRecDepth 20000 in
set_option maxHeartbeats 800000 in
theorem inText_any (g : Nat) (A : Option Addr) (n c : Nat) (l : List UInt8) (s : Option (List UInt8)) (cs : List Value) (most : Int) (w : World) (hh : w.heap[g]? = some (.cells cs.toArray 78 (0, 0))) (hI : InAt A n c l s cs) (hr : Rd w (· < w.heap.size) A 1 n (l.map bv)) (hn : n ≤ 140737488355000) (hnc : n ≤ c) (hmo : most ≤ 9223372036854775807) :
    Calls Try.prog 34 #[.pointer (some ⟨g, 0, none⟩), .int .i64 most] w (LeftB w 78 g 5 (rText most s).1 (InAt A n c l (rText most s).2)) := by
  obtain ⟨q, rfl, hq⟩ := hI.ex
  have hF := Fr.one hh
  rcases hq with ⟨rfl, hs⟩ | ⟨k, hk, rfl, hs⟩
  · obtain rfl : s = none := hs.out
    go_enter Try.func34, Try.ntmps34
    go_wp2_with (first | (with_reducible refine lst (by with_unfolding_all rfl) (wp_fld0 hF Try.underlying3 rfl (by with_unfolding_all exact ⟨_, rfl, rfl⟩) (by first | with_unfolding_all rfl | assumption) ?_)))
    go_ret
    exact ⟨_, _, rfl, OwnB.nil _ _ _, hF.grown, hF.heap0, ⟨-1, rfl, .inl ⟨rfl, box rfl⟩⟩⟩
  · obtain rfl : s = some (l.drop k) := hs.out
    have hl := hr.bytes_len
    have hld : (l.drop k).length = n - k := by rw [List.length_drop]; omega
    have hrd : rText most (some (l.drop k)) = if (rdt (l.drop k) most).2.2 ≠ 0 then ([], none) else ((rdt (l.drop k) most).1, some ((l.drop k).drop (rdt (l.drop k) most).2.1)) := rfl
    rw [List.drop_drop] at hrd
    have hrk := hr.ifB (k := k) (j := n - k) (c := c) (by omega) hnc
    rw [List.take_of_length_le (by omega)] at hrk
    have hrc := box (rreadText_any _ _ (c - k) _ most _ (by omega) hmo hrk.drew)
    have herr := rdt_err (l.drop k) most
    have hu := rdt_snd (l.drop k) most
    rw [hld] at hu
    generalize rdt (l.drop k) most = r at *
    obtain ⟨x, u, er⟩ := r
    simp only [] at hrd herr hu hrc
    clear hld hrk
    have c0 := hF.drew.cell0 (off := 0) rfl
    have c1 := hF.drew.cell0 (off := 1) rfl
    have hne : er ≠ 0 → ((er : Int) != 0) = true := fun h => by simp; omega
    obtain ⟨ck, hck⟩ : ∃ p : Prop, (c = k) = p ∧ (p = True ∨ p = False) := by
      by_cases h : c = k
      · exact ⟨True, eq_true h, .inl rfl⟩
      · exact ⟨False, eq_false h, .inr rfl⟩
    rcases hck.2 with rfl | rfl
    all_goals
      replace hck := hck.1
      simp only [hck, if_true, if_false] at hrc
      by_cases h0 : er = 0
      · subst h0
        clear hne
        rw [if_neg (by omega)] at hrd
        rw [hrd]
        clear hrd
        go_enter Try.func34, Try.ntmps34
        go_wp2_with (first | (with_reducible refine lst (by with_unfolding_all rfl) (wp_fld0 hF Try.underlying3 rfl (by with_unfolding_all exact ⟨_, rfl, rfl⟩) (by first | with_unfolding_all rfl | assumption) ?_)))
        go_region_held3 (fun w' => w'.cell? ⟨g, 0, none⟩ = some (.slice A n c) ∧ w'.cell? ⟨g, 1, none⟩ = some (.int .i64 (k : Int))) (first | exact ⟨hF.drew.cell0 rfl, hF.drew.cell0 rfl⟩ | exact ⟨hF2.cell1 rfl, hF2.cell1 rfl⟩)
          (first | (go_at_call 40; refine hrc.out.mono ?_; rintro e w1 ⟨v1, rfl, hown1, hb1⟩; have hF2 := hF.drew.gotB hb1 hown1))
        go_wp2_with (first | (with_reducible refine lst (by with_unfolding_all rfl) (wp_fld1 hF2 Try.underlying3 rfl (by with_unfolding_all exact ⟨_, rfl, rfl⟩) (by first | with_unfolding_all rfl | assumption) ?_)) | ((with_reducible refine lst (by with_unfolding_all rfl) (wp_fst1 hF2 (by with_unfolding_all exact ⟨_, _, rfl, rfl, rfl⟩) (by kernel_rfl) rfl rfl (by first | decide | (simp; done) | (simp; omega)) rfl ?_)); intro w3 hF3 hz3))
        go_ret
        exact ⟨_, _, rfl, hF3.bytes0, hF3.tail.grown, hF3.heap1, ⟨_, rfl, .inr ⟨k + u, by omega, by omega, box rfl⟩⟩⟩
      · have hne' := hne h0
        rw [if_pos h0] at hrd
        rw [hrd]
        clear hrd hu hne
        go_enter Try.func34, Try.ntmps34
        go_wp2_with (first | (with_reducible refine lst (by with_unfolding_all rfl) (wp_fld0 hF Try.underlying3 rfl (by with_unfolding_all exact ⟨_, rfl, rfl⟩) (by first | with_unfolding_all rfl | assumption) ?_)))
        go_region_held3 (fun w' => w'.cell? ⟨g, 0, none⟩ = some (.slice A n c) ∧ w'.cell? ⟨g, 1, none⟩ = some (.int .i64 (k : Int))) (first | exact ⟨hF.drew.cell0 rfl, hF.drew.cell0 rfl⟩ | exact ⟨hF2.cell0 rfl, hF2.cell0 rfl⟩)
          (first | (go_at_call 40; refine hrc.out.mono ?_; rintro e w1 ⟨v1, rfl, hown1, hb1⟩; have hF2 := hF.drew.call hb1))
        go_wp2_with (first | (with_reducible refine lst (by with_unfolding_all rfl) (wp_fld0 hF2 Try.underlying3 rfl (by with_unfolding_all exact ⟨_, rfl, rfl⟩) (by first | with_unfolding_all rfl | assumption) ?_)) | ((with_reducible refine lst (by with_unfolding_all rfl) (wp_fst0 hF2 (by with_unfolding_all exact ⟨_, _, rfl, rfl, rfl⟩) (by kernel_rfl) rfl rfl (by first | decide | (simp; done) | (simp; omega)) rfl ?_)); intro w3 hF3 hz3))
        go_ret
        exact ⟨_, _, rfl, OwnB.nil _ _ _, hF3.grown, hF3.heap0, ⟨-1, rfl, .inl ⟨rfl, box rfl⟩⟩⟩
end Go.Proofs.Ytcnjnkkdidpjiaa
