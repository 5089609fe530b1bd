/-
  Layer 19: the walks of the document's reader.
-/
import Derived.Test.YtcnjnkkdidpjiaaW1
import Derived.Test.YtcnjnkkdidpjiaaWRd
import Derived.Test.YtcnjnkkdidpjiaaRdtP
import Derived.Test.YtcnjnkkdidpjiaaReadTextF
import Derived.Deep.RegionHeld3
namespace Go.Proofs.Ytcnjnkkdidpjiaa
open Go.RowKit

set_option maxRecDepth 20000 in
set_option maxHeartbeats 800000 in
theorem inCount_any (g : Nat) (A : Option Addr) (n c : Nat) (l : List UInt8) (s : Option (List UInt8)) (cs : List Value) (w : World) (hh : w.heap[g]? = some (.cells cs.toArray 78 (0, 0))) (hI : InAt A n c l s cs) (hr : Rd w (· < w.heap.size) A 1 n (l.map bv)) (hn : n ≤ 140737488355000) (hnc : n ≤ c) :
    Calls Try.prog 36 #[.pointer (some ⟨g, 0, none⟩)] w (Left w 78 g (.int .i64 (rCount s).1) (InAt A n c l (rCount s).2)) := by
  obtain ⟨q, rfl, hq⟩ := hI.ex
  have hF := Fr.one hh
  rcases hq with ⟨rfl, hs⟩ | ⟨k, hk, rfl, hs⟩
  · obtain rfl : s = none := hs.out
    go_enter Try.func36, Try.ntmps36
    go_wp2_with (first | (with_reducible refine lst (by with_unfolding_all rfl) (wp_fld0 hF Try.underlying3 rfl (by with_unfolding_all exact ⟨_, rfl, rfl⟩) (by first | with_unfolding_all rfl | assumption) ?_)))
    go_ret
    exact ⟨_, rfl, hF.grown, hF.heap0, ⟨-1, rfl, .inl ⟨rfl, box rfl⟩⟩⟩
  · obtain rfl : s = some (l.drop k) := hs.out
    have hl := hr.bytes_len
    have hld : (l.drop k).length = n - k := by rw [List.length_drop]; omega
    have hrd : rCount (some (l.drop k)) = if (rdc 0 0 (l.drop k)).2.2 ≠ 0 ∨ 1099511627776 < (rdc 0 0 (l.drop k)).1 then (0, none) else ((rdc 0 0 (l.drop k)).1, some ((l.drop k).drop (rdc 0 0 (l.drop k)).2.1)) := rfl
    rw [List.drop_drop] at hrd
    have hrk := hr.ifB (k := k) (j := n - k) (c := c) (by omega) hnc
    rw [List.take_of_length_le (by omega)] at hrk
    have hrc := box (rreadCount_any _ _ (c - k) _ _ (by omega) hrk.drew)
    have h64 := box (rdc_lt (l.drop k))
    have herr := rdc_err (l.drop k) 0 0
    have hu := rdc_used (l.drop k) 0 0
    rw [hld] at hu
    generalize (rdc 0 0 (l.drop k)).1 = x at *
    generalize (rdc 0 0 (l.drop k)).2.1 = u at *
    generalize (rdc 0 0 (l.drop k)).2.2 = er at *
    have herr' : er ≤ 10 := by omega
    clear herr hld hrk
    have c0 := hF.drew.cell0 (off := 0) rfl
    have c1 := hF.drew.cell0 (off := 1) rfl
    have hne : er ≠ 0 → ((er : Int) != 0) = true := fun h => by simp; omega
    obtain ⟨ck, hck⟩ : ∃ p : Prop, (c = k) = p ∧ (p = True ∨ p = False) := by
      by_cases h : c = k
      · exact ⟨True, eq_true h, .inl rfl⟩
      · exact ⟨False, eq_false h, .inr rfl⟩
    rcases hck.2 with rfl | rfl
    all_goals
      replace hck := hck.1
      simp only [hck, if_true, if_false] at hrc
      by_cases h0 : er = 0
      · subst h0
        have hun : k + u ≤ n := by have := hu rfl; omega
        clear hu hne
        by_cases hx : 1099511627776 < x
        · rw [if_pos (.inr hx)] at hrd
          rw [hrd]
          clear hrd
          go_enter Try.func36, Try.ntmps36
          go_wp2_with (first | (with_reducible refine lst (by with_unfolding_all rfl) (wp_fld0 hF Try.underlying3 rfl (by with_unfolding_all exact ⟨_, rfl, rfl⟩) (by first | with_unfolding_all rfl | assumption) ?_)))
          go_region_held3 (fun w' => w'.cell? ⟨g, 0, none⟩ = some (.slice A n c) ∧ w'.cell? ⟨g, 1, none⟩ = some (.int .i64 (k : Int))) (go_keep)
            (first | (go_at_call 41; refine hrc.out.mono ?_; rintro e w1 ⟨rfl, rfl⟩))
          have hFd := hF.drew
          go_wp2_with (first | (with_reducible refine lst (by with_unfolding_all rfl) (wp_fld0 hFd Try.underlying3 rfl (by with_unfolding_all exact ⟨_, rfl, rfl⟩) (by first | with_unfolding_all rfl | assumption) ?_)) | ((with_reducible refine lst (by with_unfolding_all rfl) (wp_fst0 hFd (by with_unfolding_all exact ⟨_, _, rfl, rfl, rfl⟩) (by kernel_rfl) rfl rfl (by first | decide | (simp; done) | (simp; omega)) rfl ?_)); intro w1 hF1 hz1))
          go_ret
          exact ⟨_, rfl, hF1.grown, hF1.heap0, ⟨-1, rfl, .inl ⟨rfl, box rfl⟩⟩⟩
        · rw [if_neg (by omega)] at hrd
          rw [hrd]
          clear hrd
          go_enter Try.func36, Try.ntmps36
          go_wp2_with (first | (with_reducible refine lst (by with_unfolding_all rfl) (wp_fld0 hF Try.underlying3 rfl (by with_unfolding_all exact ⟨_, rfl, rfl⟩) (by first | with_unfolding_all rfl | assumption) ?_)))
          go_region_held3 (fun w' => w'.cell? ⟨g, 0, none⟩ = some (.slice A n c) ∧ w'.cell? ⟨g, 1, none⟩ = some (.int .i64 (k : Int))) (go_keep)
            (first | (go_at_call 41; refine hrc.out.mono ?_; rintro e w1 ⟨rfl, rfl⟩))
          have hFd := hF.drew
          go_wp2_with (first | (with_reducible refine lst (by with_unfolding_all rfl) (wp_fld0 hFd Try.underlying3 rfl (by with_unfolding_all exact ⟨_, rfl, rfl⟩) (by first | with_unfolding_all rfl | assumption) ?_)) | ((with_reducible refine lst (by with_unfolding_all rfl) (wp_fst0 hFd (by with_unfolding_all exact ⟨_, _, rfl, rfl, rfl⟩) (by kernel_rfl) rfl rfl (by first | decide | (simp; done) | (simp; omega)) rfl ?_)); intro w1 hF1 hz1))
          go_ret
          exact ⟨_, ret1 (int_eq (by omega)), hF1.grown, hF1.heap0, ⟨_, rfl, .inr ⟨k + u, hun, by omega, box rfl⟩⟩⟩
      · have hne' := hne h0
        rw [if_pos (.inl h0)] at hrd
        rw [hrd]
        clear hrd hu hne
        go_enter Try.func36, Try.ntmps36
        go_wp2_with (first | (with_reducible refine lst (by with_unfolding_all rfl) (wp_fld0 hF Try.underlying3 rfl (by with_unfolding_all exact ⟨_, rfl, rfl⟩) (by first | with_unfolding_all rfl | assumption) ?_)))
        go_region_held3 (fun w' => w'.cell? ⟨g, 0, none⟩ = some (.slice A n c) ∧ w'.cell? ⟨g, 1, none⟩ = some (.int .i64 (k : Int))) (go_keep)
          (first | (go_at_call 41; refine hrc.out.mono ?_; rintro e w1 ⟨rfl, rfl⟩))
        have hFd := hF.drew
        go_wp2_with (first | (with_reducible refine lst (by with_unfolding_all rfl) (wp_fld0 hFd Try.underlying3 rfl (by with_unfolding_all exact ⟨_, rfl, rfl⟩) (by first | with_unfolding_all rfl | assumption) ?_)) | ((with_reducible refine lst (by with_unfolding_all rfl) (wp_fst0 hFd (by with_unfolding_all exact ⟨_, _, rfl, rfl, rfl⟩) (by kernel_rfl) rfl rfl (by first | decide | (simp; done) | (simp; omega)) rfl ?_)); intro w1 hF1 hz1))
        go_ret
        exact ⟨_, rfl, hF1.grown, hF1.heap0, ⟨-1, rfl, .inl ⟨rfl, box rfl⟩⟩⟩
end Go.Proofs.Ytcnjnkkdidpjiaa
