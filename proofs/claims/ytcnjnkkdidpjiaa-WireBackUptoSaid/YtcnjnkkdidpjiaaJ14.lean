/-
  The walk of the document's ReadCount.
  The walk of the document's ReadText.
  Layer 19: the walks of the document's reader.
  Layer 19: the walk of the document's reader: texts.
-/
import Derived.Test.YtcnjnkkdidpjiaaJ02
import Derived.Test.YtcnjnkkdidpjiaaJ06
import Derived.Test.YtcnjnkkdidpjiaaJ07
import Derived.Deep.RegionHeld3
namespace Go.Proofs.Ytcnjnkkdidpjiaa
open Go.RowKit

set_option maxRecDepth 20000 in
set_option maxHeartbeats 800000 in
theorem rreadCount_any (A : Option Addr) (n c : Nat) (l : List UInt8) (w : World) (hm : n ≤ 9223372036854775807) (hr : Rd w (· < w.heap.size) A 1 n (l.map bv)) :
    Calls Try.prog 41 #[.slice A n c] w fun e w' => e = .returned (.tuple #[.int .u64 (rdc 0 0 l).1, .int .i64 (rdc 0 0 l).2.1, .int .i64 (rdc 0 0 l).2.2]) ∧ w = w' := by
  have hl := box hr.bytes_len
  go_enter Try.func41, Try.ntmps41
  go_wp2
  go_loop [5, 6] (fun x i => ∃ k C : Nat, k ≤ 9 ∧ k ≤ n ∧ Box (RdcAt l k C) ∧ i = .int .i64 k ∧ x = .int .u64 (C : Nat)) (fun _ i => n - (intOf i).toNat)
  case atStart => exact ⟨0, 0, by omega, by omega, box ⟨by omega, by simp, by simp⟩, rfl, rfl⟩
  case round =>
    obtain ⟨k, C, hk9, hk, HR, rfl, rfl⟩ := hrel
    by_cases hlt : k < n
    · obtain ⟨d, hd⟩ : ∃ d, l[k]? = some d := ⟨l[k]'(by have := hl.out; omega), by simp⟩
      have hs := rdc_step HR.out hd
      replace hd := box hd
      have dlt : d.toNat < 256 := d.toNat_lt
      have hz : ((d.toNat : Int) == 0) = true ∧ Box (d.toNat = 0) ∨ ((d.toNat : Int) == 0) = false ∧ Box (d.toNat ≠ 0) := by
        by_cases h0 : d.toNat = 0
        · exact .inl ⟨by simp [h0], box h0⟩
        · exact .inr ⟨by simp; omega, box h0⟩
      have h9 : ((k : Int) == 9) = true ∧ Box (k = 9) ∨ ((k : Int) == 9) = false ∧ Box (k ≠ 9) := by
        by_cases h0 : k = 9
        · exact .inl ⟨by simp; omega, box h0⟩
        · exact .inr ⟨by simp; omega, box h0⟩
      by_cases hA : (k = 9 ∧ 1 < d.toNat) ∨ (0 < k ∧ d.toNat = 0)
      · rw [if_pos hA] at hs
        replace hs := box hs
        replace hA := box hA
        rcases hz with ⟨hz, hz'⟩ | ⟨hz, hz'⟩ <;> rcases h9 with ⟨h9, h9'⟩ | ⟨h9, h9'⟩
        · have hk0 : 0 < (k : Int) := by have := h9'.out; omega
          have h1 : ¬ 1 < (d.toNat : Int) := by have := hz'.out; omega
          go_wp2_with (first | (with_reducible refine lst (by with_unfolding_all rfl) (wp_indexAddr T_u8 hr (by with_unfolding_all exact ⟨_, _, _, _, rfl, rfl, rfl⟩) (by omega) (by omega) ?_)) | (with_reducible refine lst (by with_unfolding_all rfl) (wp_loadC hr hd Try.underlying5 rfl (by with_unfolding_all exact ⟨_, rfl, rfl⟩) (by first | (simp; done) | (simp; omega) | omega) ?_)))
          go_ret3
          exact ⟨by rw [hs.out]; rfl, rfl⟩
        · have hk0 : 0 < (k : Int) := by
            rcases hA.out with h | h
            · exact absurd h.1 h9'.out
            · omega
          go_wp2_with (first | (with_reducible refine lst (by with_unfolding_all rfl) (wp_indexAddr T_u8 hr (by with_unfolding_all exact ⟨_, _, _, _, rfl, rfl, rfl⟩) (by omega) (by omega) ?_)) | (with_reducible refine lst (by with_unfolding_all rfl) (wp_loadC hr hd Try.underlying5 rfl (by with_unfolding_all exact ⟨_, rfl, rfl⟩) (by first | (simp; done) | (simp; omega) | omega) ?_)))
          go_ret3
          exact ⟨by rw [hs.out]; rfl, rfl⟩
        · have h1 : 1 < (d.toNat : Int) := by
            rcases hA.out with h | h
            · omega
            · exact absurd h.2 hz'.out
          go_wp2_with (first | (with_reducible refine lst (by with_unfolding_all rfl) (wp_indexAddr T_u8 hr (by with_unfolding_all exact ⟨_, _, _, _, rfl, rfl, rfl⟩) (by omega) (by omega) ?_)) | (with_reducible refine lst (by with_unfolding_all rfl) (wp_loadC hr hd Try.underlying5 rfl (by with_unfolding_all exact ⟨_, rfl, rfl⟩) (by first | (simp; done) | (simp; omega) | omega) ?_)))
          go_ret3
          exact ⟨by rw [hs.out]; rfl, rfl⟩
        · exact absurd hA.out (fun h => h.elim (fun h => h9'.out h.1) (fun h => hz'.out h.2))
      · rw [if_neg hA] at hs
        obtain ⟨T, hT⟩ : ∃ T, T = d.toNat % 128 * 2 ^ (7 * k) := ⟨_, rfl⟩
        rw [← hT] at hs
        have hT1 := (rdc_shift d k T hk9 (fun h => by omega) hT).1
        have hO := rdc_add C T (rdc_sum HR.out.2.1 hk9 (fun h => by omega) hT)
        replace hT := box hT
        by_cases hd8 : d.toNat < 128
        · rw [if_pos hd8] at hs
          replace hs := box hs
          replace hA := box hA
          rcases hz with ⟨hz, hz'⟩ | ⟨hz, hz'⟩ <;> rcases h9 with ⟨h9, h9'⟩ | ⟨h9, h9'⟩
          · exact absurd (Or.inr ⟨by have := h9'.out; omega, hz'.out⟩) hA.out
          · have hk0 : ¬ 0 < (k : Int) := fun h => hA.out (.inr ⟨by omega, hz'.out⟩)
            go_wp2_with (first | (with_reducible refine lst (by with_unfolding_all rfl) (wp_indexAddr T_u8 hr (by with_unfolding_all exact ⟨_, _, _, _, rfl, rfl, rfl⟩) (by omega) (by omega) ?_)) | (with_reducible refine lst (by with_unfolding_all rfl) (wp_loadC hr hd Try.underlying5 rfl (by with_unfolding_all exact ⟨_, rfl, rfl⟩) (by first | (simp; done) | (simp; omega) | omega) ?_)))
            go_ret3
            exact ⟨by rw [hs.out]; rfl, rfl⟩
          · have h1 : ¬ 1 < (d.toNat : Int) := fun h => hA.out (.inl ⟨h9'.out, by omega⟩)
            go_wp2_with (first | (with_reducible refine lst (by with_unfolding_all rfl) (wp_indexAddr T_u8 hr (by with_unfolding_all exact ⟨_, _, _, _, rfl, rfl, rfl⟩) (by omega) (by omega) ?_)) | (with_reducible refine lst (by with_unfolding_all rfl) (wp_loadC hr hd Try.underlying5 rfl (by with_unfolding_all exact ⟨_, rfl, rfl⟩) (by first | (simp; done) | (simp; omega) | omega) ?_)))
            all_goals go_ret3
            all_goals exact ⟨by rw [hs.out]; rfl, rfl⟩
          · go_wp2_with (first | (with_reducible refine lst (by with_unfolding_all rfl) (wp_indexAddr T_u8 hr (by with_unfolding_all exact ⟨_, _, _, _, rfl, rfl, rfl⟩) (by omega) (by omega) ?_)) | (with_reducible refine lst (by with_unfolding_all rfl) (wp_loadC hr hd Try.underlying5 rfl (by with_unfolding_all exact ⟨_, rfl, rfl⟩) (by first | (simp; done) | (simp; omega) | omega) ?_)))
            all_goals go_ret3
            all_goals exact ⟨by rw [hs.out]; rfl, rfl⟩
        · rw [if_neg hd8] at hs
          have hkn : k + 1 ≤ 9 := by omega
          have h9 : ((k : Int) == 9) = false := by simp; omega
          have hz : ((d.toNat : Int) == 0) = false := by simp; omega
          replace hs : Box (RdcAt l (k + 1) (C + T)) := box ⟨hkn, rdc_next HR.out.2.1 hT.out, hs⟩
          replace hA := box hA
          go_wp2_with (first | (with_reducible refine lst (by with_unfolding_all rfl) (wp_indexAddr T_u8 hr (by with_unfolding_all exact ⟨_, _, _, _, rfl, rfl, rfl⟩) (by omega) (by omega) ?_)) | (with_reducible refine lst (by with_unfolding_all rfl) (wp_loadC hr hd Try.underlying5 rfl (by with_unfolding_all exact ⟨_, rfl, rfl⟩) (by first | (simp; done) | (simp; omega) | omega) ?_)))
          all_goals
            go_round
            case rel => exact ⟨k + 1, C + T, hkn, by omega, hs, by go_num, by go_num⟩
            case measure => simp [intOf]; omega
    · have hs := HR.out.2.2
      rw [List.drop_of_length_le (by have := hl.out; omega), rdc] at hs
      replace hs := box hs
      go_wp2
      go_ret3
      exact ⟨by rw [hs.out]; rfl, rfl⟩
end Go.Proofs.Ytcnjnkkdidpjiaa

namespace Go.Proofs.Ytcnjnkkdidpjiaa
open Go.RowKit

set_option maxRecDepth 20000 in
set_option maxHeartbeats 800000 in
theorem rreadText_any (A : Option Addr) (n c : Nat) (l : List UInt8) (most : Int) (w : World) (hm : n ≤ 140737488355000) (hmo : most ≤ 9223372036854775807) (hr : Rd w (· < w.heap.size) A 1 n (l.map bv)) :
    Calls Try.prog 40 #[.slice A n c, .int .i64 most] w fun e w' => ∃ v, e = .returned (.tuple #[v, .int .i64 (rdt l most).2.1, .int .i64 (rdt l most).2.2]) ∧ OwnB w' w.heap.size 5 v (rdt l most).1 ∧ Below w.heap.size w w' := by
  have hrc := box (rreadCount_any A n c l w (by omega) hr)
  have hl := box hr.bytes_len
  have hway := rdt_way hr.bytes_len most
  have h64 := box (rdc_lt l)
  have herr := rdc_err l 0 0
  generalize (rdc 0 0 l).1 = x at *
  generalize (rdc 0 0 l).2.1 = u at *
  generalize (rdc 0 0 l).2.2 = er at *
  generalize rdt l most = r at *
  have herr' : er ≤ 10 := by omega
  clear herr
  rcases hway.way with ⟨h0, rfl⟩ | ⟨rfl, hu, ⟨h1, rfl⟩ | ⟨h1, ⟨h2, rfl⟩ | ⟨h2, rfl⟩⟩⟩
  · clear hway
    have hne : ((er : Int) != 0) = true := by simp; omega
    go_enter Try.func40, Try.ntmps40
    go_wp2_with fail
    refine hrc.out.mono ?_
    rintro e w1 ⟨rfl, rfl⟩
    go_wp2
    go_ret3
    exact ⟨_, rfl, OwnB.nil _ _ _, Below.refl _ _⟩
  · clear hway
    by_cases hmn : most < 0
    all_goals
      go_enter Try.func40, Try.ntmps40
      go_wp2_with fail
      refine hrc.out.mono ?_
      rintro e w1 ⟨rfl, rfl⟩
      go_wp2
      go_ret3
      exact ⟨_, rfl, OwnB.nil _ _ _, Below.refl _ _⟩
  · clear hway
    have hmn : ¬ most < 0 := by omega
    go_enter Try.func40, Try.ntmps40
    go_wp2_with fail
    refine hrc.out.mono ?_
    rintro e w1 ⟨rfl, rfl⟩
    go_wp2
    go_ret3
    exact ⟨_, rfl, OwnB.nil _ _ _, Below.refl _ _⟩
  · clear hway
    have hmn : ¬ most < 0 := by omega
    go_enter Try.func40, Try.ntmps40
    go_wp2_with fail
    refine hrc.out.mono ?_
    rintro e w1 ⟨rfl, rfl⟩
    go_wp2
    go_loopw [10, 11] (fun v i wr => ∃ k : Nat, k ≤ x ∧ i = .int .i64 k ∧ OwnB wr w.heap.size 5 v ((l.drop u).take k) ∧ Below w.heap.size w wr ∧ w.heap.size ≤ wr.heap.size) (fun _ i _ => x - (intOf i).toNat)
    case atStart => exact ⟨0, by omega, rfl, OwnB.nil _ _ _, Below.refl _ _, Nat.le_refl _⟩
    case round =>
      obtain ⟨k, hk, rfl, hown, hb, hB⟩ := hrel
      have hr' := hr.below hb
      have hroom : ((l.drop u).take k).length + 1 ≤ 140737488355328 := by rw [List.length_take]; omega
      by_cases hlt : k < x
      · obtain ⟨d, hd⟩ : ∃ d, l[u + k]? = some d := ⟨l[u + k]'(by have := hl.out; omega), by simp⟩
        have hd2 : (l.drop u)[k]? = some d := by rw [List.getElem?_drop]; exact hd
        have dlt : d.toNat < 256 := d.toNat_lt
        replace hd := box hd
        replace hd2 := box hd2
        go_wp2_with (first | (at_builtin; go_must (with_reducible refine lst (by with_unfolding_all rfl) (wp_appB1 T_u8 hown hb (by with_unfolding_all exact ⟨_, _, rfl, rfl, rfl⟩) hroom hB ?_ ?_); exact byte_of (by omega) (by omega); intro v' w1 c hc hown1 hb1 hB1)) | (with_reducible refine lst (by with_unfolding_all rfl) (wp_indexAddr T_u8 hr' (by with_unfolding_all exact ⟨_, _, _, _, rfl, rfl, rfl⟩) (by omega) (by omega) ?_)) | (with_reducible refine lst (by with_unfolding_all rfl) (wp_loadC hr' hd Try.underlying5 rfl (by with_unfolding_all exact ⟨_, rfl, rfl⟩) (by first | (simp; done) | (simp; omega) | omega) ?_)))
        go_roundw
        have hcd := byte_eq hc
        subst hcd
        case rel => exact ⟨k + 1, by omega, by go_num, by rw [take_snoc hd2.out]; exact hown1, hb1, hB1⟩
        case measure => simp [intOf]; omega
      · go_wp2
        go_ret3
        obtain rfl : k = x := by omega
        exact ⟨_, ret3 rfl (int_eq (by simp)) rfl, hown, hb⟩
end Go.Proofs.Ytcnjnkkdidpjiaa

namespace Go.Proofs.Ytcnjnkkdidpjiaa
open Go.RowKit

set_option maxRecDepth 20000 in
set_option maxHeartbeats 800000 in
theorem inCount_any (g : Nat) (A : Option Addr) (n c : Nat) (l : List UInt8) (s : Option (List UInt8)) (cs : List Value) (w : World) (hh : w.heap[g]? = some (.cells cs.toArray 78 (0, 0))) (hI : InAt A n c l s cs) (hr : Rd w (· < w.heap.size) A 1 n (l.map bv)) (hn : n ≤ 140737488355000) (hnc : n ≤ c) :
    Calls Try.prog 36 #[.pointer (some ⟨g, 0, none⟩)] w (Left w 78 g (.int .i64 (rCount s).1) (InAt A n c l (rCount s).2)) := by
  obtain ⟨q, rfl, hq⟩ := hI.ex
  have hF := Fr.one hh
  rcases hq with ⟨rfl, hs⟩ | ⟨k, hk, rfl, hs⟩
  · obtain rfl : s = none := hs.out
    go_enter Try.func36, Try.ntmps36
    go_wp2_with (first | (with_reducible refine lst (by with_unfolding_all rfl) (wp_fld0 hF Try.underlying3 rfl (by with_unfolding_all exact ⟨_, rfl, rfl⟩) (by first | with_unfolding_all rfl | assumption) ?_)))
    go_ret
    exact ⟨_, rfl, hF.grown, hF.heap0, ⟨-1, rfl, .inl ⟨rfl, box rfl⟩⟩⟩
  · obtain rfl : s = some (l.drop k) := hs.out
    have hl := hr.bytes_len
    have hld : (l.drop k).length = n - k := by rw [List.length_drop]; omega
    have hrd : rCount (some (l.drop k)) = if (rdc 0 0 (l.drop k)).2.2 ≠ 0 ∨ 1099511627776 < (rdc 0 0 (l.drop k)).1 then (0, none) else ((rdc 0 0 (l.drop k)).1, some ((l.drop k).drop (rdc 0 0 (l.drop k)).2.1)) := rfl
    rw [List.drop_drop] at hrd
    have hrk := hr.ifB (k := k) (j := n - k) (c := c) (by omega) hnc
    rw [List.take_of_length_le (by omega)] at hrk
    have hrc := box (rreadCount_any _ _ (c - k) _ _ (by omega) hrk.drew)
    have h64 := box (rdc_lt (l.drop k))
    have herr := rdc_err (l.drop k) 0 0
    have hu := rdc_used (l.drop k) 0 0
    rw [hld] at hu
    generalize (rdc 0 0 (l.drop k)).1 = x at *
    generalize (rdc 0 0 (l.drop k)).2.1 = u at *
    generalize (rdc 0 0 (l.drop k)).2.2 = er at *
    have herr' : er ≤ 10 := by omega
    clear herr hld hrk
    have c0 := hF.drew.cell0 (off := 0) rfl
    have c1 := hF.drew.cell0 (off := 1) rfl
    have hne : er ≠ 0 → ((er : Int) != 0) = true := fun h => by simp; omega
    obtain ⟨ck, hck⟩ : ∃ p : Prop, (c = k) = p ∧ (p = True ∨ p = False) := by
      by_cases h : c = k
      · exact ⟨True, eq_true h, .inl rfl⟩
      · exact ⟨False, eq_false h, .inr rfl⟩
    rcases hck.2 with rfl | rfl
    all_goals
      replace hck := hck.1
      simp only [hck, if_true, if_false] at hrc
      by_cases h0 : er = 0
      · subst h0
        have hun : k + u ≤ n := by have := hu rfl; omega
        clear hu hne
        by_cases hx : 1099511627776 < x
        · rw [if_pos (.inr hx)] at hrd
          rw [hrd]
          clear hrd
          go_enter Try.func36, Try.ntmps36
          go_wp2_with (first | (with_reducible refine lst (by with_unfolding_all rfl) (wp_fld0 hF Try.underlying3 rfl (by with_unfolding_all exact ⟨_, rfl, rfl⟩) (by first | with_unfolding_all rfl | assumption) ?_)))
          go_region_held3 (fun w' => w'.cell? ⟨g, 0, none⟩ = some (.slice A n c) ∧ w'.cell? ⟨g, 1, none⟩ = some (.int .i64 (k : Int))) (go_keep)
            (first | (go_at_call 41; refine hrc.out.mono ?_; rintro e w1 ⟨rfl, rfl⟩))
          have hFd := hF.drew
          go_wp2_with (first | (with_reducible refine lst (by with_unfolding_all rfl) (wp_fld0 hFd Try.underlying3 rfl (by with_unfolding_all exact ⟨_, rfl, rfl⟩) (by first | with_unfolding_all rfl | assumption) ?_)) | ((with_reducible refine lst (by with_unfolding_all rfl) (wp_fst0 hFd (by with_unfolding_all exact ⟨_, _, rfl, rfl, rfl⟩) (by kernel_rfl) rfl rfl (by first | decide | (simp; done) | (simp; omega)) rfl ?_)); intro w1 hF1 hz1))
          go_ret
          exact ⟨_, rfl, hF1.grown, hF1.heap0, ⟨-1, rfl, .inl ⟨rfl, box rfl⟩⟩⟩
        · rw [if_neg (by omega)] at hrd
          rw [hrd]
          clear hrd
          go_enter Try.func36, Try.ntmps36
          go_wp2_with (first | (with_reducible refine lst (by with_unfolding_all rfl) (wp_fld0 hF Try.underlying3 rfl (by with_unfolding_all exact ⟨_, rfl, rfl⟩) (by first | with_unfolding_all rfl | assumption) ?_)))
          go_region_held3 (fun w' => w'.cell? ⟨g, 0, none⟩ = some (.slice A n c) ∧ w'.cell? ⟨g, 1, none⟩ = some (.int .i64 (k : Int))) (go_keep)
            (first | (go_at_call 41; refine hrc.out.mono ?_; rintro e w1 ⟨rfl, rfl⟩))
          have hFd := hF.drew
          go_wp2_with (first | (with_reducible refine lst (by with_unfolding_all rfl) (wp_fld0 hFd Try.underlying3 rfl (by with_unfolding_all exact ⟨_, rfl, rfl⟩) (by first | with_unfolding_all rfl | assumption) ?_)) | ((with_reducible refine lst (by with_unfolding_all rfl) (wp_fst0 hFd (by with_unfolding_all exact ⟨_, _, rfl, rfl, rfl⟩) (by kernel_rfl) rfl rfl (by first | decide | (simp; done) | (simp; omega)) rfl ?_)); intro w1 hF1 hz1))
          go_ret
          exact ⟨_, ret1 (int_eq (by omega)), hF1.grown, hF1.heap0, ⟨_, rfl, .inr ⟨k + u, hun, by omega, box rfl⟩⟩⟩
      · have hne' := hne h0
        rw [if_pos (.inl h0)] at hrd
        rw [hrd]
        clear hrd hu hne
        go_enter Try.func36, Try.ntmps36
        go_wp2_with (first | (with_reducible refine lst (by with_unfolding_all rfl) (wp_fld0 hF Try.underlying3 rfl (by with_unfolding_all exact ⟨_, rfl, rfl⟩) (by first | with_unfolding_all rfl | assumption) ?_)))
        go_region_held3 (fun w' => w'.cell? ⟨g, 0, none⟩ = some (.slice A n c) ∧ w'.cell? ⟨g, 1, none⟩ = some (.int .i64 (k : Int))) (go_keep)
          (first | (go_at_call 41; refine hrc.out.mono ?_; rintro e w1 ⟨rfl, rfl⟩))
        have hFd := hF.drew
        go_wp2_with (first | (with_reducible refine lst (by with_unfolding_all rfl) (wp_fld0 hFd Try.underlying3 rfl (by with_unfolding_all exact ⟨_, rfl, rfl⟩) (by first | with_unfolding_all rfl | assumption) ?_)) | ((with_reducible refine lst (by with_unfolding_all rfl) (wp_fst0 hFd (by with_unfolding_all exact ⟨_, _, rfl, rfl, rfl⟩) (by kernel_rfl) rfl rfl (by first | decide | (simp; done) | (simp; omega)) rfl ?_)); intro w1 hF1 hz1))
        go_ret
        exact ⟨_, rfl, hF1.grown, hF1.heap0, ⟨-1, rfl, .inl ⟨rfl, box rfl⟩⟩⟩
end Go.Proofs.Ytcnjnkkdidpjiaa

namespace Go.Proofs.Ytcnjnkkdidpjiaa
open Go.RowKit

set_option maxRecDepth 20000 in
set_option maxHeartbeats 800000 in
theorem inText_any (g : Nat) (A : Option Addr) (n c : Nat) (l : List UInt8) (s : Option (List UInt8)) (cs : List Value) (most : Int) (w : World) (hh : w.heap[g]? = some (.cells cs.toArray 78 (0, 0))) (hI : InAt A n c l s cs) (hr : Rd w (· < w.heap.size) A 1 n (l.map bv)) (hn : n ≤ 140737488355000) (hnc : n ≤ c) (hmo : most ≤ 9223372036854775807) :
    Calls Try.prog 34 #[.pointer (some ⟨g, 0, none⟩), .int .i64 most] w (LeftB w 78 g 5 (rText most s).1 (InAt A n c l (rText most s).2)) := by
  obtain ⟨q, rfl, hq⟩ := hI.ex
  have hF := Fr.one hh
  rcases hq with ⟨rfl, hs⟩ | ⟨k, hk, rfl, hs⟩
  · obtain rfl : s = none := hs.out
    go_enter Try.func34, Try.ntmps34
    go_wp2_with (first | (with_reducible refine lst (by with_unfolding_all rfl) (wp_fld0 hF Try.underlying3 rfl (by with_unfolding_all exact ⟨_, rfl, rfl⟩) (by first | with_unfolding_all rfl | assumption) ?_)))
    go_ret
    exact ⟨_, _, rfl, OwnB.nil _ _ _, hF.grown, hF.heap0, ⟨-1, rfl, .inl ⟨rfl, box rfl⟩⟩⟩
  · obtain rfl : s = some (l.drop k) := hs.out
    have hl := hr.bytes_len
    have hld : (l.drop k).length = n - k := by rw [List.length_drop]; omega
    have hrd : rText most (some (l.drop k)) = if (rdt (l.drop k) most).2.2 ≠ 0 then ([], none) else ((rdt (l.drop k) most).1, some ((l.drop k).drop (rdt (l.drop k) most).2.1)) := rfl
    rw [List.drop_drop] at hrd
    have hrk := hr.ifB (k := k) (j := n - k) (c := c) (by omega) hnc
    rw [List.take_of_length_le (by omega)] at hrk
    have hrc := box (rreadText_any _ _ (c - k) _ most _ (by omega) hmo hrk.drew)
    have herr := rdt_err (l.drop k) most
    have hu := rdt_snd (l.drop k) most
    rw [hld] at hu
    generalize rdt (l.drop k) most = r at *
    obtain ⟨x, u, er⟩ := r
    simp only [] at hrd herr hu hrc
    clear hld hrk
    have c0 := hF.drew.cell0 (off := 0) rfl
    have c1 := hF.drew.cell0 (off := 1) rfl
    have hne : er ≠ 0 → ((er : Int) != 0) = true := fun h => by simp; omega
    obtain ⟨ck, hck⟩ : ∃ p : Prop, (c = k) = p ∧ (p = True ∨ p = False) := by
      by_cases h : c = k
      · exact ⟨True, eq_true h, .inl rfl⟩
      · exact ⟨False, eq_false h, .inr rfl⟩
    rcases hck.2 with rfl | rfl
    all_goals
      replace hck := hck.1
      simp only [hck, if_true, if_false] at hrc
      by_cases h0 : er = 0
      · subst h0
        clear hne
        rw [if_neg (by omega)] at hrd
        rw [hrd]
        clear hrd
        go_enter Try.func34, Try.ntmps34
        go_wp2_with (first | (with_reducible refine lst (by with_unfolding_all rfl) (wp_fld0 hF Try.underlying3 rfl (by with_unfolding_all exact ⟨_, rfl, rfl⟩) (by first | with_unfolding_all rfl | assumption) ?_)))
        go_region_held3 (fun w' => w'.cell? ⟨g, 0, none⟩ = some (.slice A n c) ∧ w'.cell? ⟨g, 1, none⟩ = some (.int .i64 (k : Int))) (first | exact ⟨hF.drew.cell0 rfl, hF.drew.cell0 rfl⟩ | exact ⟨hF2.cell1 rfl, hF2.cell1 rfl⟩)
          (first | (go_at_call 40; refine hrc.out.mono ?_; rintro e w1 ⟨v1, rfl, hown1, hb1⟩; have hF2 := hF.drew.gotB hb1 hown1))
        go_wp2_with (first | (with_reducible refine lst (by with_unfolding_all rfl) (wp_fld1 hF2 Try.underlying3 rfl (by with_unfolding_all exact ⟨_, rfl, rfl⟩) (by first | with_unfolding_all rfl | assumption) ?_)) | ((with_reducible refine lst (by with_unfolding_all rfl) (wp_fst1 hF2 (by with_unfolding_all exact ⟨_, _, rfl, rfl, rfl⟩) (by kernel_rfl) rfl rfl (by first | decide | (simp; done) | (simp; omega)) rfl ?_)); intro w3 hF3 hz3))
        go_ret
        exact ⟨_, _, rfl, hF3.bytes0, hF3.tail.grown, hF3.heap1, ⟨_, rfl, .inr ⟨k + u, by omega, by omega, box rfl⟩⟩⟩
      · have hne' := hne h0
        rw [if_pos h0] at hrd
        rw [hrd]
        clear hrd hu hne
        go_enter Try.func34, Try.ntmps34
        go_wp2_with (first | (with_reducible refine lst (by with_unfolding_all rfl) (wp_fld0 hF Try.underlying3 rfl (by with_unfolding_all exact ⟨_, rfl, rfl⟩) (by first | with_unfolding_all rfl | assumption) ?_)))
        go_region_held3 (fun w' => w'.cell? ⟨g, 0, none⟩ = some (.slice A n c) ∧ w'.cell? ⟨g, 1, none⟩ = some (.int .i64 (k : Int))) (first | exact ⟨hF.drew.cell0 rfl, hF.drew.cell0 rfl⟩ | exact ⟨hF2.cell0 rfl, hF2.cell0 rfl⟩)
          (first | (go_at_call 40; refine hrc.out.mono ?_; rintro e w1 ⟨v1, rfl, hown1, hb1⟩; have hF2 := hF.drew.call hb1))
        go_wp2_with (first | (with_reducible refine lst (by with_unfolding_all rfl) (wp_fld0 hF2 Try.underlying3 rfl (by with_unfolding_all exact ⟨_, rfl, rfl⟩) (by first | with_unfolding_all rfl | assumption) ?_)) | ((with_reducible refine lst (by with_unfolding_all rfl) (wp_fst0 hF2 (by with_unfolding_all exact ⟨_, _, rfl, rfl, rfl⟩) (by kernel_rfl) rfl rfl (by first | decide | (simp; done) | (simp; omega)) rfl ?_)); intro w3 hF3 hz3))
        go_ret
        exact ⟨_, _, rfl, OwnB.nil _ _ _, hF3.grown, hF3.heap0, ⟨-1, rfl, .inl ⟨rfl, box rfl⟩⟩⟩
end Go.Proofs.Ytcnjnkkdidpjiaa
