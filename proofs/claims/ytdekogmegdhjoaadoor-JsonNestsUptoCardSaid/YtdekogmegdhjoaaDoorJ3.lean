/-
  Layer 6: the program's reader: words.
-/
import Derived.Test.YtdekogmegdhjoaaDoorJ2
namespace Go.Proofs.YtdekogmegdhjoaaDoor
open Go.RowKit

/-- How a reading ends: what is told, and the reader; or a fault, and nothing but the reader and what is new has changed. -/
def JPost {α : Type} (w : World) (g : Nat) (r : JR α) (ret : α → Ending) (st : α → List Value) (e : Ending) (w' : World) : Prop :=
  match r with
  | .ok a => e = ret a ∧ Fr [g] w w' [.blk g 63 (st a)]
  | .error x => e = flt x ∧ w.grownBy w' (some g)
theorem jWord_le {b : List UInt8} : ∀ {l : List UInt8} {p q : Nat}, jWord b l p = .ok q → q = p + l.length ∧ (l = [] ∨ q ≤ b.length)
  | [], p, q, h => by injection h with h; subst h; exact ⟨rfl, .inl rfl⟩
  | c :: l, p, q, h => by
    unfold jWord at h
    cases hx : b[p]? with
    | none => rw [hx] at h; cases h
    | some x =>
      rw [hx] at h
      simp only [] at h
      split at h
      · obtain ⟨h1, h2⟩ := jWord_le h
        have hp := (List.getElem?_eq_some_iff.1 hx).1
        refine ⟨by rw [h1, List.length_cons]; omega, .inr ?_⟩
        rcases h2 with rfl | h2
        · rw [h1, List.length_nil]; omega
        · exact h2
      · cases h

set_option maxRecDepth 20000 in
set_option maxHeartbeats 3200000 in
theorem word_any (g : Nat) (A : Option Addr) (n c p m B : Nat) (b : List UInt8) (s : ByteArray) (w : World) (hh : w.heap[g]? = some (.cells (rdrL A n c p m).toArray 63 (0, 0))) (hg : B ≤ g) (hB : B ≤ w.heap.size) (hn : n ≤ 140737488355000) (hp : p ≤ n) (hs : s.size ≤ 1000) (hr : Rd w (· < B) A 1 n (b.map bv)) :
    Calls Tryd.prog 37 #[.pointer (some ⟨g, 0, none⟩), .string s] w (JPost w g (jWord b s.data.toList p) (fun _ => .returned (.tuple #[])) (fun q => rdrL A n c q m)) := by
  have hl := box hr.bytes_len
  have hF0 := Fr.one hh
  clear hh
  go_enter Tryd.func37, Tryd.ntmps37
  go_wp2_with fail
  go_loopg [7] s.size (fun k i wr => ∃ j p' : Nat, j ≤ s.size ∧ Box (k = s.size - j) ∧ i = .int .i64 (j : Int) ∧ p' ≤ n ∧ Box (jWord b s.data.toList p = jWord b (s.data.toList.drop j) p') ∧ Fr [g] w wr [.blk g 63 (rdrL A n c p' m)])
  case atStart => exact ⟨0, p, by omega, box rfl, rfl, hp, box rfl, hF0⟩
  case round =>
    obtain ⟨j, p', hj, hk, rfl, hpj, hw, hF⟩ := hrel
    clear hF0
    by_cases hlt : j < s.size
    · obtain ⟨y, hy⟩ : ∃ y, s.data.toList[j]? = some y := ⟨s.data.toList[j]'hlt, by simp⟩
      have hdr : s.data.toList.drop j = y :: s.data.toList.drop (j + 1) := by
        rw [List.drop_eq_getElem_cons (by exact hlt), (List.getElem?_eq_some_iff.1 hy).2]
      have hyb := y.toNat_lt
      cases hx : b[p']? with
      | some x =>
        have hxb := x.toNat_lt
        have hnx := box (next_q hx (hF.blk (i := 0) rfl) (hF.rdB hg hB hr))
        have hplt := (List.getElem?_eq_some_iff.1 hx).1
        rw [hl.out] at hplt
        have hsj : s[j] = y := (List.getElem?_eq_some_iff.1 hy).2
        by_cases hxy : x = y
        · have hq : ((x.toNat : Int) != (y.toNat : Int)) = false := by rw [hxy]; simp
          have hgo : Box (jWord b s.data.toList p = jWord b (s.data.toList.drop (j + 1)) (p' + 1)) := box (by
            rw [hw.out, hdr, jWord, hx]; simp only []; rw [if_pos hxy])
          replace hx := box hx
          replace hxy := box hxy
          clear hy hdr
          go_wp2
          go_quiet (exact hnx.out _)
          have hFd := hF.drewN nq
          have h1 := rdr_p (hFd.blk (i := 0) rfl)
          go_wp2_with (first | ((with_reducible refine lst (by with_unfolding_all rfl) (wp_fst0 hFd (by with_unfolding_all exact ⟨_, _, rfl, rfl, rfl⟩) (by kernel_rfl) rfl rfl (by rw [rdrL_len]; decide) (rdrL_at (v := (p' : Int) + 1) (q := p' + 1) (by omega)) ?_)); intro w2 hF2 hz2))
          go_roundg (s.size - (j + 1))
          case rel => exact ⟨j + 1, p' + 1, by omega, box rfl, by go_num, by omega, hgo, hF2⟩
          case measure => have := hk.out; omega
        · have hq : ((x.toNat : Int) != (y.toNat : Int)) = true := by
            rw [bne_iff_ne]; intro h; exact hxy (UInt8.toNat_inj.1 (by omega))
          have hend : Box (jWord b s.data.toList p = .error (p', 10)) := box (by
            rw [hw.out, hdr, jWord, hx]; simp only []; rw [if_neg hxy])
          replace hx := box hx
          replace hxy := box hxy
          clear hy hdr
          go_wp2
          go_quiet (exact hnx.out _)
          have hFd := hF.drewN nq
          have h1 := rdr_p (hFd.blk (i := 0) rfl)
          have hfl := box (fun v w => fail_any v p' 10 w)
          go_wp2_with fail
          refine (hfl.out _ _).mono ?_
          rintro e w2 ⟨rfl, rfl⟩
          dsimp only [flt]
          go_wp2
          exact ⟨rfl, by unfold JPost; rw [hend.out]; exact ⟨rfl, hFd.grown⟩⟩
      | none =>
        have hend : Box (jWord b s.data.toList p = .error (n, 9)) := box (by
          rw [hw.out, hdr, jWord, hx, hl.out])
        have hnx := box (fun w' (hF : Fr [g] w w' [.blk g 63 (rdrL A n c p' m)]) => next_x hx (hF.blk (i := 0) rfl) (hF.rdB hg hB hr))
        rw [hl.out] at hnx
        replace hx := box hx
        clear hy hdr
        go_wp2
        have hFd := hF.drew
        refine wp_region_held (S := fun _ => True) (by kernel_rfl) ?_
        change wpAnyH _ _ _ _ _ _ _ _ (World.drew _)
        refine wpAnyH_take (i := 0) (v := ?_) (by simp only [List.getElem?_toArray, List.getElem?_cons_zero]; rfl) (by kernel_rfl) (by kernel_rfl) (by kernel_rfl) (by exact fun _ _ _ h => h) (Or.inl ⟨by with_unfolding_all rfl, ?_⟩) trivial ?_
        rotate_left
        · (intro w hSw; (try dsimp only at hSw); go_simp; try with_reducible rfl)
        (try simp only [Act.put, List.setIfInBounds_toArray, List.set_cons_zero, List.set_cons_succ])
        refine wpAnyH_take (i := 2) (v := ?_) (by simp only [List.getElem?_toArray, List.getElem?_cons_zero, List.getElem?_cons_succ]; rfl) (by kernel_rfl) (by kernel_rfl) (by kernel_rfl) (by exact fun _ _ _ h => h) (Or.inl ⟨by with_unfolding_all rfl, ?_⟩) trivial ?_
        rotate_left
        · (intro w hSw; (try dsimp only at hSw); go_simp; try with_reducible rfl)
        (try simp only [Act.put, List.setIfInBounds_toArray, List.set_cons_zero, List.set_cons_succ])
        refine wpAnyH_take (i := 3) (v := ?_) (by simp only [List.getElem?_toArray, List.getElem?_cons_zero, List.getElem?_cons_succ]; rfl) (by kernel_rfl) (by kernel_rfl) (by kernel_rfl) (by exact fun _ _ _ h => h) (Or.inl ⟨by with_unfolding_all rfl, ?_⟩) trivial ?_
        rotate_left
        · (intro w hSw; (try dsimp only at hSw); go_simp; try with_reducible rfl)
        (try simp only [Act.put, List.setIfInBounds_toArray, List.set_cons_zero, List.set_cons_succ])
        refine wpAnyH_take (i := 4) (v := ?_) (by simp only [List.getElem?_toArray, List.getElem?_cons_zero, List.getElem?_cons_succ]; rfl) (by kernel_rfl) (by kernel_rfl) (by kernel_rfl) (by exact fun _ _ _ h => h) (Or.inl ⟨by with_unfolding_all rfl, ?_⟩) trivial ?_
        rotate_left
        · (intro w hSw; (try dsimp only at hSw); go_simp; try with_reducible rfl)
        (try simp only [Act.put, List.setIfInBounds_toArray, List.set_cons_zero, List.set_cons_succ])
        refine wpAnyH_ready (rs := [1]) (by kernel_rfl) (by simp) ?_
        refine AllReadyH.cons (by simp only [List.getElem?_toArray, List.getElem?_cons_zero, List.getElem?_cons_succ]; rfl) (fun K hK => ?_) ?_
        · refine stp (by with_unfolding_all rfl) (wp_callP Tryd.func36 rfl (by with_unfolding_all rfl) (by with_unfolding_all rfl) (by with_unfolding_all rfl) (hnx.out _ hFd) ?_)
          rintro e w11 ⟨rfl, hb11⟩
          refine ⟨_, rfl, ?_⟩
          have hF11 := hFd.call hb11
          (try simp only [Exit.inBlock, Exit.then])
          exact ⟨rfl, by unfold JPost; rw [hend.out]; exact ⟨rfl, hF11.grown⟩⟩
        exact AllReadyH.nil
    · have hend : Box (jWord b s.data.toList p = .ok p') := box (by
        rw [hw.out, List.drop_of_length_le (by rw [str_len]; omega), jWord])
      go_wp2
      go_end0
      unfold JPost
      rw [hend.out]
      exact ⟨rfl, hF⟩
end Go.Proofs.YtdekogmegdhjoaaDoor
