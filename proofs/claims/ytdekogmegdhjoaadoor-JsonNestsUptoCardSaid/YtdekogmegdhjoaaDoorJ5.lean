/-
  Layer 6: the program's reader: what a backslash says.
-/
import Derived.Test.YtdekogmegdhjoaaDoorJ4
namespace Go.Proofs.YtdekogmegdhjoaaDoor
open Go.RowKit
set_option linter.unusedSimpArgs false

theorem grown_trans {w w1 w2 : World} {r : Option Nat} (h : w.grownBy w1 r) (h2 : w1.grownBy w2 r) : w.grownBy w2 r :=
  ⟨h2.os.trans h.os, h2.tape.trans h.tape, h2.output.trans h.output, Nat.le_trans h.size h2.size, fun k hk hne => (h2.block k (Nat.lt_of_lt_of_le hk h.size) hne).trans (h.block k hk hne)⟩
/-- A callee that was handed the block, and has changed it. -/
theorem Fr.putF {X : List Nat} {w0 w w' : World} {es : List Ent} {g : Nat} {t : TypeId} {cs cs' : List Value} (hF : Fr X w0 w es) {i : Nat} (hi : es[i]? = some (.blk g t cs)) (h : Fr [g] w w' [.blk g t cs']) : Fr X w0 w' (es.set i (.blk g t cs')) :=
  hF.put hi h.grown (h.holds 0 _ rfl) (.inl rfl)
/-- .. and hands back bytes of its own. -/
theorem Fr.putB {X : List Nat} {w0 w w' : World} {es : List Ent} {g : Nat} {t e : TypeId} {cs cs' : List Value} {v : Value} {l : List UInt8} (hF : Fr X w0 w es) {i : Nat} (hi : es[i]? = some (.blk g t cs)) (h : Fr [g] w w' [Ent.bytes w.heap.size e v l, .blk g t cs']) : Fr X w0 w' (Ent.bytes w0.heap.size e v l :: es.set i (.blk g t cs')) := by
  have hp := hF.putF hi h.tail
  have ho : w'.ownsRow w.heap.size e 1 v l.length (l.map bv) := h.holds 0 _ rfl
  refine hp.push (e := Ent.bytes w0.heap.size e v l) ?_ fun b hb => ?_
  · refine ⟨ho.1, ho.2.imp id ?_⟩
    rintro ⟨g', cap, cur, hv, hg', rest⟩
    exact ⟨g', cap, cur, hv, Nat.le_trans hF.size hg', rest⟩
  · have hlt := (World.ownsRow.lt ho b hb).1
    refine ⟨.inl (Nat.le_trans hF.size hlt), fun j f hj he => ?_⟩
    have hil : i < es.length := (List.getElem?_eq_some_iff.1 hi).1
    rw [List.getElem?_set] at hj
    by_cases hij : i = j
    · rw [if_pos hij, if_pos hil] at hj
      injection hj with hj
      subst hj
      injection he with he
      have := hF.lt hi
      omega
    · rw [if_neg hij] at hj
      have := Ent.lt (hF.holds j f hj) he
      omega
/-- How a reading ends that tells more. -/
def JEndP {α : Type} (w : World) (g : Nat) (r : JR α) (Q : α → Ending → World → Prop) (e : Ending) (w' : World) : Prop :=
  match r with
  | .ok a => Q a e w'
  | .error x => e = flt x ∧ w.grownBy w' (some g)
/-- Bytes of the call's own are told, and the reader's place. -/
def ToldB (w : World) (g : Nat) (A : Option Addr) (n c m : Nat) (x : List UInt8 × Nat) (e : Ending) (w' : World) : Prop :=
  ∃ v, e = .returned v ∧ Fr [g] w w' [Ent.bytes w.heap.size 5 v x.1, .blk g 63 (rdrL A n c x.2 m)]
/-- unicode/utf8.AppendRune(nil, r) at a sign. -/
def RuneOk : Prop := ∀ (r : Nat) (w : World), r < 1114112 → ¬ (55296 ≤ r ∧ r < 57344) →
  Calls Tryd.prog 68 #[.slice none 0 0, .int .i32 (r : Int)] w fun e w' => ∃ v, e = .returned v ∧ OwnB w' w.heap.size 5 v (jSign r) ∧ Below w.heap.size w w'

set_option maxRecDepth 20000 in
set_option maxHeartbeats 6400000 in
theorem escape_plain (g : Nat) (A : Option Addr) (n c p m B : Nat) (b : List UInt8) (w : World) (hh : w.heap[g]? = some (.cells (rdrL A n c p m).toArray 63 (0, 0))) (hg : B ≤ g) (hB : B ≤ w.heap.size) (hn : n ≤ 140737488355000) (hp : p < n) (hr : Rd w (· < B) A 1 n (b.map bv)) (hu : b[p + 1]? ≠ some 117) :
    Calls Tryd.prog 55 #[.pointer (some ⟨g, 0, none⟩)] w (JEndP w g (jEscape b p) (ToldB w g A n c m)) := by
  have hl := box hr.bytes_len
  have hF0 := Fr.one hh
  have h1 := rdr_p hh
  clear hh
  cases hx : b[p + 1]? with
  | none =>
    have hj : Box (jEscape b p = .error (n, 9)) := box (by unfold jEscape; rw [hx, hl.out])
    have hnx := box (fun w' (hF : Fr [g] w w' [.blk g 63 (rdrL A n c (p + 1) m)]) => next_x hx (hF.blk (i := 0) rfl) (hF.rdB hg hB hr))
    rw [hl.out] at hnx
    clear hx
    go_enter Tryd.func55, Tryd.ntmps55
    go_wp2_with (first | ((with_reducible refine lst (by with_unfolding_all rfl) (wp_fst0 hF0 (by with_unfolding_all exact ⟨_, _, rfl, rfl, rfl⟩) (by kernel_rfl) rfl rfl (by rw [rdrL_len]; decide) (rdrL_at (q := p + 1) (by omega)) ?_)); intro w1 hF1 hz1))
    refine (hnx.out _ hF1).mono ?_
    rintro e w2 ⟨rfl, hb2⟩
    have hF2 := hF1.call hb2
    dsimp only [flt]
    go_wp2
    exact ⟨rfl, by unfold JEndP; rw [hj.out]; exact ⟨rfl, hF2.grown⟩⟩
  | some x =>
    have hxb := x.toNat_lt
    have hp1 := (List.getElem?_eq_some_iff.1 hx).1
    rw [hl.out] at hp1
    have hnx := box (fun w' (hF : Fr [g] w w' [.blk g 63 (rdrL A n c (p + 1) m)]) => next_q hx (hF.blk (i := 0) rfl) (hF.rdB hg hB hr) 0)
    by_cases hx0 : x = 34
    · subst hx0
      have hj : Box (jEscape b p = .ok ([34], p + 2)) := box (by unfold jEscape; rw [hx]; simp)
      clear hx hu
      go_enter Tryd.func55, Tryd.ntmps55
      go_wp2_with (first | ((with_reducible refine lst (by with_unfolding_all rfl) (wp_fst0 hF0 (by with_unfolding_all exact ⟨_, _, rfl, rfl, rfl⟩) (by kernel_rfl) rfl rfl (by rw [rdrL_len]; decide) (rdrL_at (q := p + 1) (by omega)) ?_)); intro w1 hF1 hz1))
      refine (hnx.out _ hF1).mono ?_
      rintro e w2 ⟨rfl, q2, rfl⟩
      have hF2 := hF1.drewN q2
      have h2 := rdr_p (hF2.blk (i := 0) rfl)
      go_wp2_with (first | ((with_reducible refine lst (by with_unfolding_all rfl) (wp_fst0 hF2 (by with_unfolding_all exact ⟨_, _, rfl, rfl, rfl⟩) (by kernel_rfl) rfl rfl (by rw [rdrL_len]; decide) (rdrL_at (q := p + 2) (by omega)) ?_)); intro w3 hF3 hz3) | ((with_reducible refine lst (by with_unfolding_all rfl) (wp_fbsl T_u8 hF3 (vs := [bv 34]) (by with_unfolding_all rfl) (by with_unfolding_all rfl) (by with_unfolding_all rfl) (by decide) (by simp [bv, Value.cells]) ?_)); intro w4 g4 hF4 hz4; have hr4 : Rd w4 (· < w4.heap.size) (some ⟨g4, 0, none⟩) 1 1 ([34].map bv) := hF4.rdOwn0; replace hF4 : Fr _ _ w4 (Ent.bytes _ 5 (.slice (some ⟨g4, 0, none⟩) 1 1) [34] :: _) := hF4))
      go_ret
      unfold JEndP
      rw [hj.out]
      exact ⟨_, rfl, hF4⟩
    · by_cases hx1 : x = 92
      · subst hx1
        have hj : Box (jEscape b p = .ok ([92], p + 2)) := box (by unfold jEscape; rw [hx]; simp)
        clear hx hu
        go_enter Tryd.func55, Tryd.ntmps55
        go_wp2_with (first | ((with_reducible refine lst (by with_unfolding_all rfl) (wp_fst0 hF0 (by with_unfolding_all exact ⟨_, _, rfl, rfl, rfl⟩) (by kernel_rfl) rfl rfl (by rw [rdrL_len]; decide) (rdrL_at (q := p + 1) (by omega)) ?_)); intro w1 hF1 hz1))
        refine (hnx.out _ hF1).mono ?_
        rintro e w2 ⟨rfl, q2, rfl⟩
        have hF2 := hF1.drewN q2
        have h2 := rdr_p (hF2.blk (i := 0) rfl)
        go_wp2_with (first | ((with_reducible refine lst (by with_unfolding_all rfl) (wp_fst0 hF2 (by with_unfolding_all exact ⟨_, _, rfl, rfl, rfl⟩) (by kernel_rfl) rfl rfl (by rw [rdrL_len]; decide) (rdrL_at (q := p + 2) (by omega)) ?_)); intro w3 hF3 hz3) | ((with_reducible refine lst (by with_unfolding_all rfl) (wp_fbsl T_u8 hF3 (vs := [bv 92]) (by with_unfolding_all rfl) (by with_unfolding_all rfl) (by with_unfolding_all rfl) (by decide) (by simp [bv, Value.cells]) ?_)); intro w4 g4 hF4 hz4; have hr4 : Rd w4 (· < w4.heap.size) (some ⟨g4, 0, none⟩) 1 1 ([92].map bv) := hF4.rdOwn0; replace hF4 : Fr _ _ w4 (Ent.bytes _ 5 (.slice (some ⟨g4, 0, none⟩) 1 1) [92] :: _) := hF4))
        go_ret
        unfold JEndP
        rw [hj.out]
        exact ⟨_, rfl, hF4⟩
      · by_cases hx2 : x = 47
        · subst hx2
          have hj : Box (jEscape b p = .ok ([47], p + 2)) := box (by unfold jEscape; rw [hx]; simp)
          clear hx hu
          go_enter Tryd.func55, Tryd.ntmps55
          go_wp2_with (first | ((with_reducible refine lst (by with_unfolding_all rfl) (wp_fst0 hF0 (by with_unfolding_all exact ⟨_, _, rfl, rfl, rfl⟩) (by kernel_rfl) rfl rfl (by rw [rdrL_len]; decide) (rdrL_at (q := p + 1) (by omega)) ?_)); intro w1 hF1 hz1))
          refine (hnx.out _ hF1).mono ?_
          rintro e w2 ⟨rfl, q2, rfl⟩
          have hF2 := hF1.drewN q2
          have h2 := rdr_p (hF2.blk (i := 0) rfl)
          go_wp2_with (first | ((with_reducible refine lst (by with_unfolding_all rfl) (wp_fst0 hF2 (by with_unfolding_all exact ⟨_, _, rfl, rfl, rfl⟩) (by kernel_rfl) rfl rfl (by rw [rdrL_len]; decide) (rdrL_at (q := p + 2) (by omega)) ?_)); intro w3 hF3 hz3) | ((with_reducible refine lst (by with_unfolding_all rfl) (wp_fbsl T_u8 hF3 (vs := [bv 47]) (by with_unfolding_all rfl) (by with_unfolding_all rfl) (by with_unfolding_all rfl) (by decide) (by simp [bv, Value.cells]) ?_)); intro w4 g4 hF4 hz4; have hr4 : Rd w4 (· < w4.heap.size) (some ⟨g4, 0, none⟩) 1 1 ([47].map bv) := hF4.rdOwn0; replace hF4 : Fr _ _ w4 (Ent.bytes _ 5 (.slice (some ⟨g4, 0, none⟩) 1 1) [47] :: _) := hF4))
          go_ret
          unfold JEndP
          rw [hj.out]
          exact ⟨_, rfl, hF4⟩
        · by_cases hx3 : x = 98
          · subst hx3
            have hj : Box (jEscape b p = .ok ([8], p + 2)) := box (by unfold jEscape; rw [hx]; simp)
            clear hx hu
            go_enter Tryd.func55, Tryd.ntmps55
            go_wp2_with (first | ((with_reducible refine lst (by with_unfolding_all rfl) (wp_fst0 hF0 (by with_unfolding_all exact ⟨_, _, rfl, rfl, rfl⟩) (by kernel_rfl) rfl rfl (by rw [rdrL_len]; decide) (rdrL_at (q := p + 1) (by omega)) ?_)); intro w1 hF1 hz1))
            refine (hnx.out _ hF1).mono ?_
            rintro e w2 ⟨rfl, q2, rfl⟩
            have hF2 := hF1.drewN q2
            have h2 := rdr_p (hF2.blk (i := 0) rfl)
            go_wp2_with (first | ((with_reducible refine lst (by with_unfolding_all rfl) (wp_fst0 hF2 (by with_unfolding_all exact ⟨_, _, rfl, rfl, rfl⟩) (by kernel_rfl) rfl rfl (by rw [rdrL_len]; decide) (rdrL_at (q := p + 2) (by omega)) ?_)); intro w3 hF3 hz3) | ((with_reducible refine lst (by with_unfolding_all rfl) (wp_fbsl T_u8 hF3 (vs := [bv 8]) (by with_unfolding_all rfl) (by with_unfolding_all rfl) (by with_unfolding_all rfl) (by decide) (by simp [bv, Value.cells]) ?_)); intro w4 g4 hF4 hz4; have hr4 : Rd w4 (· < w4.heap.size) (some ⟨g4, 0, none⟩) 1 1 ([8].map bv) := hF4.rdOwn0; replace hF4 : Fr _ _ w4 (Ent.bytes _ 5 (.slice (some ⟨g4, 0, none⟩) 1 1) [8] :: _) := hF4))
            go_ret
            unfold JEndP
            rw [hj.out]
            exact ⟨_, rfl, hF4⟩
          · by_cases hx4 : x = 102
            · subst hx4
              have hj : Box (jEscape b p = .ok ([12], p + 2)) := box (by unfold jEscape; rw [hx]; simp)
              clear hx hu
              go_enter Tryd.func55, Tryd.ntmps55
              go_wp2_with (first | ((with_reducible refine lst (by with_unfolding_all rfl) (wp_fst0 hF0 (by with_unfolding_all exact ⟨_, _, rfl, rfl, rfl⟩) (by kernel_rfl) rfl rfl (by rw [rdrL_len]; decide) (rdrL_at (q := p + 1) (by omega)) ?_)); intro w1 hF1 hz1))
              refine (hnx.out _ hF1).mono ?_
              rintro e w2 ⟨rfl, q2, rfl⟩
              have hF2 := hF1.drewN q2
              have h2 := rdr_p (hF2.blk (i := 0) rfl)
              go_wp2_with (first | ((with_reducible refine lst (by with_unfolding_all rfl) (wp_fst0 hF2 (by with_unfolding_all exact ⟨_, _, rfl, rfl, rfl⟩) (by kernel_rfl) rfl rfl (by rw [rdrL_len]; decide) (rdrL_at (q := p + 2) (by omega)) ?_)); intro w3 hF3 hz3) | ((with_reducible refine lst (by with_unfolding_all rfl) (wp_fbsl T_u8 hF3 (vs := [bv 12]) (by with_unfolding_all rfl) (by with_unfolding_all rfl) (by with_unfolding_all rfl) (by decide) (by simp [bv, Value.cells]) ?_)); intro w4 g4 hF4 hz4; have hr4 : Rd w4 (· < w4.heap.size) (some ⟨g4, 0, none⟩) 1 1 ([12].map bv) := hF4.rdOwn0; replace hF4 : Fr _ _ w4 (Ent.bytes _ 5 (.slice (some ⟨g4, 0, none⟩) 1 1) [12] :: _) := hF4))
              go_ret
              unfold JEndP
              rw [hj.out]
              exact ⟨_, rfl, hF4⟩
            · by_cases hx5 : x = 110
              · subst hx5
                have hj : Box (jEscape b p = .ok ([10], p + 2)) := box (by unfold jEscape; rw [hx]; simp)
                clear hx hu
                go_enter Tryd.func55, Tryd.ntmps55
                go_wp2_with (first | ((with_reducible refine lst (by with_unfolding_all rfl) (wp_fst0 hF0 (by with_unfolding_all exact ⟨_, _, rfl, rfl, rfl⟩) (by kernel_rfl) rfl rfl (by rw [rdrL_len]; decide) (rdrL_at (q := p + 1) (by omega)) ?_)); intro w1 hF1 hz1))
                refine (hnx.out _ hF1).mono ?_
                rintro e w2 ⟨rfl, q2, rfl⟩
                have hF2 := hF1.drewN q2
                have h2 := rdr_p (hF2.blk (i := 0) rfl)
                go_wp2_with (first | ((with_reducible refine lst (by with_unfolding_all rfl) (wp_fst0 hF2 (by with_unfolding_all exact ⟨_, _, rfl, rfl, rfl⟩) (by kernel_rfl) rfl rfl (by rw [rdrL_len]; decide) (rdrL_at (q := p + 2) (by omega)) ?_)); intro w3 hF3 hz3) | ((with_reducible refine lst (by with_unfolding_all rfl) (wp_fbsl T_u8 hF3 (vs := [bv 10]) (by with_unfolding_all rfl) (by with_unfolding_all rfl) (by with_unfolding_all rfl) (by decide) (by simp [bv, Value.cells]) ?_)); intro w4 g4 hF4 hz4; have hr4 : Rd w4 (· < w4.heap.size) (some ⟨g4, 0, none⟩) 1 1 ([10].map bv) := hF4.rdOwn0; replace hF4 : Fr _ _ w4 (Ent.bytes _ 5 (.slice (some ⟨g4, 0, none⟩) 1 1) [10] :: _) := hF4))
                go_ret
                unfold JEndP
                rw [hj.out]
                exact ⟨_, rfl, hF4⟩
              · by_cases hx6 : x = 114
                · subst hx6
                  have hj : Box (jEscape b p = .ok ([13], p + 2)) := box (by unfold jEscape; rw [hx]; simp)
                  clear hx hu
                  go_enter Tryd.func55, Tryd.ntmps55
                  go_wp2_with (first | ((with_reducible refine lst (by with_unfolding_all rfl) (wp_fst0 hF0 (by with_unfolding_all exact ⟨_, _, rfl, rfl, rfl⟩) (by kernel_rfl) rfl rfl (by rw [rdrL_len]; decide) (rdrL_at (q := p + 1) (by omega)) ?_)); intro w1 hF1 hz1))
                  refine (hnx.out _ hF1).mono ?_
                  rintro e w2 ⟨rfl, q2, rfl⟩
                  have hF2 := hF1.drewN q2
                  have h2 := rdr_p (hF2.blk (i := 0) rfl)
                  go_wp2_with (first | ((with_reducible refine lst (by with_unfolding_all rfl) (wp_fst0 hF2 (by with_unfolding_all exact ⟨_, _, rfl, rfl, rfl⟩) (by kernel_rfl) rfl rfl (by rw [rdrL_len]; decide) (rdrL_at (q := p + 2) (by omega)) ?_)); intro w3 hF3 hz3) | ((with_reducible refine lst (by with_unfolding_all rfl) (wp_fbsl T_u8 hF3 (vs := [bv 13]) (by with_unfolding_all rfl) (by with_unfolding_all rfl) (by with_unfolding_all rfl) (by decide) (by simp [bv, Value.cells]) ?_)); intro w4 g4 hF4 hz4; have hr4 : Rd w4 (· < w4.heap.size) (some ⟨g4, 0, none⟩) 1 1 ([13].map bv) := hF4.rdOwn0; replace hF4 : Fr _ _ w4 (Ent.bytes _ 5 (.slice (some ⟨g4, 0, none⟩) 1 1) [13] :: _) := hF4))
                  go_ret
                  unfold JEndP
                  rw [hj.out]
                  exact ⟨_, rfl, hF4⟩
                · by_cases hx7 : x = 116
                  · subst hx7
                    have hj : Box (jEscape b p = .ok ([9], p + 2)) := box (by unfold jEscape; rw [hx]; simp)
                    clear hx hu
                    go_enter Tryd.func55, Tryd.ntmps55
                    go_wp2_with (first | ((with_reducible refine lst (by with_unfolding_all rfl) (wp_fst0 hF0 (by with_unfolding_all exact ⟨_, _, rfl, rfl, rfl⟩) (by kernel_rfl) rfl rfl (by rw [rdrL_len]; decide) (rdrL_at (q := p + 1) (by omega)) ?_)); intro w1 hF1 hz1))
                    refine (hnx.out _ hF1).mono ?_
                    rintro e w2 ⟨rfl, q2, rfl⟩
                    have hF2 := hF1.drewN q2
                    have h2 := rdr_p (hF2.blk (i := 0) rfl)
                    go_wp2_with (first | ((with_reducible refine lst (by with_unfolding_all rfl) (wp_fst0 hF2 (by with_unfolding_all exact ⟨_, _, rfl, rfl, rfl⟩) (by kernel_rfl) rfl rfl (by rw [rdrL_len]; decide) (rdrL_at (q := p + 2) (by omega)) ?_)); intro w3 hF3 hz3) | ((with_reducible refine lst (by with_unfolding_all rfl) (wp_fbsl T_u8 hF3 (vs := [bv 9]) (by with_unfolding_all rfl) (by with_unfolding_all rfl) (by with_unfolding_all rfl) (by decide) (by simp [bv, Value.cells]) ?_)); intro w4 g4 hF4 hz4; have hr4 : Rd w4 (· < w4.heap.size) (some ⟨g4, 0, none⟩) 1 1 ([9].map bv) := hF4.rdOwn0; replace hF4 : Fr _ _ w4 (Ent.bytes _ 5 (.slice (some ⟨g4, 0, none⟩) 1 1) [9] :: _) := hF4))
                    go_ret
                    unfold JEndP
                    rw [hj.out]
                    exact ⟨_, rfl, hF4⟩
                  ·
                    have hx8 : x ≠ 117 := fun h => hu (by rw [hx, h])
                    have hj : Box (jEscape b p = .error (p, 62)) := box (by unfold jEscape; rw [hx]; simp [hx0, hx1, hx2, hx3, hx4, hx5, hx6, hx7, hx8])
                    have hn0 : ((x.toNat : Int) == 34) = false := u8_ne hx0
                    have hn1 : ((x.toNat : Int) == 92) = false := u8_ne hx1
                    have hn2 : ((x.toNat : Int) == 47) = false := u8_ne hx2
                    have hn3 : ((x.toNat : Int) == 98) = false := u8_ne hx3
                    have hn4 : ((x.toNat : Int) == 102) = false := u8_ne hx4
                    have hn5 : ((x.toNat : Int) == 110) = false := u8_ne hx5
                    have hn6 : ((x.toNat : Int) == 114) = false := u8_ne hx6
                    have hn7 : ((x.toNat : Int) == 116) = false := u8_ne hx7
                    have hn8 : ((x.toNat : Int) == 117) = false := u8_ne hx8
                    have hfl := box (fun v w => fail_any v p 62 w)
                    clear hx hu hx0 hx1 hx2 hx3 hx4 hx5 hx6 hx7 hx8
                    go_enter Tryd.func55, Tryd.ntmps55
                    go_wp2_with (first | ((with_reducible refine lst (by with_unfolding_all rfl) (wp_fst0 hF0 (by with_unfolding_all exact ⟨_, _, rfl, rfl, rfl⟩) (by kernel_rfl) rfl rfl (by rw [rdrL_len]; decide) (rdrL_at (q := p + 1) (by omega)) ?_)); intro w1 hF1 hz1))
                    refine (hnx.out _ hF1).mono ?_
                    rintro e w2 ⟨rfl, q2, rfl⟩
                    have hF2 := hF1.drewN q2
                    have h2 := rdr_p (hF2.blk (i := 0) rfl)
                    go_wp2_with (first | ((with_reducible refine lst (by with_unfolding_all rfl) (wp_fst0 hF2 (by with_unfolding_all exact ⟨_, _, rfl, rfl, rfl⟩) (by kernel_rfl) rfl rfl (by rw [rdrL_len]; decide) (rdrL_at (q := p + 2) (by omega)) ?_)); intro w3 hF3 hz3))
                    refine (hfl.out _ _).mono ?_
                    rintro e w4 ⟨rfl, rfl⟩
                    dsimp only [flt]
                    go_wp2
                    exact ⟨rfl, by unfold JEndP; rw [hj.out]; exact ⟨rfl, hF3.grown⟩⟩
end Go.Proofs.YtdekogmegdhjoaaDoor
