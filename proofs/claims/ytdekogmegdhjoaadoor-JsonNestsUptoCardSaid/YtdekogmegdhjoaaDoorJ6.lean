/-
  Layer 6: the program's reader: an escape of four digits, or twice four.
-/
import Derived.Test.YtdekogmegdhjoaaDoorJ5
namespace Go.Proofs.YtdekogmegdhjoaaDoor
open Go.RowKit
set_option linter.unusedSimpArgs false

/-- The second half of a pair, from its digits on; from its 'u' on; from its backslash on. -/
def jEsc2 (b : List UInt8) (p n : Nat) : JR (List UInt8 × Nat) :=
  match jUnit b p 4 0 (p + 8) with
  | .error x => .error x
  | .ok m => if 56320 ≤ m ∧ m < 57344 then .ok (jSign (65536 + (n - 55296) * 1024 + (m - 56320)), p + 12) else .error (p, 62)
def jEsc1 (b : List UInt8) (p n : Nat) : JR (List UInt8 × Nat) :=
  match b[p + 7]? with
  | none => .error (b.length, 9)
  | some y => if y ≠ 117 then .error (p, 62) else jEsc2 b p n
def jEsc0 (b : List UInt8) (p n : Nat) : JR (List UInt8 × Nat) :=
  match b[p + 6]? with
  | none => .error (b.length, 9)
  | some y => if y ≠ 92 then .error (p, 62) else jEsc1 b p n
def jEscJ (b : List UInt8) (p n : Nat) : Nat → JR (List UInt8 × Nat)
  | 0 => jEsc0 b p n
  | 1 => jEsc1 b p n
  | _ => jEsc2 b p n
theorem jEscJ_step {b : List UInt8} {p N j : Nat} {x K : UInt8} (hj : j < 2) (hK : ([92, 117] : List UInt8)[j]? = some K) (hx : b[p + 6 + j]? = some x) :
    jEscJ b p N j = if x = K then jEscJ b p N (j + 1) else .error (p, 62) := by
  match j, hj with
  | 0, _ =>
    obtain rfl : (92 : UInt8) = K := Option.some.inj hK
    show jEsc0 b p N = if x = 92 then jEsc1 b p N else _
    have hx' : b[p + 6]? = some x := hx
    unfold jEsc0
    rw [hx']
    by_cases h : x = 92
    · rw [if_pos h]; simp [h]
    · rw [if_neg h]; simp [h]
  | 1, _ =>
    obtain rfl : (117 : UInt8) = K := Option.some.inj hK
    show jEsc1 b p N = if x = 117 then jEsc2 b p N else _
    have hx' : b[p + 7]? = some x := hx
    unfold jEsc1
    rw [hx']
    by_cases h : x = 117
    · rw [if_pos h]; simp [h]
    · rw [if_neg h]; simp [h]
theorem jEscJ_none {b : List UInt8} {p N j : Nat} (hj : j < 2) (hx : b[p + 6 + j]? = none) : jEscJ b p N j = .error (b.length, 9) := by
  match j, hj with
  | 0, _ =>
    show jEsc0 b p N = _
    have hx' : b[p + 6]? = none := hx
    unfold jEsc0
    rw [hx']
  | 1, _ =>
    show jEsc1 b p N = _
    have hx' : b[p + 7]? = none := hx
    unfold jEsc1
    rw [hx']
theorem jEscape_u {b : List UInt8} {p : Nat} (hx : b[p + 1]? = some 117) : jEscape b p =
    match jUnit b p 4 0 (p + 2) with
    | .error x => .error x
    | .ok n => if 55296 ≤ n ∧ n < 56320 then jEsc0 b p n else if 56320 ≤ n ∧ n < 57344 then .error (p, 62) else .ok (jSign n, p + 6) := by
  unfold jEscape
  rw [hx]
  simp only []
  rw [if_neg (by decide), if_neg (by decide), if_neg (by decide), if_neg (by decide), if_neg (by decide), if_neg (by decide), if_pos trivial]
  rfl

set_option maxRecDepth 20000 in
set_option maxHeartbeats 6400000 in
theorem escape_u (hAR : RuneOk) (g : Nat) (A : Option Addr) (n c p m B : Nat) (b : List UInt8) (w : World) (hh : w.heap[g]? = some (.cells (rdrL A n c p m).toArray 63 (0, 0))) (hg : B ≤ g) (hB : B ≤ w.heap.size) (hn : n ≤ 140737488355000) (hr : Rd w (· < B) A 1 n (b.map bv)) (hx : b[p + 1]? = some 117) :
    Calls Tryd.prog 55 #[.pointer (some ⟨g, 0, none⟩)] w (JEndP w g (jEscape b p) (ToldB w g A n c m)) := by
  have hl := box hr.bytes_len
  have hF0 := Fr.one hh
  have h1 := rdr_p hh
  clear hh
  have hp1 := (List.getElem?_eq_some_iff.1 hx).1
  rw [hl.out] at hp1
  have hnx := box (fun w' (hF : Fr [g] w w' [.blk g 63 (rdrL A n c (p + 1) m)]) => next_q hx (hF.blk (i := 0) rfl) (hF.rdB hg hB hr) 0)
  have hj := jEscape_u hx
  have hun := box (fun w' (hF : Fr [g] w w' [.blk g 63 (rdrL A n c (p + 2) m)]) => unit_any g A n c (p + 2) m B p b w' (hF.blk (i := 0) rfl) hg (Nat.le_trans hB hF.size) hn (by omega) (hF.rdB hg hB hr))
  clear hx
  cases hU : jUnit b p 4 0 (p + 2) with
  | error z =>
    rw [hU] at hj hun
    replace hj := box hj
    unfold JPost at hun
    simp only [] at hun
    go_enter Tryd.func55, Tryd.ntmps55
    go_wp2_with (first | ((with_reducible refine lst (by with_unfolding_all rfl) (wp_fst0 hF0 (by with_unfolding_all exact ⟨_, _, rfl, rfl, rfl⟩) (by kernel_rfl) rfl rfl (by rw [rdrL_len]; decide) (rdrL_at (q := p + 1) (by omega)) ?_)); intro w1 hF1 hz1))
    refine (hnx.out _ hF1).mono ?_
    rintro e w2 ⟨rfl, q2, rfl⟩
    have hF2 := hF1.drewN q2
    have h2 := rdr_p (hF2.blk (i := 0) rfl)
    go_wp2_with (first | ((with_reducible refine lst (by with_unfolding_all rfl) (wp_fst0 hF2 (by with_unfolding_all exact ⟨_, _, rfl, rfl, rfl⟩) (by kernel_rfl) rfl rfl (by rw [rdrL_len]; decide) (rdrL_at (q := p + 2) (by omega)) ?_)); intro w3 hF3 hz3))
    refine (hun.out _ hF3).mono ?_
    rintro e w4 ⟨rfl, hg4⟩
    dsimp only [flt]
    go_wp2
    exact ⟨rfl, by unfold JEndP; rw [hj.out]; exact ⟨rfl, grown_trans hF3.grown hg4⟩⟩
  | ok N =>
    have hN := jUnit_lt (N := 0) (j := 0) (by decide) hU
    rw [hU] at hj hun
    unfold JPost at hun
    simp only [] at hun hj
    rw [hl.out] at hN
    obtain ⟨hN1, hN2⟩ := hN
    have hN65 : N < 65536 := hN1
    have hp6 : p + 6 ≤ n := by omega
    clear hU hN1 hN2
    by_cases hs : 55296 ≤ N ∧ N < 56320
    · rw [if_pos hs] at hj
      replace hj := box hj
      have d1 : decide ((55296 : Int) ≤ (N : Int)) = true := decide_eq_true (by omega)
      have d2 : decide ((N : Int) < 56320) = true := decide_eq_true (by omega)
      replace hs := box hs
      replace hN65 := box hN65
      go_enter Tryd.func55, Tryd.ntmps55
      go_wp2_with (first | ((with_reducible refine lst (by with_unfolding_all rfl) (wp_fst0 hF0 (by with_unfolding_all exact ⟨_, _, rfl, rfl, rfl⟩) (by kernel_rfl) rfl rfl (by rw [rdrL_len]; decide) (rdrL_at (q := p + 1) (by omega)) ?_)); intro w1 hF1 hz1))
      refine (hnx.out _ hF1).mono ?_
      rintro e w2 ⟨rfl, q2, rfl⟩
      have hF2 := hF1.drewN q2
      have h2 := rdr_p (hF2.blk (i := 0) rfl)
      go_wp2_with (first | ((with_reducible refine lst (by with_unfolding_all rfl) (wp_fst0 hF2 (by with_unfolding_all exact ⟨_, _, rfl, rfl, rfl⟩) (by kernel_rfl) rfl rfl (by rw [rdrL_len]; decide) (rdrL_at (q := p + 2) (by omega)) ?_)); intro w3 hF3 hz3))
      refine (hun.out _ hF3).mono ?_
      rintro e w4 ⟨rfl, h4⟩
      have hF4 := hF3.putF (i := 0) rfl h4
      clear hF0 hF1 hF2 hF3 hun hnx
      go_wp2_with (first | ((with_reducible refine lst (by with_unfolding_all rfl) (wp_fbsl T_u8 hF4 (vs := [.int .u8 92, .int .u8 117]) (by with_unfolding_all rfl) (by with_unfolding_all rfl) (by with_unfolding_all rfl) (by decide) (by simp [Value.cells]) ?_)); intro w5 g5 hF5 hz5))
      clear d1 d2
      go_loopg [64] 2 (fun k i wr => ∃ j p' : Nat, j ≤ 2 ∧ k = 2 - j ∧ i = .int .i64 (j : Int) ∧ Box (p' = p + 6 + j) ∧ p' ≤ n ∧ Box (jEscape b p = jEscJ b p N j) ∧ Fr [g] w wr [Ent.bytes w.heap.size 5 (.slice (some ⟨g5, 0, none⟩) 2 2) [92, 117], .blk g 63 (rdrL A n c p' m)])
      case atStart => exact ⟨0, p + 6, by omega, rfl, rfl, box rfl, hp6, hj, hF5⟩
      case round =>
        obtain ⟨j, p', hj2, hk, rfl, hpj, hpn, hJ, hF⟩ := hrel
        clear hF4 hF5 hj
        by_cases hjlt : j < 2
        · obtain ⟨K, hK⟩ : ∃ K : UInt8, ([92, 117] : List UInt8)[j]? = some K := ⟨[92, 117][j]'(by simpa using hjlt), by simp⟩
          have hKb := K.toNat_lt
          replace hK := box hK
          cases hx : b[p']? with
          | some x =>
            have hxb := x.toNat_lt
            have hnx := box (next_q hx (hF.blk (i := 1) rfl) (hF.rdB hg hB hr) 0)
            have hplt := (List.getElem?_eq_some_iff.1 hx).1
            rw [hl.out] at hplt
            by_cases hxK : x = K
            · have hq : ((x.toNat : Int) != (K.toNat : Int)) = false := by rw [hxK]; simp
              have hgo : Box (jEscape b p = jEscJ b p N (j + 1)) := box (by
                rw [hJ.out, jEscJ_step hjlt hK.out (hpj.out ▸ hx), if_pos hxK])
              have h1' := rdr_p (hF.blk (i := 1) rfl)
              replace hk := box hk
              clear hx
              replace hxK := box hxK
              go_wp2_with (first | (with_reducible refine lst (by with_unfolding_all rfl) (wp_indexAddr T_u8 (hF.rdOwn (i := 0) rfl) (by with_unfolding_all exact ⟨_, _, _, _, rfl, rfl, rfl⟩) (by omega) (by omega) ?_)) | (with_reducible refine lst (by with_unfolding_all rfl) (wp_loadC (hF.rdOwn (i := 0) rfl) hK Tryd.underlying5 rfl (by with_unfolding_all exact ⟨_, rfl, rfl⟩) (by first | (simp; done) | (simp; omega) | omega) ?_)))
              refine (hnx.out).mono ?_
              rintro e w6 ⟨rfl, q6, rfl⟩
              have hFd := hF.drewN q6
              have h1d := rdr_p (hFd.blk (i := 1) rfl)
              go_wp2_with (first | ((with_reducible refine lst (by with_unfolding_all rfl) (wp_fst1 hFd (by with_unfolding_all exact ⟨_, _, rfl, rfl, rfl⟩) (by kernel_rfl) rfl rfl (by rw [rdrL_len]; decide) (rdrL_at (q := p' + 1) (by omega)) ?_)); intro w7 hF7 hz7))
              go_roundg (2 - (j + 1))
              case rel => exact ⟨j + 1, p' + 1, by omega, rfl, by go_num, box (by have := hpj.out; omega), by omega, hgo, hF7⟩
              case measure => have := hk.out; omega
            · have hq : ((x.toNat : Int) != (K.toNat : Int)) = true := by
                rw [bne_iff_ne]; intro h; exact hxK (UInt8.toNat_inj.1 (by omega))
              have hend : Box (jEscape b p = .error (p, 62)) := box (by
                rw [hJ.out, jEscJ_step hjlt hK.out (hpj.out ▸ hx), if_neg hxK])
              have hfl := box (fun v w => fail_any v p 62 w)
              clear hx
              replace hxK := box hxK
              go_wp2_with (first | (with_reducible refine lst (by with_unfolding_all rfl) (wp_indexAddr T_u8 (hF.rdOwn (i := 0) rfl) (by with_unfolding_all exact ⟨_, _, _, _, rfl, rfl, rfl⟩) (by omega) (by omega) ?_)) | (with_reducible refine lst (by with_unfolding_all rfl) (wp_loadC (hF.rdOwn (i := 0) rfl) hK Tryd.underlying5 rfl (by with_unfolding_all exact ⟨_, rfl, rfl⟩) (by first | (simp; done) | (simp; omega) | omega) ?_)))
              refine (hnx.out).mono ?_
              rintro e w6 ⟨rfl, q6, rfl⟩
              have hFd := hF.drewN q6
              go_wp2_with fail
              refine (hfl.out _ _).mono ?_
              rintro e w7 ⟨rfl, rfl⟩
              dsimp only [flt]
              go_wp2
              exact ⟨rfl, by unfold JEndP; rw [hend.out]; exact ⟨rfl, hFd.grown⟩⟩
          | none =>
            have hend : Box (jEscape b p = .error (n, 9)) := box (by
              rw [hJ.out, jEscJ_none hjlt (hpj.out ▸ hx), hl.out])
            have hnx := box (next_x hx (hF.blk (i := 1) rfl) (hF.rdB hg hB hr))
            rw [hl.out] at hnx
            clear hx
            go_wp2_with (first | (with_reducible refine lst (by with_unfolding_all rfl) (wp_indexAddr T_u8 (hF.rdOwn (i := 0) rfl) (by with_unfolding_all exact ⟨_, _, _, _, rfl, rfl, rfl⟩) (by omega) (by omega) ?_)) | (with_reducible refine lst (by with_unfolding_all rfl) (wp_loadC (hF.rdOwn (i := 0) rfl) hK Tryd.underlying5 rfl (by with_unfolding_all exact ⟨_, rfl, rfl⟩) (by first | (simp; done) | (simp; omega) | omega) ?_)))
            refine (hnx.out).mono ?_
            rintro e w6 ⟨rfl, hb6⟩
            have hFd := hF.call hb6
            dsimp only [flt]
            go_wp2
            exact ⟨rfl, by unfold JEndP; rw [hend.out]; exact ⟨rfl, hFd.grown⟩⟩
        · obtain rfl : j = 2 := by omega
          have hp8 := hpj.out
          subst hp8
          have hJ2 : Box (jEscape b p = jEsc2 b p N) := hJ
          have hun2 := box (unit_any g A n c (p + 8) m B p b wr (hF.blk (i := 1) rfl) hg (Nat.le_trans hB hF.size) hn (by omega) (hF.rdB hg hB hr))
          unfold jEsc2 at hJ2
          clear hJ hpj hk
          cases hM : jUnit b p 4 0 (p + 8) with
          | error z =>
            rw [hM] at hJ2 hun2
            unfold JPost at hun2
            simp only [] at hun2 hJ2
            go_wp2_with fail
            refine hun2.out.mono ?_
            rintro e w7 ⟨rfl, hg7⟩
            dsimp only [flt]
            go_wp2
            exact ⟨rfl, by unfold JEndP; rw [hJ2.out]; exact ⟨rfl, grown_trans hF.grown hg7⟩⟩
          | ok M =>
            have hM1 := jUnit_lt (N := 0) (j := 0) (by decide) hM
            have hM65 : M < 65536 := hM1.1
            rw [hM] at hJ2 hun2
            unfold JPost at hun2
            simp only [] at hun2 hJ2
            clear hM hM1
            by_cases hms : 56320 ≤ M ∧ M < 57344
            · have hJ3 := hJ2.out
              rw [if_pos hms] at hJ3
              replace hJ3 := box hJ3
              obtain ⟨R, hR⟩ : ∃ R, R = 65536 + (N - 55296) * 1024 + (M - 56320) := ⟨_, rfl⟩
              rw [← hR] at hJ3
              have hRi : wrap32 (wrap32 (65536 + wrap32 (wrap32 ((N : Int) - 55296) * 1024)) + wrap32 ((M : Int) - 56320)) = (R : Int) := by have := hs.out; unfold wrap32; omega
              have hAR' := box (fun w => hAR R w (by have := hs.out; omega) (by have := hs.out; omega))
              have d3 : decide ((56320 : Int) ≤ (M : Int)) = true := decide_eq_true (by omega)
              have d4 : decide ((M : Int) < 57344) = true := decide_eq_true (by omega)
              replace hms := box hms
              replace hM65 := box hM65
              replace hR := box hR
              go_wp2_with fail
              refine hun2.out.mono ?_
              rintro e w7 ⟨rfl, h7⟩
              have hF7 := hF.putF (i := 1) rfl h7
              go_wp2_with fail
              refine (hAR'.out _).mono ?_
              rintro e w8 ⟨v8, rfl, ho8, hb8⟩
              have hF8 := (hF7.tail).gotB hb8 ho8
              go_wp2_with fail
              go_ret
              unfold JEndP
              rw [hJ3.out]
              exact ⟨_, rfl, hF8⟩
            · have hJ3 := hJ2.out
              rw [if_neg hms] at hJ3
              replace hJ3 := box hJ3
              have hfl := box (fun v w => fail_any v p 62 w)
              have d5 : (decide ((56320 : Int) ≤ (M : Int)) && decide ((M : Int) < 57344)) = false := by
                rw [Bool.and_eq_false_iff, decide_eq_false_iff_not, decide_eq_false_iff_not]; omega
              by_cases hm1 : 56320 ≤ M
              · have d3 : decide ((56320 : Int) ≤ (M : Int)) = true := decide_eq_true (by omega)
                have d4 : decide ((M : Int) < 57344) = false := decide_eq_false (by omega)
                replace hms := box hms
                replace hM65 := box hM65
                replace hm1 := box hm1
                clear d5
                go_wp2_with fail
                refine hun2.out.mono ?_
                rintro e w7 ⟨rfl, h7⟩
                have hF7 := hF.putF (i := 1) rfl h7
                go_wp2_with fail
                refine (hfl.out _ _).mono ?_
                rintro e w8 ⟨rfl, rfl⟩
                dsimp only [flt]
                go_wp2
                exact ⟨rfl, by unfold JEndP; rw [hJ3.out]; exact ⟨rfl, hF7.grown⟩⟩
              · have d3 : decide ((56320 : Int) ≤ (M : Int)) = false := decide_eq_false (by omega)
                replace hms := box hms
                replace hM65 := box hM65
                replace hm1 := box hm1
                clear d5
                go_wp2_with fail
                refine hun2.out.mono ?_
                rintro e w7 ⟨rfl, h7⟩
                have hF7 := hF.putF (i := 1) rfl h7
                go_wp2_with fail
                refine (hfl.out _ _).mono ?_
                rintro e w8 ⟨rfl, rfl⟩
                dsimp only [flt]
                go_wp2
                exact ⟨rfl, by unfold JEndP; rw [hJ3.out]; exact ⟨rfl, hF7.grown⟩⟩
    · rw [if_neg hs] at hj
      by_cases hs2 : 56320 ≤ N ∧ N < 57344
      · rw [if_pos hs2] at hj
        replace hj := box hj
        have hfl := box (fun v w => fail_any v p 62 w)
        have d1 : decide ((55296 : Int) ≤ (N : Int)) = true := decide_eq_true (by omega)
        have d2 : decide ((N : Int) < 56320) = false := decide_eq_false (by omega)
        have d3 : decide ((56320 : Int) ≤ (N : Int)) = true := decide_eq_true (by omega)
        have d4 : decide ((N : Int) < 57344) = true := decide_eq_true (by omega)
        clear hs hs2 hN65
        go_enter Tryd.func55, Tryd.ntmps55
        go_wp2_with (first | ((with_reducible refine lst (by with_unfolding_all rfl) (wp_fst0 hF0 (by with_unfolding_all exact ⟨_, _, rfl, rfl, rfl⟩) (by kernel_rfl) rfl rfl (by rw [rdrL_len]; decide) (rdrL_at (q := p + 1) (by omega)) ?_)); intro w1 hF1 hz1))
        refine (hnx.out _ hF1).mono ?_
        rintro e w2 ⟨rfl, q2, rfl⟩
        have hF2 := hF1.drewN q2
        have h2 := rdr_p (hF2.blk (i := 0) rfl)
        go_wp2_with (first | ((with_reducible refine lst (by with_unfolding_all rfl) (wp_fst0 hF2 (by with_unfolding_all exact ⟨_, _, rfl, rfl, rfl⟩) (by kernel_rfl) rfl rfl (by rw [rdrL_len]; decide) (rdrL_at (q := p + 2) (by omega)) ?_)); intro w3 hF3 hz3))
        refine (hun.out _ hF3).mono ?_
        rintro e w4 ⟨rfl, h4⟩
        have hF4 := hF3.putF (i := 0) rfl h4
        go_wp2_with fail
        refine (hfl.out _ _).mono ?_
        rintro e w8 ⟨rfl, rfl⟩
        dsimp only [flt]
        go_wp2
        exact ⟨rfl, by unfold JEndP; rw [hj.out]; exact ⟨rfl, hF4.grown⟩⟩
      · rw [if_neg hs2] at hj
        replace hj := box hj
        have hAR' := box (fun w => hAR N w (by omega) (by omega))
        by_cases hs3 : N < 55296
        · have d1 : decide ((55296 : Int) ≤ (N : Int)) = false := decide_eq_false (by omega)
          have d3 : decide ((56320 : Int) ≤ (N : Int)) = false := decide_eq_false (by omega)
          clear hs hs2 hN65 hs3
          go_enter Tryd.func55, Tryd.ntmps55
          go_wp2_with (first | ((with_reducible refine lst (by with_unfolding_all rfl) (wp_fst0 hF0 (by with_unfolding_all exact ⟨_, _, rfl, rfl, rfl⟩) (by kernel_rfl) rfl rfl (by rw [rdrL_len]; decide) (rdrL_at (q := p + 1) (by omega)) ?_)); intro w1 hF1 hz1))
          refine (hnx.out _ hF1).mono ?_
          rintro e w2 ⟨rfl, q2, rfl⟩
          have hF2 := hF1.drewN q2
          have h2 := rdr_p (hF2.blk (i := 0) rfl)
          go_wp2_with (first | ((with_reducible refine lst (by with_unfolding_all rfl) (wp_fst0 hF2 (by with_unfolding_all exact ⟨_, _, rfl, rfl, rfl⟩) (by kernel_rfl) rfl rfl (by rw [rdrL_len]; decide) (rdrL_at (q := p + 2) (by omega)) ?_)); intro w3 hF3 hz3))
          refine (hun.out _ hF3).mono ?_
          rintro e w4 ⟨rfl, h4⟩
          have hF4 := hF3.putF (i := 0) rfl h4
          go_wp2_with fail
          refine (hAR'.out _).mono ?_
          rintro e w8 ⟨v8, rfl, ho8, hb8⟩
          have hF8 := hF4.gotB hb8 ho8
          go_wp2_with fail
          go_ret
          unfold JEndP
          rw [hj.out]
          exact ⟨_, rfl, hF8⟩
        · have d1 : decide ((55296 : Int) ≤ (N : Int)) = true := decide_eq_true (by omega)
          have d2 : decide ((N : Int) < 56320) = false := decide_eq_false (by omega)
          have d3 : decide ((56320 : Int) ≤ (N : Int)) = true := decide_eq_true (by omega)
          have d4 : decide ((N : Int) < 57344) = false := decide_eq_false (by omega)
          clear hs hs2 hN65 hs3
          go_enter Tryd.func55, Tryd.ntmps55
          go_wp2_with (first | ((with_reducible refine lst (by with_unfolding_all rfl) (wp_fst0 hF0 (by with_unfolding_all exact ⟨_, _, rfl, rfl, rfl⟩) (by kernel_rfl) rfl rfl (by rw [rdrL_len]; decide) (rdrL_at (q := p + 1) (by omega)) ?_)); intro w1 hF1 hz1))
          refine (hnx.out _ hF1).mono ?_
          rintro e w2 ⟨rfl, q2, rfl⟩
          have hF2 := hF1.drewN q2
          have h2 := rdr_p (hF2.blk (i := 0) rfl)
          go_wp2_with (first | ((with_reducible refine lst (by with_unfolding_all rfl) (wp_fst0 hF2 (by with_unfolding_all exact ⟨_, _, rfl, rfl, rfl⟩) (by kernel_rfl) rfl rfl (by rw [rdrL_len]; decide) (rdrL_at (q := p + 2) (by omega)) ?_)); intro w3 hF3 hz3))
          refine (hun.out _ hF3).mono ?_
          rintro e w4 ⟨rfl, h4⟩
          have hF4 := hF3.putF (i := 0) rfl h4
          go_wp2_with fail
          refine (hAR'.out _).mono ?_
          rintro e w8 ⟨v8, rfl, ho8, hb8⟩
          have hF8 := hF4.gotB hb8 ho8
          go_wp2_with fail
          go_ret
          unfold JEndP
          rw [hj.out]
          exact ⟨_, rfl, hF8⟩
theorem escape_any (hAR : RuneOk) (g : Nat) (A : Option Addr) (n c p m B : Nat) (b : List UInt8) (w : World) (hh : w.heap[g]? = some (.cells (rdrL A n c p m).toArray 63 (0, 0))) (hg : B ≤ g) (hB : B ≤ w.heap.size) (hn : n ≤ 140737488355000) (hp : p < n) (hr : Rd w (· < B) A 1 n (b.map bv)) :
    Calls Tryd.prog 55 #[.pointer (some ⟨g, 0, none⟩)] w (JEndP w g (jEscape b p) (ToldB w g A n c m)) := by
  by_cases hu : b[p + 1]? = some 117
  · exact escape_u hAR g A n c p m B b w hh hg hB hn hr hu
  · exact escape_plain g A n c p m B b w hh hg hB hn hp hr hu
end Go.Proofs.YtdekogmegdhjoaaDoor
