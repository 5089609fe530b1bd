/-
  Layer 6: the program's reader: an escape of four digits, or twice four.
  Layer 6 in plain words: the library's decoder of UTF-8, and how many bytes a sign has. No program is named here.
  The library's contracts that this seat uses, laid by the kit's tools.
  Layer 6: what the library's functions do: their contracts in the words of the walks.
-/
import Derived.Test.YtdekogmegdhjoaaDoorM04
import Derived.Test.YtdekogmegdhjoaaDoorM01
import Derived.Lib.DecodeN
import Derived.Lib.RuneBytes
import Derived.Shelf.Utf8.AppendRunePlain
import Derived.Shelf.Strconv.Atoi
import Derived.Shelf.Strconv.Itoa0
import Derived.Shelf.Strconv.Itoa1
import Derived.Shelf.LaysM
import Derived.Shelf.Strconv.Itoa2
import Derived.Shelf.Strconv.Itoa3
import Derived.Shelf.Strconv.AtoiErrFast
import Derived.Shelf.Strconv.ParseIntEmpty
import Derived.Shelf.Strconv.AtoiFail
import Derived.Shelf.Strconv.Clone
import Derived.Shelf.Strconv.SyntaxError
import Derived.Shelf.LaysC
import Derived.Shelf.Strconv.ToError
import Derived.Shelf.Strconv.Lower
import Derived.Shelf.Strconv.ParseUint10
import Derived.Shelf.Strconv.ParseUint10Empty
import Derived.Shelf.Strconv.ParseUint10Any
import Derived.Shelf.Strconv.ParseInt10
import Derived.Shelf.Strconv.AtoiLong
import Derived.Shelf.Strconv.AtoiInnerAll
import Derived.Shelf.Strconv.RangeError
import Derived.Shelf.Strconv.ToErrorRange
import Derived.Shelf.Strconv.AtoiAll
import Derived.Shelf.Strconv.ErrVarAll
import Derived.Shelf.Strconv.AppendUint10
import Derived.Shelf.Strconv.AppendInt10
import Derived.Shelf.Strconv.AppendIntPublic10
import Derived.Shelf.Spec.DecodeRune
import Derived.Shelf.Unicode.ValidAny
import Derived.Test.YtdekogmegdhjoaaDoorProg
namespace Go.Proofs.YtdekogmegdhjoaaDoor
open Go.RowKit
set_option linter.unusedSimpArgs false

/-- The second half of a pair, from its digits on; from its 'u' on; from its backslash on. -/
def jEsc2 (b : List UInt8) (p n : Nat) : JR (List UInt8 × Nat) :=
  match jUnit b p 4 0 (p + 8) with
  | .error x => .error x
  | .ok m => if 56320 ≤ m ∧ m < 57344 then .ok (jSign (65536 + (n - 55296) * 1024 + (m - 56320)), p + 12) else .error (p, 62)
def jEsc1 (b : List UInt8) (p n : Nat) : JR (List UInt8 × Nat) :=
  match b[p + 7]? with
  | none => .error (b.length, 9)
  | some y => if y ≠ 117 then .error (p, 62) else jEsc2 b p n
def jEsc0 (b : List UInt8) (p n : Nat) : JR (List UInt8 × Nat) :=
  match b[p + 6]? with
  | none => .error (b.length, 9)
  | some y => if y ≠ 92 then .error (p, 62) else jEsc1 b p n
def jEscJ (b : List UInt8) (p n : Nat) : Nat → JR (List UInt8 × Nat)
  | 0 => jEsc0 b p n
  | 1 => jEsc1 b p n
  | _ => jEsc2 b p n
theorem jEscJ_step {b : List UInt8} {p N j : Nat} {x K : UInt8} (hj : j < 2) (hK : ([92, 117] : List UInt8)[j]? = some K) (hx : b[p + 6 + j]? = some x) :
    jEscJ b p N j = if x = K then jEscJ b p N (j + 1) else .error (p, 62) := by
  match j, hj with
  | 0, _ =>
    obtain rfl : (92 : UInt8) = K := Option.some.inj hK
    show jEsc0 b p N = if x = 92 then jEsc1 b p N else _
    have hx' : b[p + 6]? = some x := hx
    unfold jEsc0
    rw [hx']
    by_cases h : x = 92
    · rw [if_pos h]; simp [h]
    · rw [if_neg h]; simp [h]
  | 1, _ =>
    obtain rfl : (117 : UInt8) = K := Option.some.inj hK
    show jEsc1 b p N = if x = 117 then jEsc2 b p N else _
    have hx' : b[p + 7]? = some x := hx
    unfold jEsc1
    rw [hx']
    by_cases h : x = 117
    · rw [if_pos h]; simp [h]
    · rw [if_neg h]; simp [h]
theorem jEscJ_none {b : List UInt8} {p N j : Nat} (hj : j < 2) (hx : b[p + 6 + j]? = none) : jEscJ b p N j = .error (b.length, 9) := by
  match j, hj with
  | 0, _ =>
    show jEsc0 b p N = _
    have hx' : b[p + 6]? = none := hx
    unfold jEsc0
    rw [hx']
  | 1, _ =>
    show jEsc1 b p N = _
    have hx' : b[p + 7]? = none := hx
    unfold jEsc1
    rw [hx']
theorem jEscape_u {b : List UInt8} {p : Nat} (hx : b[p + 1]? = some 117) : jEscape b p =
    match jUnit b p 4 0 (p + 2) with
    | .error x => .error x
    | .ok n => if 55296 ≤ n ∧ n < 56320 then jEsc0 b p n else if 56320 ≤ n ∧ n < 57344 then .error (p, 62) else .ok (jSign n, p + 6) := by
  unfold jEscape
  rw [hx]
  simp only []
  rw [if_neg (by decide), if_neg (by decide), if_neg (by decide), if_neg (by decide), if_neg (by decide), if_neg (by decide), if_pos trivial]
  rfl

set_option maxRecDepth 20000 in
set_option maxHeartbeats 6400000 in
theorem escape_u (hAR : RuneOk) (g : Nat) (A : Option Addr) (n c p m B : Nat) (b : List UInt8) (w : World) (hh : w.heap[g]? = some (.cells (rdrL A n c p m).toArray 63 (0, 0))) (hg : B ≤ g) (hB : B ≤ w.heap.size) (hn : n ≤ 140737488355000) (hr : Rd w (· < B) A 1 n (b.map bv)) (hx : b[p + 1]? = some 117) :
    Calls Tryd.prog 55 #[.pointer (some ⟨g, 0, none⟩)] w (JEndP w g (jEscape b p) (ToldB w g A n c m)) := by
  have hl := box hr.bytes_len
  have hF0 := Fr.one hh
  have h1 := rdr_p hh
  clear hh
  have hp1 := (List.getElem?_eq_some_iff.1 hx).1
  rw [hl.out] at hp1
  have hnx := box (fun w' (hF : Fr [g] w w' [.blk g 63 (rdrL A n c (p + 1) m)]) => next_q hx (hF.blk (i := 0) rfl) (hF.rdB hg hB hr) 0)
  have hj := jEscape_u hx
  have hun := box (fun w' (hF : Fr [g] w w' [.blk g 63 (rdrL A n c (p + 2) m)]) => unit_any g A n c (p + 2) m B p b w' (hF.blk (i := 0) rfl) hg (Nat.le_trans hB hF.size) hn (by omega) (hF.rdB hg hB hr))
  clear hx
  cases hU : jUnit b p 4 0 (p + 2) with
  | error z =>
    rw [hU] at hj hun
    replace hj := box hj
    unfold JPost at hun
    simp only [] at hun
    go_enter Tryd.func55, Tryd.ntmps55
    go_wp2_with (first | ((with_reducible refine lst (by with_unfolding_all rfl) (wp_fst0 hF0 (by with_unfolding_all exact ⟨_, _, rfl, rfl, rfl⟩) (by kernel_rfl) rfl rfl (by rw [rdrL_len]; decide) (rdrL_at (q := p + 1) (by omega)) ?_)); intro w1 hF1 hz1))
    refine (hnx.out _ hF1).mono ?_
    rintro e w2 ⟨rfl, q2, rfl⟩
    have hF2 := hF1.drewN q2
    have h2 := rdr_p (hF2.blk (i := 0) rfl)
    go_wp2_with (first | ((with_reducible refine lst (by with_unfolding_all rfl) (wp_fst0 hF2 (by with_unfolding_all exact ⟨_, _, rfl, rfl, rfl⟩) (by kernel_rfl) rfl rfl (by rw [rdrL_len]; decide) (rdrL_at (q := p + 2) (by omega)) ?_)); intro w3 hF3 hz3))
    refine (hun.out _ hF3).mono ?_
    rintro e w4 ⟨rfl, hg4⟩
    dsimp only [flt]
    go_wp2
    exact ⟨rfl, by unfold JEndP; rw [hj.out]; exact ⟨rfl, grown_trans hF3.grown hg4⟩⟩
  | ok N =>
    have hN := jUnit_lt (N := 0) (j := 0) (by decide) hU
    rw [hU] at hj hun
    unfold JPost at hun
    simp only [] at hun hj
    rw [hl.out] at hN
    obtain ⟨hN1, hN2⟩ := hN
    have hN65 : N < 65536 := hN1
    have hp6 : p + 6 ≤ n := by omega
    clear hU hN1 hN2
    by_cases hs : 55296 ≤ N ∧ N < 56320
    · rw [if_pos hs] at hj
      replace hj := box hj
      have d1 : decide ((55296 : Int) ≤ (N : Int)) = true := decide_eq_true (by omega)
      have d2 : decide ((N : Int) < 56320) = true := decide_eq_true (by omega)
      replace hs := box hs
      replace hN65 := box hN65
      go_enter Tryd.func55, Tryd.ntmps55
      go_wp2_with (first | ((with_reducible refine lst (by with_unfolding_all rfl) (wp_fst0 hF0 (by with_unfolding_all exact ⟨_, _, rfl, rfl, rfl⟩) (by kernel_rfl) rfl rfl (by rw [rdrL_len]; decide) (rdrL_at (q := p + 1) (by omega)) ?_)); intro w1 hF1 hz1))
      refine (hnx.out _ hF1).mono ?_
      rintro e w2 ⟨rfl, q2, rfl⟩
      have hF2 := hF1.drewN q2
      have h2 := rdr_p (hF2.blk (i := 0) rfl)
      go_wp2_with (first | ((with_reducible refine lst (by with_unfolding_all rfl) (wp_fst0 hF2 (by with_unfolding_all exact ⟨_, _, rfl, rfl, rfl⟩) (by kernel_rfl) rfl rfl (by rw [rdrL_len]; decide) (rdrL_at (q := p + 2) (by omega)) ?_)); intro w3 hF3 hz3))
      refine (hun.out _ hF3).mono ?_
      rintro e w4 ⟨rfl, h4⟩
      have hF4 := hF3.putF (i := 0) rfl h4
      clear hF0 hF1 hF2 hF3 hun hnx
      go_wp2_with (first | ((with_reducible refine lst (by with_unfolding_all rfl) (wp_fbsl T_u8 hF4 (vs := [.int .u8 92, .int .u8 117]) (by with_unfolding_all rfl) (by with_unfolding_all rfl) (by with_unfolding_all rfl) (by decide) (by simp [Value.cells]) ?_)); intro w5 g5 hF5 hz5))
      clear d1 d2
      go_loopg [64] 2 (fun k i wr => ∃ j p' : Nat, j ≤ 2 ∧ k = 2 - j ∧ i = .int .i64 (j : Int) ∧ Box (p' = p + 6 + j) ∧ p' ≤ n ∧ Box (jEscape b p = jEscJ b p N j) ∧ Fr [g] w wr [Ent.bytes w.heap.size 5 (.slice (some ⟨g5, 0, none⟩) 2 2) [92, 117], .blk g 63 (rdrL A n c p' m)])
      case atStart => exact ⟨0, p + 6, by omega, rfl, rfl, box rfl, hp6, hj, hF5⟩
      case round =>
        obtain ⟨j, p', hj2, hk, rfl, hpj, hpn, hJ, hF⟩ := hrel
        clear hF4 hF5 hj
        by_cases hjlt : j < 2
        · obtain ⟨K, hK⟩ : ∃ K : UInt8, ([92, 117] : List UInt8)[j]? = some K := ⟨[92, 117][j]'(by simpa using hjlt), by simp⟩
          have hKb := K.toNat_lt
          replace hK := box hK
          cases hx : b[p']? with
          | some x =>
            have hxb := x.toNat_lt
            have hnx := box (next_q hx (hF.blk (i := 1) rfl) (hF.rdB hg hB hr) 0)
            have hplt := (List.getElem?_eq_some_iff.1 hx).1
            rw [hl.out] at hplt
            by_cases hxK : x = K
            · have hq : ((x.toNat : Int) != (K.toNat : Int)) = false := by rw [hxK]; simp
              have hgo : Box (jEscape b p = jEscJ b p N (j + 1)) := box (by
                rw [hJ.out, jEscJ_step hjlt hK.out (hpj.out ▸ hx), if_pos hxK])
              have h1' := rdr_p (hF.blk (i := 1) rfl)
              replace hk := box hk
              clear hx
              replace hxK := box hxK
              go_wp2_with (first | (with_reducible refine lst (by with_unfolding_all rfl) (wp_indexAddr T_u8 (hF.rdOwn (i := 0) rfl) (by with_unfolding_all exact ⟨_, _, _, _, rfl, rfl, rfl⟩) (by omega) (by omega) ?_)) | (with_reducible refine lst (by with_unfolding_all rfl) (wp_loadC (hF.rdOwn (i := 0) rfl) hK Tryd.underlying5 rfl (by with_unfolding_all exact ⟨_, rfl, rfl⟩) (by first | (simp; done) | (simp; omega) | omega) ?_)))
              refine (hnx.out).mono ?_
              rintro e w6 ⟨rfl, q6, rfl⟩
              have hFd := hF.drewN q6
              have h1d := rdr_p (hFd.blk (i := 1) rfl)
              go_wp2_with (first | ((with_reducible refine lst (by with_unfolding_all rfl) (wp_fst1 hFd (by with_unfolding_all exact ⟨_, _, rfl, rfl, rfl⟩) (by kernel_rfl) rfl rfl (by rw [rdrL_len]; decide) (rdrL_at (q := p' + 1) (by omega)) ?_)); intro w7 hF7 hz7))
              go_roundg (2 - (j + 1))
              case rel => exact ⟨j + 1, p' + 1, by omega, rfl, by go_num, box (by have := hpj.out; omega), by omega, hgo, hF7⟩
              case measure => have := hk.out; omega
            · have hq : ((x.toNat : Int) != (K.toNat : Int)) = true := by
                rw [bne_iff_ne]; intro h; exact hxK (UInt8.toNat_inj.1 (by omega))
              have hend : Box (jEscape b p = .error (p, 62)) := box (by
                rw [hJ.out, jEscJ_step hjlt hK.out (hpj.out ▸ hx), if_neg hxK])
              have hfl := box (fun v w => fail_any v p 62 w)
              clear hx
              replace hxK := box hxK
              go_wp2_with (first | (with_reducible refine lst (by with_unfolding_all rfl) (wp_indexAddr T_u8 (hF.rdOwn (i := 0) rfl) (by with_unfolding_all exact ⟨_, _, _, _, rfl, rfl, rfl⟩) (by omega) (by omega) ?_)) | (with_reducible refine lst (by with_unfolding_all rfl) (wp_loadC (hF.rdOwn (i := 0) rfl) hK Tryd.underlying5 rfl (by with_unfolding_all exact ⟨_, rfl, rfl⟩) (by first | (simp; done) | (simp; omega) | omega) ?_)))
              refine (hnx.out).mono ?_
              rintro e w6 ⟨rfl, q6, rfl⟩
              have hFd := hF.drewN q6
              go_wp2_with fail
              refine (hfl.out _ _).mono ?_
              rintro e w7 ⟨rfl, rfl⟩
              dsimp only [flt]
              go_wp2
              exact ⟨rfl, by unfold JEndP; rw [hend.out]; exact ⟨rfl, hFd.grown⟩⟩
          | none =>
            have hend : Box (jEscape b p = .error (n, 9)) := box (by
              rw [hJ.out, jEscJ_none hjlt (hpj.out ▸ hx), hl.out])
            have hnx := box (next_x hx (hF.blk (i := 1) rfl) (hF.rdB hg hB hr))
            rw [hl.out] at hnx
            clear hx
            go_wp2_with (first | (with_reducible refine lst (by with_unfolding_all rfl) (wp_indexAddr T_u8 (hF.rdOwn (i := 0) rfl) (by with_unfolding_all exact ⟨_, _, _, _, rfl, rfl, rfl⟩) (by omega) (by omega) ?_)) | (with_reducible refine lst (by with_unfolding_all rfl) (wp_loadC (hF.rdOwn (i := 0) rfl) hK Tryd.underlying5 rfl (by with_unfolding_all exact ⟨_, rfl, rfl⟩) (by first | (simp; done) | (simp; omega) | omega) ?_)))
            refine (hnx.out).mono ?_
            rintro e w6 ⟨rfl, hb6⟩
            have hFd := hF.call hb6
            dsimp only [flt]
            go_wp2
            exact ⟨rfl, by unfold JEndP; rw [hend.out]; exact ⟨rfl, hFd.grown⟩⟩
        · obtain rfl : j = 2 := by omega
          have hp8 := hpj.out
          subst hp8
          have hJ2 : Box (jEscape b p = jEsc2 b p N) := hJ
          have hun2 := box (unit_any g A n c (p + 8) m B p b wr (hF.blk (i := 1) rfl) hg (Nat.le_trans hB hF.size) hn (by omega) (hF.rdB hg hB hr))
          unfold jEsc2 at hJ2
          clear hJ hpj hk
          cases hM : jUnit b p 4 0 (p + 8) with
          | error z =>
            rw [hM] at hJ2 hun2
            unfold JPost at hun2
            simp only [] at hun2 hJ2
            go_wp2_with fail
            refine hun2.out.mono ?_
            rintro e w7 ⟨rfl, hg7⟩
            dsimp only [flt]
            go_wp2
            exact ⟨rfl, by unfold JEndP; rw [hJ2.out]; exact ⟨rfl, grown_trans hF.grown hg7⟩⟩
          | ok M =>
            have hM1 := jUnit_lt (N := 0) (j := 0) (by decide) hM
            have hM65 : M < 65536 := hM1.1
            rw [hM] at hJ2 hun2
            unfold JPost at hun2
            simp only [] at hun2 hJ2
            clear hM hM1
            by_cases hms : 56320 ≤ M ∧ M < 57344
            · have hJ3 := hJ2.out
              rw [if_pos hms] at hJ3
              replace hJ3 := box hJ3
              obtain ⟨R, hR⟩ : ∃ R, R = 65536 + (N - 55296) * 1024 + (M - 56320) := ⟨_, rfl⟩
              rw [← hR] at hJ3
              have hRi : wrap32 (wrap32 (65536 + wrap32 (wrap32 ((N : Int) - 55296) * 1024)) + wrap32 ((M : Int) - 56320)) = (R : Int) := by have := hs.out; unfold wrap32; omega
              have hAR' := box (fun w => hAR R w (by have := hs.out; omega) (by have := hs.out; omega))
              have d3 : decide ((56320 : Int) ≤ (M : Int)) = true := decide_eq_true (by omega)
              have d4 : decide ((M : Int) < 57344) = true := decide_eq_true (by omega)
              replace hms := box hms
              replace hM65 := box hM65
              replace hR := box hR
              go_wp2_with fail
              refine hun2.out.mono ?_
              rintro e w7 ⟨rfl, h7⟩
              have hF7 := hF.putF (i := 1) rfl h7
              go_wp2_with fail
              refine (hAR'.out _).mono ?_
              rintro e w8 ⟨v8, rfl, ho8, hb8⟩
              have hF8 := (hF7.tail).gotB hb8 ho8
              go_wp2_with fail
              go_ret
              unfold JEndP
              rw [hJ3.out]
              exact ⟨_, rfl, hF8⟩
            · have hJ3 := hJ2.out
              rw [if_neg hms] at hJ3
              replace hJ3 := box hJ3
              have hfl := box (fun v w => fail_any v p 62 w)
              have d5 : (decide ((56320 : Int) ≤ (M : Int)) && decide ((M : Int) < 57344)) = false := by
                rw [Bool.and_eq_false_iff, decide_eq_false_iff_not, decide_eq_false_iff_not]; omega
              by_cases hm1 : 56320 ≤ M
              · have d3 : decide ((56320 : Int) ≤ (M : Int)) = true := decide_eq_true (by omega)
                have d4 : decide ((M : Int) < 57344) = false := decide_eq_false (by omega)
                replace hms := box hms
                replace hM65 := box hM65
                replace hm1 := box hm1
                clear d5
                go_wp2_with fail
                refine hun2.out.mono ?_
                rintro e w7 ⟨rfl, h7⟩
                have hF7 := hF.putF (i := 1) rfl h7
                go_wp2_with fail
                refine (hfl.out _ _).mono ?_
                rintro e w8 ⟨rfl, rfl⟩
                dsimp only [flt]
                go_wp2
                exact ⟨rfl, by unfold JEndP; rw [hJ3.out]; exact ⟨rfl, hF7.grown⟩⟩
              · have d3 : decide ((56320 : Int) ≤ (M : Int)) = false := decide_eq_false (by omega)
                replace hms := box hms
                replace hM65 := box hM65
                replace hm1 := box hm1
                clear d5
                go_wp2_with fail
                refine hun2.out.mono ?_
                rintro e w7 ⟨rfl, h7⟩
                have hF7 := hF.putF (i := 1) rfl h7
                go_wp2_with fail
                refine (hfl.out _ _).mono ?_
                rintro e w8 ⟨rfl, rfl⟩
                dsimp only [flt]
                go_wp2
                exact ⟨rfl, by unfold JEndP; rw [hJ3.out]; exact ⟨rfl, hF7.grown⟩⟩
    · rw [if_neg hs] at hj
      by_cases hs2 : 56320 ≤ N ∧ N < 57344
      · rw [if_pos hs2] at hj
        replace hj := box hj
        have hfl := box (fun v w => fail_any v p 62 w)
        have d1 : decide ((55296 : Int) ≤ (N : Int)) = true := decide_eq_true (by omega)
        have d2 : decide ((N : Int) < 56320) = false := decide_eq_false (by omega)
        have d3 : decide ((56320 : Int) ≤ (N : Int)) = true := decide_eq_true (by omega)
        have d4 : decide ((N : Int) < 57344) = true := decide_eq_true (by omega)
        clear hs hs2 hN65
        go_enter Tryd.func55, Tryd.ntmps55
        go_wp2_with (first | ((with_reducible refine lst (by with_unfolding_all rfl) (wp_fst0 hF0 (by with_unfolding_all exact ⟨_, _, rfl, rfl, rfl⟩) (by kernel_rfl) rfl rfl (by rw [rdrL_len]; decide) (rdrL_at (q := p + 1) (by omega)) ?_)); intro w1 hF1 hz1))
        refine (hnx.out _ hF1).mono ?_
        rintro e w2 ⟨rfl, q2, rfl⟩
        have hF2 := hF1.drewN q2
        have h2 := rdr_p (hF2.blk (i := 0) rfl)
        go_wp2_with (first | ((with_reducible refine lst (by with_unfolding_all rfl) (wp_fst0 hF2 (by with_unfolding_all exact ⟨_, _, rfl, rfl, rfl⟩) (by kernel_rfl) rfl rfl (by rw [rdrL_len]; decide) (rdrL_at (q := p + 2) (by omega)) ?_)); intro w3 hF3 hz3))
        refine (hun.out _ hF3).mono ?_
        rintro e w4 ⟨rfl, h4⟩
        have hF4 := hF3.putF (i := 0) rfl h4
        go_wp2_with fail
        refine (hfl.out _ _).mono ?_
        rintro e w8 ⟨rfl, rfl⟩
        dsimp only [flt]
        go_wp2
        exact ⟨rfl, by unfold JEndP; rw [hj.out]; exact ⟨rfl, hF4.grown⟩⟩
      · rw [if_neg hs2] at hj
        replace hj := box hj
        have hAR' := box (fun w => hAR N w (by omega) (by omega))
        by_cases hs3 : N < 55296
        · have d1 : decide ((55296 : Int) ≤ (N : Int)) = false := decide_eq_false (by omega)
          have d3 : decide ((56320 : Int) ≤ (N : Int)) = false := decide_eq_false (by omega)
          clear hs hs2 hN65 hs3
          go_enter Tryd.func55, Tryd.ntmps55
          go_wp2_with (first | ((with_reducible refine lst (by with_unfolding_all rfl) (wp_fst0 hF0 (by with_unfolding_all exact ⟨_, _, rfl, rfl, rfl⟩) (by kernel_rfl) rfl rfl (by rw [rdrL_len]; decide) (rdrL_at (q := p + 1) (by omega)) ?_)); intro w1 hF1 hz1))
          refine (hnx.out _ hF1).mono ?_
          rintro e w2 ⟨rfl, q2, rfl⟩
          have hF2 := hF1.drewN q2
          have h2 := rdr_p (hF2.blk (i := 0) rfl)
          go_wp2_with (first | ((with_reducible refine lst (by with_unfolding_all rfl) (wp_fst0 hF2 (by with_unfolding_all exact ⟨_, _, rfl, rfl, rfl⟩) (by kernel_rfl) rfl rfl (by rw [rdrL_len]; decide) (rdrL_at (q := p + 2) (by omega)) ?_)); intro w3 hF3 hz3))
          refine (hun.out _ hF3).mono ?_
          rintro e w4 ⟨rfl, h4⟩
          have hF4 := hF3.putF (i := 0) rfl h4
          go_wp2_with fail
          refine (hAR'.out _).mono ?_
          rintro e w8 ⟨v8, rfl, ho8, hb8⟩
          have hF8 := hF4.gotB hb8 ho8
          go_wp2_with fail
          go_ret
          unfold JEndP
          rw [hj.out]
          exact ⟨_, rfl, hF8⟩
        · have d1 : decide ((55296 : Int) ≤ (N : Int)) = true := decide_eq_true (by omega)
          have d2 : decide ((N : Int) < 56320) = false := decide_eq_false (by omega)
          have d3 : decide ((56320 : Int) ≤ (N : Int)) = true := decide_eq_true (by omega)
          have d4 : decide ((N : Int) < 57344) = false := decide_eq_false (by omega)
          clear hs hs2 hN65 hs3
          go_enter Tryd.func55, Tryd.ntmps55
          go_wp2_with (first | ((with_reducible refine lst (by with_unfolding_all rfl) (wp_fst0 hF0 (by with_unfolding_all exact ⟨_, _, rfl, rfl, rfl⟩) (by kernel_rfl) rfl rfl (by rw [rdrL_len]; decide) (rdrL_at (q := p + 1) (by omega)) ?_)); intro w1 hF1 hz1))
          refine (hnx.out _ hF1).mono ?_
          rintro e w2 ⟨rfl, q2, rfl⟩
          have hF2 := hF1.drewN q2
          have h2 := rdr_p (hF2.blk (i := 0) rfl)
          go_wp2_with (first | ((with_reducible refine lst (by with_unfolding_all rfl) (wp_fst0 hF2 (by with_unfolding_all exact ⟨_, _, rfl, rfl, rfl⟩) (by kernel_rfl) rfl rfl (by rw [rdrL_len]; decide) (rdrL_at (q := p + 2) (by omega)) ?_)); intro w3 hF3 hz3))
          refine (hun.out _ hF3).mono ?_
          rintro e w4 ⟨rfl, h4⟩
          have hF4 := hF3.putF (i := 0) rfl h4
          go_wp2_with fail
          refine (hAR'.out _).mono ?_
          rintro e w8 ⟨v8, rfl, ho8, hb8⟩
          have hF8 := hF4.gotB hb8 ho8
          go_wp2_with fail
          go_ret
          unfold JEndP
          rw [hj.out]
          exact ⟨_, rfl, hF8⟩
theorem escape_any (hAR : RuneOk) (g : Nat) (A : Option Addr) (n c p m B : Nat) (b : List UInt8) (w : World) (hh : w.heap[g]? = some (.cells (rdrL A n c p m).toArray 63 (0, 0))) (hg : B ≤ g) (hB : B ≤ w.heap.size) (hn : n ≤ 140737488355000) (hp : p < n) (hr : Rd w (· < B) A 1 n (b.map bv)) :
    Calls Tryd.prog 55 #[.pointer (some ⟨g, 0, none⟩)] w (JEndP w g (jEscape b p) (ToldB w g A n c m)) := by
  by_cases hu : b[p + 1]? = some 117
  · exact escape_u hAR g A n c p m B b w hh hg hB hn hr hu
  · exact escape_plain g A n c p m B b w hh hg hB hn hp hr hu
end Go.Proofs.YtdekogmegdhjoaaDoor

namespace Go.Proofs.YtdekogmegdhjoaaDoor
open Go.Lib

theorem u8r (c : UInt8) : c.toNat < 256 := c.toNat_lt
theorem decodeN_size (c : UInt8) (l : List UInt8) (b1 b2 b3 : Nat) (h1 : ∀ x, l[0]? = some x → b1 = x.toNat) (h2 : ∀ x, l[1]? = some x → b2 = x.toNat) (h3 : ∀ x, l[2]? = some x → b3 = x.toNat) :
    ((decodeN (l.length + 1) c.toNat b1 b2 b3).1 = 65533 ∧ (decodeN (l.length + 1) c.toNat b1 b2 b3).2 < 2 ↔ jSize (c :: l) = 0) ∧ (jSize (c :: l) ≠ 0 → (decodeN (l.length + 1) c.toNat b1 b2 b3).2 = jSize (c :: l)) := by
  have hc := u8r c
  simp only [jSize]
  generalize c.toNat = C at *
  by_cases a1 : C < 128
  · rw [if_pos a1]
    unfold decodeN
    rw [if_pos a1]
    simp; omega
  rw [if_neg a1]
  by_cases a2 : C < 194
  · rw [if_pos a2]
    unfold decodeN
    rw [if_neg a1]
    repeat' split
    all_goals simp
    all_goals omega
  rw [if_neg a2]
  by_cases a3 : C < 224
  · rw [if_pos a3]
    match l, h1 with
    | [], _ =>
      unfold decodeN
      rw [if_neg a1]
      repeat' split
      all_goals simp
      all_goals simp_all
      all_goals omega
    | x :: l, h1 =>
      have e1 := h1 x rfl
      have hx := u8r x
      subst e1
      simp only [jCont, Bool.and_eq_true, decide_eq_true_eq]
      unfold decodeN
      rw [if_neg a1]
      simp only [List.length_cons]
      by_cases y1 : 128 ≤ x.toNat ∧ x.toNat ≤ 191
      · rw [if_pos y1, if_pos (by omega), if_pos (by omega)]
        simp
      · rw [if_neg y1, if_neg (by omega), if_neg (by omega), if_neg (by omega)]
        simp
  rw [if_neg a3]
  by_cases a4 : C < 240
  · rw [if_pos a4]
    match l, h1, h2 with
    | [], _, _ =>
      unfold decodeN
      rw [if_neg a1]
      repeat' split
      all_goals simp
      all_goals simp_all
      all_goals omega
    | [x], _, _ =>
      unfold decodeN
      rw [if_neg a1]
      repeat' split
      all_goals simp
      all_goals simp_all
      all_goals omega
    | x :: y :: l, h1, h2 =>
      have e1 := h1 x rfl
      have e2 := h2 y rfl
      have hx := u8r x
      have hy := u8r y
      subst e1 e2
      simp only [jCont, Bool.and_eq_true, decide_eq_true_eq]
      generalize x.toNat = X at *
      generalize y.toNat = Y at *
      unfold decodeN
      rw [if_neg a1]
      simp only [List.length_cons]
      rw [if_neg (by omega)]
      by_cases y1 : (128 ≤ X ∧ X ≤ 191) ∧ 128 ≤ Y ∧ Y ≤ 191
      · obtain ⟨y1, y2⟩ := y1
        rw [if_pos (by omega)]
        have ev : C % 16 * 4096 + X % 64 * 64 + Y % 64 = (C - 224) * 4096 + (X - 128) * 64 + (Y - 128) := by omega
        rw [ev]
        by_cases z : 2048 ≤ (C - 224) * 4096 + (X - 128) * 64 + (Y - 128) ∧ ¬ (55296 ≤ (C - 224) * 4096 + (X - 128) * 64 + (Y - 128) ∧ (C - 224) * 4096 + (X - 128) * 64 + (Y - 128) < 57344)
        · rw [if_pos (by omega), if_pos ⟨y1, y2, z⟩]; simp
        · rw [if_neg (by omega), if_neg (fun h => z h.2.2)]; simp
      · rw [if_neg (by omega), if_neg (by omega), if_neg (fun h => y1 ⟨h.1, h.2.1⟩)]; simp
  rw [if_neg a4]
  by_cases a5 : C < 245
  · rw [if_pos a5]
    match l, h1, h2, h3 with
    | [], _, _, _ =>
      unfold decodeN
      rw [if_neg a1]
      repeat' split
      all_goals simp
      all_goals simp_all
      all_goals omega
    | [x], _, _, _ =>
      unfold decodeN
      rw [if_neg a1]
      repeat' split
      all_goals simp
      all_goals simp_all
      all_goals omega
    | [x, y], _, _, _ =>
      unfold decodeN
      rw [if_neg a1]
      repeat' split
      all_goals simp
      all_goals simp_all
      all_goals omega
    | x :: y :: z :: l, h1, h2, h3 =>
      have e1 := h1 x rfl
      have e2 := h2 y rfl
      have e3 := h3 z rfl
      have hx := u8r x
      have hy := u8r y
      have hz := u8r z
      subst e1 e2 e3
      simp only [jCont, Bool.and_eq_true, decide_eq_true_eq]
      generalize x.toNat = X at *
      generalize y.toNat = Y at *
      generalize z.toNat = Z at *
      unfold decodeN
      rw [if_neg a1]
      simp only [List.length_cons]
      rw [if_neg (by omega), if_neg (by omega)]
      by_cases y1 : (128 ≤ X ∧ X ≤ 191) ∧ (128 ≤ Y ∧ Y ≤ 191) ∧ 128 ≤ Z ∧ Z ≤ 191
      · obtain ⟨y1, y2, y3⟩ := y1
        rw [if_pos (by omega)]
        have ev : C % 8 * 262144 + X % 64 * 4096 + Y % 64 * 64 + Z % 64 = (C - 240) * 262144 + (X - 128) * 4096 + (Y - 128) * 64 + (Z - 128) := by omega
        rw [ev]
        by_cases zz : 65536 ≤ (C - 240) * 262144 + (X - 128) * 4096 + (Y - 128) * 64 + (Z - 128) ∧ (C - 240) * 262144 + (X - 128) * 4096 + (Y - 128) * 64 + (Z - 128) ≤ 1114111
        · rw [if_pos (by omega), if_pos ⟨y1, y2, y3, zz⟩]; simp
        · rw [if_neg (by omega), if_neg (fun h => zz h.2.2.2)]; simp
      · rw [if_neg (by omega), if_neg (fun h => y1 ⟨h.1, h.2.1, h.2.2.1⟩)]; simp
  · rw [if_neg a5]
    unfold decodeN
    rw [if_neg a1]
    repeat' split
    all_goals simp
    all_goals omega
theorem rune_sign {r : Nat} (h : r < 1114112) (hs : ¬ (55296 ≤ r ∧ r < 57344)) : encodeRuneZ (r : Int) = (jSign r).map (fun c => (c.toNat : Int)) := by
  unfold jSign
  by_cases a : r < 128
  · rw [if_pos a, encodeRuneZ_one (by omega) (by omega)]
    simp; omega
  rw [if_neg a]
  by_cases b : r < 2048
  · rw [if_pos b, encodeRuneZ_two (by omega) (by omega)]
    simp; omega
  rw [if_neg b]
  by_cases c : r < 65536
  · rw [if_pos c, encodeRuneZ_three (by omega)]
    simp; omega
  · rw [if_neg c, encodeRuneZ_four (by omega) (by omega)]
    simp; omega
end Go.Proofs.YtdekogmegdhjoaaDoor

namespace Go.Proofs
open Go.Shelf
def Tryd.lays242_ren : Go.Shelf.Ren := ⟨fun | 242 => 68 | 278 => 79 | n => n, fun | 37 => 22 | 21 => 21 | 51 => 120 | 4 => 4 | 5 => 5 | 46 => 41 | n => n, fun | n => n⟩
theorem Tryd.lays242 : Go.Proofs.Lays.n242 Tryd.prog Tryd.lays242_ren := {
  mixed := by kernel_rfl
  f242 := Tryd.func68.trans (congrArg some (by kernel_rfl))
  f278 := Tryd.func79.trans (congrArg some (by kernel_rfl))
  t4 := Tryd.underlying4
  a4 := Tryd.isAgg4
  z4 := Tryd.sizeOf4
  v4 := Tryd.zeroValue4
  t5 := Tryd.underlying5
  a5 := Tryd.isAgg5
  z5 := Tryd.sizeOf5
  v5 := Tryd.zeroValue5
  t21 := Tryd.underlying21
  a21 := Tryd.isAgg21
  z21 := Tryd.sizeOf21
  v21 := Tryd.zeroValue21
  t37 := Tryd.underlying22
  a37 := Tryd.isAgg22
  z37 := Tryd.sizeOf22
  v37 := Tryd.zeroValue22
  t46 := Tryd.underlying41
  a46 := Tryd.isAgg41
  z46 := Tryd.sizeOf41
  v46 := Tryd.zeroValue41
  t51 := Tryd.underlying120
  a51 := Tryd.isAgg120
  z51 := Tryd.sizeOf120
  v51 := Tryd.zeroValue120 }
open Go.RowKit in
theorem Tryd.utf8_AppendRune_plain (B : Nat) (v : Value) (n : Nat) (xs : List Value) (r : Int) (hr0 : -2147483648 ≤ r) (hr1 : r ≤ 2147483647) (w : World) (hown : w.ownsRow B 5 1 v n xs) (hlen : n + 4 ≤ 140737488355328) (hBw : B ≤ w.heap.size) :
    Calls Tryd.prog 68 #[v, .int .i32 r] w fun e w' => ∃ v', e = .returned v' ∧ w'.ownsRow B 5 1 v' (n + (Lib.runeCells r).length) (xs ++ Lib.runeCells r) ∧ ∃ o, (w.alloc o).grownBy w' v.ownBlock := Any.utf8_AppendRune_plain Tryd.lays242 (by kernel_rfl) B v n xs r hr0 hr1 w hown hlen hBw
def Tryd.laysM171_ren : Go.Shelf.Ren := ⟨fun | 171 => 54 | 243 => 66 | 246 => 78 | 283 => 80 | 284 => 81 | 285 => 82 | 286 => 83 | 129 => 88 | 317 => 87 | 318 => 89 | 319 => 90 | 320 => 91 | 337 => 94 | 338 => 95 | n => n, fun | 3 => 3 | 9 => 9 | 2 => 2 | 4 => 4 | 171 => 121 | 0 => 0 | 53 => 111 | 37 => 22 | 5 => 5 | 173 => 124 | 212 => 133 | 51 => 120 | 20 => 20 | 213 => 134 | 46 => 41 | 232 => 143 | 233 => 144 | n => n, fun | 17 => 4 | 18 => 5 | 19 => 6 | n => n⟩
theorem Tryd.laysM171 : Go.Proofs.LaysM.n171 Tryd.prog Tryd.laysM171_ren := {
  mixed := by kernel_rfl
  f129 := Tryd.func88.trans (congrArg some (by kernel_rfl))
  f171 := Tryd.func54.trans (congrArg some (by kernel_rfl))
  f243 := Tryd.func66.trans (congrArg some (by kernel_rfl))
  f246 := Tryd.func78.trans (congrArg some (by kernel_rfl))
  f283 := Tryd.func80.trans (congrArg some (by kernel_rfl))
  f284 := Tryd.func81.trans (congrArg some (by kernel_rfl))
  f285 := Tryd.func82.trans (congrArg some (by kernel_rfl))
  f286 := Tryd.func83.trans (congrArg some (by kernel_rfl))
  f317 := Tryd.func87.trans (congrArg some (by kernel_rfl))
  f318 := Tryd.func89.trans (congrArg some (by kernel_rfl))
  f319 := Tryd.func90.trans (congrArg some (by kernel_rfl))
  f320 := Tryd.func91.trans (congrArg some (by kernel_rfl))
  f337 := Tryd.func94.trans (congrArg some (by kernel_rfl))
  f338 := Tryd.func95.trans (congrArg some (by kernel_rfl))
  t0 := Tryd.underlying0
  a0 := Tryd.isAgg0
  z0 := Tryd.sizeOf0
  v0 := Tryd.zeroValue0
  t2 := Tryd.underlying2
  a2 := Tryd.isAgg2
  z2 := Tryd.sizeOf2
  v2 := Tryd.zeroValue2
  t3 := Tryd.underlying3
  a3 := Tryd.isAgg3
  z3 := Tryd.sizeOf3
  v3 := Tryd.zeroValue3
  t4 := Tryd.underlying4
  a4 := Tryd.isAgg4
  z4 := Tryd.sizeOf4
  v4 := Tryd.zeroValue4
  t5 := Tryd.underlying5
  a5 := Tryd.isAgg5
  z5 := Tryd.sizeOf5
  v5 := Tryd.zeroValue5
  t9 := Tryd.underlying9
  a9 := Tryd.isAgg9
  z9 := Tryd.sizeOf9
  v9 := Tryd.zeroValue9
  t20 := Tryd.underlying20
  a20 := Tryd.isAgg20
  z20 := Tryd.sizeOf20
  v20 := Tryd.zeroValue20
  t37 := Tryd.underlying22
  a37 := Tryd.isAgg22
  z37 := Tryd.sizeOf22
  v37 := Tryd.zeroValue22
  t46 := Tryd.underlying41
  a46 := Tryd.isAgg41
  z46 := Tryd.sizeOf41
  v46 := Tryd.zeroValue41
  t51 := Tryd.underlying120
  a51 := Tryd.isAgg120
  z51 := Tryd.sizeOf120
  v51 := Tryd.zeroValue120
  t53 := Tryd.underlying111
  a53 := Tryd.isAgg111
  z53 := Tryd.sizeOf111
  v53 := Tryd.zeroValue111
  t171 := Tryd.underlying121
  a171 := Tryd.isAgg121
  z171 := Tryd.sizeOf121
  v171 := Tryd.zeroValue121
  t173 := Tryd.underlying124
  a173 := Tryd.isAgg124
  z173 := Tryd.sizeOf124
  v173 := Tryd.zeroValue124
  t212 := Tryd.underlying133
  a212 := Tryd.isAgg133
  z212 := Tryd.sizeOf133
  v212 := Tryd.zeroValue133
  t213 := Tryd.underlying134
  a213 := Tryd.isAgg134
  z213 := Tryd.sizeOf134
  t232 := Tryd.underlying143
  a232 := Tryd.isAgg143
  z232 := Tryd.sizeOf143
  v232 := Tryd.zeroValue143
  t233 := Tryd.underlying144
  a233 := Tryd.isAgg144
  z233 := Tryd.sizeOf144
  v233 := Tryd.zeroValue144
  g17 := by kernel_rfl
  g18 := by kernel_rfl
  g19 := by kernel_rfl
  i0 := by kernel_rfl
  i2 := by kernel_rfl
  i3 := by kernel_rfl
  i4 := by kernel_rfl
  i5 := by kernel_rfl
  i9 := by kernel_rfl
  i20 := by kernel_rfl
  i37 := by kernel_rfl
  i46 := by kernel_rfl
  i51 := by kernel_rfl
  i53 := by kernel_rfl
  i171 := by kernel_rfl
  i173 := by kernel_rfl
  i212 := by kernel_rfl
  i232 := by kernel_rfl
  i233 := by kernel_rfl
  m17 := by kernel_rfl
  m18 := by kernel_rfl
  m19 := by kernel_rfl }
open Go.RowKit Go.Sort Go.Lib in
theorem Tryd.strconv_Itoa (n : Int) (h0 : -9223372036854775808 ≤ n) (h1 : n ≤ 9223372036854775807) (w : World) (htab : Lib.TabIs Tryd.prog w "internal/strconv.uint64pow10" .u64 Lib.pow10Tab) :
    Calls Tryd.prog 54 #[.int .i64 n] w fun e w' => e = .returned (.string ⟨(Lib.itoa n).toArray⟩) ∧ ∃ k os, w' = grow (w.drewN k) os := Any.strconv_Itoa Tryd.laysM171 n h0 h1 w htab
def Tryd.laysC172_ren : Go.Shelf.Ren := ⟨fun | 172 => 53 | 244 => 64 | 245 => 65 | 247 => 73 | 279 => 74 | 280 => 75 | 281 => 76 | 282 => 77 | 287 => 84 | 316 => 85 | 171 => 54 | 205 => 86 | 321 => 92 | 322 => 93 | 243 => 66 | 246 => 78 | 283 => 80 | 284 => 81 | 285 => 82 | 286 => 83 | 129 => 88 | 317 => 87 | 318 => 89 | 319 => 90 | 320 => 91 | 337 => 94 | 338 => 95 | n => n, fun | 9 => 9 | 3 => 3 | 75 => 90 | 76 => 91 | 4 => 4 | 5 => 5 | 167 => 113 | 37 => 22 | 0 => 0 | 85 => 114 | 2 => 2 | 168 => 116 | 53 => 111 | 175 => 126 | 46 => 41 | 210 => 130 | 127 => 138 | 145 => 141 | 143 => 139 | 21 => 21 | 171 => 121 | 173 => 124 | 212 => 133 | 51 => 120 | 20 => 20 | 213 => 134 | 232 => 143 | 233 => 144 | 80 => 79 | n => n, fun | 15 => 2 | 16 => 3 | 17 => 4 | 18 => 5 | 19 => 6 | n => n⟩
theorem Tryd.laysC172 : Go.Proofs.LaysC.n172 Tryd.prog Tryd.laysC172_ren := {
  mixed := by kernel_rfl
  f129 := Tryd.func88.trans (congrArg some (by kernel_rfl))
  f171 := Tryd.func54.trans (congrArg some (by kernel_rfl))
  f172 := Tryd.func53.trans (congrArg some (by kernel_rfl))
  f205 := Tryd.func86.trans (congrArg some (by kernel_rfl))
  f243 := Tryd.func66.trans (congrArg some (by kernel_rfl))
  f244 := Tryd.func64.trans (congrArg some (by kernel_rfl))
  f245 := Tryd.func65.trans (congrArg some (by kernel_rfl))
  f246 := Tryd.func78.trans (congrArg some (by kernel_rfl))
  f247 := Tryd.func73.trans (congrArg some (by kernel_rfl))
  f279 := Tryd.func74.trans (congrArg some (by kernel_rfl))
  f280 := Tryd.func75.trans (congrArg some (by kernel_rfl))
  f281 := Tryd.func76.trans (congrArg some (by kernel_rfl))
  f282 := Tryd.func77.trans (congrArg some (by kernel_rfl))
  f283 := Tryd.func80.trans (congrArg some (by kernel_rfl))
  f284 := Tryd.func81.trans (congrArg some (by kernel_rfl))
  f285 := Tryd.func82.trans (congrArg some (by kernel_rfl))
  f286 := Tryd.func83.trans (congrArg some (by kernel_rfl))
  f287 := Tryd.func84.trans (congrArg some (by kernel_rfl))
  f316 := Tryd.func85.trans (congrArg some (by kernel_rfl))
  f317 := Tryd.func87.trans (congrArg some (by kernel_rfl))
  f318 := Tryd.func89.trans (congrArg some (by kernel_rfl))
  f319 := Tryd.func90.trans (congrArg some (by kernel_rfl))
  f320 := Tryd.func91.trans (congrArg some (by kernel_rfl))
  f321 := Tryd.func92.trans (congrArg some (by kernel_rfl))
  f322 := Tryd.func93.trans (congrArg some (by kernel_rfl))
  f337 := Tryd.func94.trans (congrArg some (by kernel_rfl))
  f338 := Tryd.func95.trans (congrArg some (by kernel_rfl))
  t0 := Tryd.underlying0
  a0 := Tryd.isAgg0
  z0 := Tryd.sizeOf0
  v0 := Tryd.zeroValue0
  t2 := Tryd.underlying2
  a2 := Tryd.isAgg2
  z2 := Tryd.sizeOf2
  v2 := Tryd.zeroValue2
  t3 := Tryd.underlying3
  a3 := Tryd.isAgg3
  z3 := Tryd.sizeOf3
  v3 := Tryd.zeroValue3
  t4 := Tryd.underlying4
  a4 := Tryd.isAgg4
  z4 := Tryd.sizeOf4
  v4 := Tryd.zeroValue4
  t5 := Tryd.underlying5
  a5 := Tryd.isAgg5
  z5 := Tryd.sizeOf5
  v5 := Tryd.zeroValue5
  t9 := Tryd.underlying9
  a9 := Tryd.isAgg9
  z9 := Tryd.sizeOf9
  v9 := Tryd.zeroValue9
  t20 := Tryd.underlying20
  a20 := Tryd.isAgg20
  z20 := Tryd.sizeOf20
  v20 := Tryd.zeroValue20
  t21 := Tryd.underlying21
  a21 := Tryd.isAgg21
  z21 := Tryd.sizeOf21
  v21 := Tryd.zeroValue21
  t37 := Tryd.underlying22
  a37 := Tryd.isAgg22
  z37 := Tryd.sizeOf22
  v37 := Tryd.zeroValue22
  t46 := Tryd.underlying41
  a46 := Tryd.isAgg41
  z46 := Tryd.sizeOf41
  v46 := Tryd.zeroValue41
  t51 := Tryd.underlying120
  a51 := Tryd.isAgg120
  z51 := Tryd.sizeOf120
  v51 := Tryd.zeroValue120
  t53 := Tryd.underlying111
  a53 := Tryd.isAgg111
  z53 := Tryd.sizeOf111
  v53 := Tryd.zeroValue111
  t75 := Tryd.underlying90
  a75 := Tryd.isAgg90
  z75 := Tryd.sizeOf90
  v75 := Tryd.zeroValue90
  t76 := Tryd.underlying91
  a76 := Tryd.isAgg91
  z76 := Tryd.sizeOf91
  v76 := Tryd.zeroValue91
  t85 := Tryd.underlying114
  a85 := Tryd.isAgg114
  z85 := Tryd.sizeOf114
  v85 := Tryd.zeroValue114
  t127 := Tryd.underlying138
  a127 := Tryd.isAgg138
  z127 := Tryd.sizeOf138
  v127 := Tryd.zeroValue138
  t143 := Tryd.underlying139
  a143 := Tryd.isAgg139
  z143 := Tryd.sizeOf139
  v143 := Tryd.zeroValue139
  t145 := Tryd.underlying141
  a145 := Tryd.isAgg141
  z145 := Tryd.sizeOf141
  v145 := Tryd.zeroValue141
  t167 := Tryd.underlying113
  a167 := Tryd.isAgg113
  z167 := Tryd.sizeOf113
  v167 := Tryd.zeroValue113
  t168 := Tryd.underlying116
  a168 := Tryd.isAgg116
  z168 := Tryd.sizeOf116
  v168 := Tryd.zeroValue116
  t171 := Tryd.underlying121
  a171 := Tryd.isAgg121
  z171 := Tryd.sizeOf121
  v171 := Tryd.zeroValue121
  t173 := Tryd.underlying124
  a173 := Tryd.isAgg124
  z173 := Tryd.sizeOf124
  v173 := Tryd.zeroValue124
  t175 := Tryd.underlying126
  a175 := Tryd.isAgg126
  z175 := Tryd.sizeOf126
  v175 := Tryd.zeroValue126
  t210 := Tryd.underlying130
  a210 := Tryd.isAgg130
  z210 := Tryd.sizeOf130
  v210 := Tryd.zeroValue130
  t212 := Tryd.underlying133
  a212 := Tryd.isAgg133
  z212 := Tryd.sizeOf133
  v212 := Tryd.zeroValue133
  t213 := Tryd.underlying134
  a213 := Tryd.isAgg134
  z213 := Tryd.sizeOf134
  t232 := Tryd.underlying143
  a232 := Tryd.isAgg143
  z232 := Tryd.sizeOf143
  v232 := Tryd.zeroValue143
  t233 := Tryd.underlying144
  a233 := Tryd.isAgg144
  z233 := Tryd.sizeOf144
  v233 := Tryd.zeroValue144
  g15 := by kernel_rfl
  g16 := by kernel_rfl
  g17 := by kernel_rfl
  g18 := by kernel_rfl
  g19 := by kernel_rfl
  t80 := Tryd.underlying79
  a80 := Tryd.isAgg79
  z80 := Tryd.sizeOf79
  v80 := Tryd.zeroValue79
  i0 := by kernel_rfl
  i2 := by kernel_rfl
  i3 := by kernel_rfl
  i4 := by kernel_rfl
  i5 := by kernel_rfl
  i9 := by kernel_rfl
  i20 := by kernel_rfl
  i21 := by kernel_rfl
  i37 := by kernel_rfl
  i46 := by kernel_rfl
  i51 := by kernel_rfl
  i53 := by kernel_rfl
  i75 := by kernel_rfl
  i76 := by kernel_rfl
  i80 := by kernel_rfl
  i85 := by kernel_rfl
  i127 := by kernel_rfl
  i143 := by kernel_rfl
  i145 := by kernel_rfl
  i167 := by kernel_rfl
  i168 := by kernel_rfl
  i171 := by kernel_rfl
  i173 := by kernel_rfl
  i175 := by kernel_rfl
  i210 := by kernel_rfl
  i212 := by kernel_rfl
  i232 := by kernel_rfl
  i233 := by kernel_rfl
  m15 := by kernel_rfl
  m16 := by kernel_rfl
  m17 := by kernel_rfl
  m18 := by kernel_rfl
  m19 := by kernel_rfl
  c0 := by kernel_rfl
  c2 := by kernel_rfl
  c3 := by kernel_rfl
  c4 := by kernel_rfl
  c5 := by kernel_rfl
  c9 := by kernel_rfl
  c20 := by kernel_rfl
  c21 := by kernel_rfl
  c37 := by kernel_rfl
  c46 := by kernel_rfl
  c51 := by kernel_rfl
  c53 := by kernel_rfl
  c75 := by kernel_rfl
  c76 := by kernel_rfl
  c80 := by kernel_rfl
  c85 := by kernel_rfl
  c127 := by kernel_rfl
  c143 := by kernel_rfl
  c145 := by kernel_rfl
  c167 := by kernel_rfl
  c168 := by kernel_rfl
  c171 := by kernel_rfl
  c173 := by kernel_rfl
  c175 := by kernel_rfl
  c210 := by kernel_rfl
  c212 := by kernel_rfl
  c213 := by kernel_rfl
  c232 := by kernel_rfl
  c233 := by kernel_rfl }
open Go.RowKit in
theorem Tryd.strconv_Atoi_ok (s : ByteArray) (hmax : s.size ≤ 9223372036854775806) (v : Int) (h : Lib.atoiAll s.data.toList = .ok v) (w : World) :
    Calls Tryd.prog 53 #[.string s] w fun e w' => e = .returned (.tuple #[.int .i64 v, .nilIface]) ∧ (w' = w ∨ ∃ t, w' = Lib.bytesWorld w 5 t) := Any.strconv_Atoi_ok Tryd.laysC172 s hmax v h w
open Go.RowKit in
theorem Tryd.strconv_Atoi_syntax_var (s : ByteArray) (hlim : s.size ≤ 281474976710656) (h : Lib.atoiAll s.data.toList = Lib.atoiAll []) (tp : TypeId) (p : Value) (w : World) (hvar : w.var? Tryd.prog "strconv.ErrSyntax" = some #[.iface tp p]) :
    Calls Tryd.prog 53 #[.string s] w fun e w' => ∃ N, e = .returned (.tuple #[.int .i64 0, .iface 116 (.pointer (some ⟨N, 0, none⟩))]) ∧ w.heap.size ≤ N ∧ w'.heap[N]? = some (.cells #[.string ⟨#[65, 116, 111, 105]⟩, .string s, .iface tp p] 130 (0, 0)) ∧ Below w.heap.size w w' := Any.strconv_Atoi_syntax_var Tryd.laysC172 s hlim (h.trans rfl) tp p w hvar
open Go.RowKit in
theorem Tryd.strconv_Atoi_range_var (s : ByteArray) (hlim : s.size ≤ 281474976710656) (h : Lib.atoiAll s.data.toList = .range) (tp : TypeId) (p : Value) (w : World) (hvar : w.var? Tryd.prog "strconv.ErrRange" = some #[.iface tp p]) :
    Calls Tryd.prog 53 #[.string s] w fun e w' => ∃ N, e = .returned (.tuple #[.int .i64 (Lib.atoiSat s.data.toList), .iface 116 (.pointer (some ⟨N, 0, none⟩))]) ∧ w.heap.size ≤ N ∧ w'.heap[N]? = some (.cells #[.string ⟨#[65, 116, 111, 105]⟩, .string s, .iface tp p] 130 (0, 0)) ∧ Below w.heap.size w w' := Any.strconv_Atoi_range_var Tryd.laysC172 s hlim h tp p w hvar
def Tryd.laysM176_ren : Go.Shelf.Ren := ⟨fun | 176 => 49 | 249 => 61 | 288 => 72 | 283 => 80 | 284 => 81 | 285 => 82 | 286 => 83 | 129 => 88 | 317 => 87 | 318 => 89 | 319 => 90 | 320 => 91 | 337 => 94 | 338 => 95 | n => n, fun | 37 => 22 | 2 => 2 | 3 => 3 | 53 => 111 | 4 => 4 | 9 => 9 | 171 => 121 | 0 => 0 | 173 => 124 | 212 => 133 | 51 => 120 | 5 => 5 | 20 => 20 | 213 => 134 | 46 => 41 | 232 => 143 | 233 => 144 | n => n, fun | 17 => 4 | 18 => 5 | 19 => 6 | n => n⟩
theorem Tryd.laysM176 : Go.Proofs.LaysM.n176 Tryd.prog Tryd.laysM176_ren := {
  mixed := by kernel_rfl
  f129 := Tryd.func88.trans (congrArg some (by kernel_rfl))
  f176 := Tryd.func49.trans (congrArg some (by kernel_rfl))
  f249 := Tryd.func61.trans (congrArg some (by kernel_rfl))
  f283 := Tryd.func80.trans (congrArg some (by kernel_rfl))
  f284 := Tryd.func81.trans (congrArg some (by kernel_rfl))
  f285 := Tryd.func82.trans (congrArg some (by kernel_rfl))
  f286 := Tryd.func83.trans (congrArg some (by kernel_rfl))
  f288 := Tryd.func72.trans (congrArg some (by kernel_rfl))
  f317 := Tryd.func87.trans (congrArg some (by kernel_rfl))
  f318 := Tryd.func89.trans (congrArg some (by kernel_rfl))
  f319 := Tryd.func90.trans (congrArg some (by kernel_rfl))
  f320 := Tryd.func91.trans (congrArg some (by kernel_rfl))
  f337 := Tryd.func94.trans (congrArg some (by kernel_rfl))
  f338 := Tryd.func95.trans (congrArg some (by kernel_rfl))
  t0 := Tryd.underlying0
  a0 := Tryd.isAgg0
  z0 := Tryd.sizeOf0
  v0 := Tryd.zeroValue0
  t2 := Tryd.underlying2
  a2 := Tryd.isAgg2
  z2 := Tryd.sizeOf2
  v2 := Tryd.zeroValue2
  t3 := Tryd.underlying3
  a3 := Tryd.isAgg3
  z3 := Tryd.sizeOf3
  v3 := Tryd.zeroValue3
  t4 := Tryd.underlying4
  a4 := Tryd.isAgg4
  z4 := Tryd.sizeOf4
  v4 := Tryd.zeroValue4
  t5 := Tryd.underlying5
  a5 := Tryd.isAgg5
  z5 := Tryd.sizeOf5
  v5 := Tryd.zeroValue5
  t9 := Tryd.underlying9
  a9 := Tryd.isAgg9
  z9 := Tryd.sizeOf9
  v9 := Tryd.zeroValue9
  t20 := Tryd.underlying20
  a20 := Tryd.isAgg20
  z20 := Tryd.sizeOf20
  v20 := Tryd.zeroValue20
  t37 := Tryd.underlying22
  a37 := Tryd.isAgg22
  z37 := Tryd.sizeOf22
  v37 := Tryd.zeroValue22
  t46 := Tryd.underlying41
  a46 := Tryd.isAgg41
  z46 := Tryd.sizeOf41
  v46 := Tryd.zeroValue41
  t51 := Tryd.underlying120
  a51 := Tryd.isAgg120
  z51 := Tryd.sizeOf120
  v51 := Tryd.zeroValue120
  t53 := Tryd.underlying111
  a53 := Tryd.isAgg111
  z53 := Tryd.sizeOf111
  v53 := Tryd.zeroValue111
  t171 := Tryd.underlying121
  a171 := Tryd.isAgg121
  z171 := Tryd.sizeOf121
  v171 := Tryd.zeroValue121
  t173 := Tryd.underlying124
  a173 := Tryd.isAgg124
  z173 := Tryd.sizeOf124
  v173 := Tryd.zeroValue124
  t212 := Tryd.underlying133
  a212 := Tryd.isAgg133
  z212 := Tryd.sizeOf133
  v212 := Tryd.zeroValue133
  t213 := Tryd.underlying134
  a213 := Tryd.isAgg134
  z213 := Tryd.sizeOf134
  t232 := Tryd.underlying143
  a232 := Tryd.isAgg143
  z232 := Tryd.sizeOf143
  v232 := Tryd.zeroValue143
  t233 := Tryd.underlying144
  a233 := Tryd.isAgg144
  z233 := Tryd.sizeOf144
  v233 := Tryd.zeroValue144
  g17 := by kernel_rfl
  g18 := by kernel_rfl
  g19 := by kernel_rfl
  i0 := by kernel_rfl
  i2 := by kernel_rfl
  i3 := by kernel_rfl
  i4 := by kernel_rfl
  i5 := by kernel_rfl
  i9 := by kernel_rfl
  i20 := by kernel_rfl
  i37 := by kernel_rfl
  i46 := by kernel_rfl
  i51 := by kernel_rfl
  i53 := by kernel_rfl
  i171 := by kernel_rfl
  i173 := by kernel_rfl
  i212 := by kernel_rfl
  i232 := by kernel_rfl
  i233 := by kernel_rfl
  m17 := by kernel_rfl
  m18 := by kernel_rfl
  m19 := by kernel_rfl }
open Go.RowKit Go.Sort Go.Lib in
theorem Tryd.strconv_AppendInt_10 (B n : Nat) (i : Int) (h0 : -9223372036854775808 ≤ i) (h1 : i ≤ 9223372036854775807) (sv : Value) (xs : List Value) (w : World) (hown : w.ownsRow B 5 1 sv n xs) (hBw : B ≤ w.heap.size) (hlim : n + 21 ≤ 140737488355328) (htab : Lib.TabBelow Tryd.prog B w "internal/strconv.uint64pow10" .u64 Lib.pow10Tab) :
    Calls Tryd.prog 49 #[sv, .int .i64 i, .int .i64 10] w fun e w' => ∃ v', e = .returned v' ∧ w'.ownsRow B 5 1 v' (n + (Lib.itoa i).length) (xs ++ Lib.byteCells (Lib.itoa i)) ∧ Below B w w' ∧ Lib.OthersKept 5 none w w' := Any.strconv_AppendInt_10 Tryd.laysM176 B n i h0 h1 sv xs w hown hBw hlim htab
def Tryd.lays7n32_ren : Go.Shelf.Ren := ⟨fun | 32 => 56 | 49 => 69 | n => n, fun | 30 => 22 | 21 => 21 | 3 => 3 | 0 => 0 | 5 => 5 | 4 => 4 | 33 => 95 | 66 => 101 | 25 => 41 | 69 => 104 | 68 => 103 | n => n, fun | 2 => 0 | 3 => 1 | n => n⟩
theorem Tryd.lays7n32 : Go.Proofs.Lays7.n32 Tryd.prog Tryd.lays7n32_ren := {
  mixed := by kernel_rfl
  f32 := Tryd.func56.trans (congrArg some (by kernel_rfl))
  f49 := Tryd.func69.trans (congrArg some (by kernel_rfl))
  t0 := Tryd.underlying0
  a0 := Tryd.isAgg0
  z0 := Tryd.sizeOf0
  v0 := Tryd.zeroValue0
  i0 := by kernel_rfl
  t3 := Tryd.underlying3
  a3 := Tryd.isAgg3
  z3 := Tryd.sizeOf3
  v3 := Tryd.zeroValue3
  i3 := by kernel_rfl
  t4 := Tryd.underlying4
  a4 := Tryd.isAgg4
  z4 := Tryd.sizeOf4
  v4 := Tryd.zeroValue4
  i4 := by kernel_rfl
  t5 := Tryd.underlying5
  a5 := Tryd.isAgg5
  z5 := Tryd.sizeOf5
  v5 := Tryd.zeroValue5
  i5 := by kernel_rfl
  t21 := Tryd.underlying21
  a21 := Tryd.isAgg21
  z21 := Tryd.sizeOf21
  v21 := Tryd.zeroValue21
  i21 := by kernel_rfl
  t25 := Tryd.underlying41
  a25 := Tryd.isAgg41
  z25 := Tryd.sizeOf41
  v25 := Tryd.zeroValue41
  i25 := by kernel_rfl
  t30 := Tryd.underlying22
  a30 := Tryd.isAgg22
  z30 := Tryd.sizeOf22
  v30 := Tryd.zeroValue22
  i30 := by kernel_rfl
  t33 := Tryd.underlying95
  a33 := Tryd.isAgg95
  z33 := Tryd.sizeOf95
  v33 := Tryd.zeroValue95
  i33 := by kernel_rfl
  t66 := Tryd.underlying101
  a66 := Tryd.isAgg101
  z66 := Tryd.sizeOf101
  t68 := Tryd.underlying103
  a68 := Tryd.isAgg103
  z68 := Tryd.sizeOf103
  v68 := Tryd.zeroValue103
  i68 := by kernel_rfl
  t69 := Tryd.underlying104
  a69 := Tryd.isAgg104
  z69 := Tryd.sizeOf104
  v69 := Tryd.zeroValue104
  i69 := by kernel_rfl
  g2 := by kernel_rfl
  g3 := by kernel_rfl }
def Tryd.laysValid_ren : Go.Shelf.Ren := ⟨fun | 196 => 47 | 259 => 60 | n => n, fun | 9 => 9 | 4 => 4 | 3 => 3 | 5 => 5 | 12 => 12 | 119 => 101 | 0 => 0 | 46 => 41 | 139 => 104 | 138 => 103 | 53 => 111 | n => n, fun | 3 => 0 | 4 => 1 | n => n⟩
theorem Tryd.laysValid : Go.Proofs.Lays.n196 Tryd.prog Tryd.laysValid_ren := {
  mixed := by kernel_rfl
  f196 := Tryd.func47.trans (congrArg some (by kernel_rfl))
  f259 := Tryd.func60.trans (congrArg some (by kernel_rfl))
  t0 := Tryd.underlying0
  a0 := Tryd.isAgg0
  z0 := Tryd.sizeOf0
  v0 := Tryd.zeroValue0
  t3 := Tryd.underlying3
  a3 := Tryd.isAgg3
  z3 := Tryd.sizeOf3
  v3 := Tryd.zeroValue3
  t4 := Tryd.underlying4
  a4 := Tryd.isAgg4
  z4 := Tryd.sizeOf4
  v4 := Tryd.zeroValue4
  t5 := Tryd.underlying5
  a5 := Tryd.isAgg5
  z5 := Tryd.sizeOf5
  v5 := Tryd.zeroValue5
  t9 := Tryd.underlying9
  a9 := Tryd.isAgg9
  z9 := Tryd.sizeOf9
  v9 := Tryd.zeroValue9
  t12 := Tryd.underlying12
  a12 := Tryd.isAgg12
  z12 := Tryd.sizeOf12
  v12 := Tryd.zeroValue12
  t46 := Tryd.underlying41
  a46 := Tryd.isAgg41
  z46 := Tryd.sizeOf41
  v46 := Tryd.zeroValue41
  t53 := Tryd.underlying111
  a53 := Tryd.isAgg111
  z53 := Tryd.sizeOf111
  v53 := Tryd.zeroValue111
  t119 := Tryd.underlying101
  a119 := Tryd.isAgg101
  z119 := Tryd.sizeOf101
  t138 := Tryd.underlying103
  a138 := Tryd.isAgg103
  z138 := Tryd.sizeOf103
  v138 := Tryd.zeroValue103
  t139 := Tryd.underlying104
  a139 := Tryd.isAgg104
  z139 := Tryd.sizeOf104
  v139 := Tryd.zeroValue104
  g3 := by kernel_rfl
  g4 := by kernel_rfl }
end Go.Proofs

namespace Go.Proofs.YtdekogmegdhjoaaDoor
open Go.RowKit

/-- The library's tables of UTF-8 are laid. -/
def U8Tabs (w : World) : Prop := Lib.Utf8Tabs (Tryd.lays7n32_ren.g 2) (Tryd.lays7n32_ren.g 3) w
theorem rune_ok : RuneOk := by
  intro r w h hs
  have hcells : Lib.runeCells (r : Int) = (jSign r).map bv := by
    unfold Lib.runeCells
    rw [rune_sign h hs, List.map_map]
    rfl
  have ho := (OwnB.nil w w.heap.size 5).own
  refine (Tryd.utf8_AppendRune_plain w.heap.size (.slice none 0 0) 0 [] (r : Int) (by omega) (by omega) w ho (by omega) (Nat.le_refl _)).mono ?_
  rintro e w' ⟨v', rfl, h1, o, h2⟩
  rw [hcells, List.nil_append, List.length_map, Nat.zero_add] at h1
  exact ⟨v', rfl, ⟨h1⟩, (below_of_grown (World.grownBy_alloc w _ none)).trans ((below_of_grown h2).mono (by simp))⟩
/-- unicode/utf8.DecodeRune at bytes. -/
theorem decode_ok (A : Option Addr) (n c : Nat) (l : List UInt8) (w : World) (S : Nat → Prop) (hT : U8Tabs w) (h0 : 0 < n) (hr : Rd w S A 1 n (l.map bv)) :
    Calls Tryd.prog 56 #[.slice A n c] w fun e w' => ∃ (r k : Nat), e = .returned (.tuple #[.int .i32 (r : Int), .int .i64 (k : Int)]) ∧ Below w.heap.size w w' ∧ (r = 65533 ∧ k < 2 ↔ jSize l = 0) ∧ (jSize l ≠ 0 → k = jSize l) := by
  have hl := hr.bytes_len
  have hA := hr.some_ h0
  obtain ⟨ad, hA⟩ : ∃ ad, A = some ad := ⟨_, hA⟩
  subst hA
  obtain ⟨x, t, rfl⟩ : ∃ x t, l = x :: t := by
    cases l with
    | nil => simp at hl; omega
    | cons x t => exact ⟨x, t, rfl⟩
  have hc0 := hr.cell 0 (bv x) rfl
  have hsp := World.cell?_spot hc0
  have hat0 : atp (some ad) 0 = ad := by unfold atp Addr.add; simp
  rw [hat0] at hsp
  obtain ⟨b, off, spot⟩ := ad
  simp only at hsp
  subst hsp
  have hget : ∀ j, (⟨(x :: t).toArray⟩ : ByteArray).get! j = (x :: t).getD j default := fun j => by
    simp [ByteArray.get!, List.getD]
  have hsz : (⟨(x :: t).toArray⟩ : ByteArray).size = n := by rw [str_mk_size]; exact hl
  have hd := @Any7.utf8_DecodeRune _ _ Tryd.lays7n32 ⟨(x :: t).toArray⟩ b off c w hT (fun j hj => by
    rw [hsz] at hj
    have hjl : j < (x :: t).length := by omega
    have := hr.cell j (bv ((x :: t)[j])) (by rw [List.getElem?_map, List.getElem?_eq_getElem hjl]; rfl)
    have hat : atp (some ⟨b, off, none⟩) j = ⟨b, off + j, none⟩ := by
      unfold atp Addr.add
      by_cases h : j = 0 <;> simp [h]
    rw [hat] at this
    rw [this, hget j]
    simp [bv, List.getD, List.getElem?_eq_getElem hjl])
  rw [hsz] at hd
  refine hd.mono ?_
  rintro e w' ⟨rfl, hb⟩
  have key : Lib.decodeGo ⟨(x :: t).toArray⟩ = Lib.decodeN (t.length + 1) x.toNat ((x :: t).getD 1 default).toNat ((x :: t).getD 2 default).toNat ((x :: t).getD 3 default).toNat := by
    unfold Lib.decodeGo
    rw [if_neg (by rw [hsz]; omega), Lib.decode_at, hget, hget, hget, hget, hsz]
    rw [← hl]
    rfl
  obtain ⟨k1, k2⟩ := decodeN_size x t ((x :: t).getD 1 default).toNat ((x :: t).getD 2 default).toNat ((x :: t).getD 3 default).toNat (fun y hy => by simp [List.getD, hy]) (fun y hy => by simp [List.getD, hy]) (fun y hy => by simp [List.getD, hy])
  rw [← key] at k1 k2
  exact ⟨_, _, rfl, hb, k1, k2⟩
end Go.Proofs.YtdekogmegdhjoaaDoor
