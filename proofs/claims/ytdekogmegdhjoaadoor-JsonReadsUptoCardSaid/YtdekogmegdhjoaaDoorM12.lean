/-
  Layer 6: the document's reader: blanks, words.
-/
import Derived.Test.YtdekogmegdhjoaaDoorM11
import Derived.Test.YtdekogmegdhjoaaDoorM04
namespace Go.Proofs.YtdekogmegdhjoaaDoor
open Go.RowKit
set_option linter.unusedSimpArgs false

theorem jWord_go {b l : List UInt8} {p : Nat} {x : UInt8} (hx : b[p]? = some x) : jWord b (x :: l) p = jWord b l (p + 1) := by rw [jWord, hx]; simp
theorem jWord_no {b l : List UInt8} {p : Nat} {x y : UInt8} (hx : b[p]? = some x) (h : x ≠ y) : jWord b (y :: l) p = .error (p, 10) := by rw [jWord, hx]; simp [h]
theorem jWord_end {b l : List UInt8} {p : Nat} {y : UInt8} (hx : b[p]? = none) : jWord b (y :: l) p = .error (b.length, 9) := by rw [jWord, hx]

theorem jLook_in {b : List UInt8} {p : Nat} {x : UInt8} (hx : b[p]? = some x) : jLook b p 0 = x.toNat := by unfold jLook; rw [if_neg (by simp), hx]
theorem jLook_end {b : List UInt8} {p : Nat} (hx : b[p]? = none) : jLook b p 0 = 256 := by unfold jLook; rw [if_neg (by simp), hx]
theorem jLook_bad {b : List UInt8} {p f : Nat} (hf : f ≠ 0) : jLook b p f = 256 := by unfold jLook; rw [if_pos hf]
set_option maxRecDepth 20000 in
set_option maxHeartbeats 3200000 in
theorem rblanks_ok (g : Nat) (A : Option Addr) (n c p wh m B : Nat) (b : List UInt8) (w : World) (hh : w.heap[g]? = some (.cells (rrL A n c p 0 wh m).toArray 68 (0, 0))) (hg : B ≤ g) (hB : B ≤ w.heap.size) (hn : n ≤ 140737488355000) (hp : p ≤ n) (hr : Rd w (· < B) A 1 n (b.map bv)) :
    Calls Tryd.prog 28 #[.pointer (some ⟨g, 0, none⟩)] w fun e w' => e = .returned (.tuple #[]) ∧ Fr [g] w w' [.blk g 68 (rrL A n c (jBlanks b p) 0 wh m)] := by
  have hl := box hr.bytes_len
  have hF0 := Fr.one hh
  clear hh
  go_enter Tryd.func28, Tryd.ntmps28
  go_wp2_with fail
  go_loopg [] (n - p) (fun k wr => ∃ p' : Nat, p' ≤ n ∧ Box (k = n - p') ∧ Box (jBlanks b p = jBlanks b p') ∧ Fr [g] w wr [.blk g 68 (rrL A n c p' 0 wh m)])
  case atStart => exact ⟨p, hp, box rfl, box rfl, hF0⟩
  case round =>
    obtain ⟨p', hp', hk, hj, hF⟩ := hrel
    clear hF0
    go_wp2_with fail
    refine (rlook_any g A n c p' 0 wh m b _ _ (hF.blk (i := 0) rfl) (hF.rdB hg hB hr)).mono ?_
    rintro e w1 ⟨rfl, kk, rfl⟩
    by_cases hlt : p' < n
    · obtain ⟨x, hx'⟩ : ∃ x, b[p']? = some x := ⟨b[p']'(by rw [hl.out]; exact hlt), by simp⟩
      have hx := box hx'
      have hxb := x.toNat_lt
      clear hx'
      by_cases hx0 : x = 32
      · subst hx0
        have hgo := box (jBlanks_go hx.out (by decide))
        rw [jLook_in hx.out]
        have hFd := hF.drewN kk
        go_wp2_with (first | (with_reducible refine lst (by with_unfolding_all rfl) (wp_fld0 hFd Tryd.underlying3 rfl (by with_unfolding_all exact ⟨_, rfl, rfl⟩) rfl ?_)) | (with_reducible refine lst (by with_unfolding_all rfl) (wp_fld0 hFd Tryd.underlying22 rfl (by with_unfolding_all exact ⟨_, rfl, rfl⟩) rfl ?_)) | ((with_reducible refine lst (by with_unfolding_all rfl) (wp_fst0 hFd (by with_unfolding_all exact ⟨_, _, rfl, rfl, rfl⟩) (by kernel_rfl) rfl rfl (by rw [rrL_len]; decide) (rrL_at (v := (p' : Int) + 1) (q := p' + 1) (by omega)) ?_)); intro w2 hF2 hz2))
        go_roundg (n - (p' + 1))
        case rel => exact ⟨p' + 1, by omega, box rfl, box (hj.out.trans hgo.out), hF2⟩
        case measure => have := hk.out; omega
      · skip
        by_cases hx1 : x = 9
        · subst hx1
          have hgo := box (jBlanks_go hx.out (by decide))
          rw [jLook_in hx.out]
          have hFd := hF.drewN kk
          go_wp2_with (first | (with_reducible refine lst (by with_unfolding_all rfl) (wp_fld0 hFd Tryd.underlying3 rfl (by with_unfolding_all exact ⟨_, rfl, rfl⟩) rfl ?_)) | (with_reducible refine lst (by with_unfolding_all rfl) (wp_fld0 hFd Tryd.underlying22 rfl (by with_unfolding_all exact ⟨_, rfl, rfl⟩) rfl ?_)) | ((with_reducible refine lst (by with_unfolding_all rfl) (wp_fst0 hFd (by with_unfolding_all exact ⟨_, _, rfl, rfl, rfl⟩) (by kernel_rfl) rfl rfl (by rw [rrL_len]; decide) (rrL_at (v := (p' : Int) + 1) (q := p' + 1) (by omega)) ?_)); intro w2 hF2 hz2))
          go_roundg (n - (p' + 1))
          case rel => exact ⟨p' + 1, by omega, box rfl, box (hj.out.trans hgo.out), hF2⟩
          case measure => have := hk.out; omega
        · skip
          by_cases hx2 : x = 10
          · subst hx2
            have hgo := box (jBlanks_go hx.out (by decide))
            rw [jLook_in hx.out]
            have hFd := hF.drewN kk
            go_wp2_with (first | (with_reducible refine lst (by with_unfolding_all rfl) (wp_fld0 hFd Tryd.underlying3 rfl (by with_unfolding_all exact ⟨_, rfl, rfl⟩) rfl ?_)) | (with_reducible refine lst (by with_unfolding_all rfl) (wp_fld0 hFd Tryd.underlying22 rfl (by with_unfolding_all exact ⟨_, rfl, rfl⟩) rfl ?_)) | ((with_reducible refine lst (by with_unfolding_all rfl) (wp_fst0 hFd (by with_unfolding_all exact ⟨_, _, rfl, rfl, rfl⟩) (by kernel_rfl) rfl rfl (by rw [rrL_len]; decide) (rrL_at (v := (p' : Int) + 1) (q := p' + 1) (by omega)) ?_)); intro w2 hF2 hz2))
            go_roundg (n - (p' + 1))
            case rel => exact ⟨p' + 1, by omega, box rfl, box (hj.out.trans hgo.out), hF2⟩
            case measure => have := hk.out; omega
          · skip
            by_cases hx3 : x = 13
            · subst hx3
              have hgo := box (jBlanks_go hx.out (by decide))
              rw [jLook_in hx.out]
              have hFd := hF.drewN kk
              go_wp2_with (first | (with_reducible refine lst (by with_unfolding_all rfl) (wp_fld0 hFd Tryd.underlying3 rfl (by with_unfolding_all exact ⟨_, rfl, rfl⟩) rfl ?_)) | (with_reducible refine lst (by with_unfolding_all rfl) (wp_fld0 hFd Tryd.underlying22 rfl (by with_unfolding_all exact ⟨_, rfl, rfl⟩) rfl ?_)) | ((with_reducible refine lst (by with_unfolding_all rfl) (wp_fst0 hFd (by with_unfolding_all exact ⟨_, _, rfl, rfl, rfl⟩) (by kernel_rfl) rfl rfl (by rw [rrL_len]; decide) (rrL_at (v := (p' : Int) + 1) (q := p' + 1) (by omega)) ?_)); intro w2 hF2 hz2))
              go_roundg (n - (p' + 1))
              case rel => exact ⟨p' + 1, by omega, box rfl, box (hj.out.trans hgo.out), hF2⟩
              case measure => have := hk.out; omega
            have hst := box (jBlanks_stop hx.out (by simp [jBlank, hx0, hx1, hx2, hx3]))
            rw [jLook_in hx.out]
            have hn0 : ((x.toNat : Int) != 32) = true := u8_ne' hx0
            have hn1 : ((x.toNat : Int) != 9) = true := u8_ne' hx1
            have hn2 : ((x.toNat : Int) != 10) = true := u8_ne' hx2
            have hn3 : ((x.toNat : Int) != 13) = true := u8_ne' hx3
            clear hx0 hx1 hx2 hx3
            go_wp2_with fail
            ((try simp only [Exit.inBlock, Exit.then]); refine bodyPost_ret (results_none rfl _ _ _) rfl ?_)
            rw [hj.out, hst.out]
            exact ⟨rfl, hF.drewN kk⟩
    · have hx : b[p']? = none := List.getElem?_eq_none (by rw [hl.out]; omega)
      have hst := box (jBlanks_end (b := b) (p := p') (by have := hl.out; omega))
      rw [jLook_end hx]
      clear hx
      go_wp2_with fail
      ((try simp only [Exit.inBlock, Exit.then]); refine bodyPost_ret (results_none rfl _ _ _) rfl ?_)
      rw [hj.out, hst.out]
      exact ⟨rfl, hF.drewN kk⟩
set_option maxRecDepth 20000 in
set_option maxHeartbeats 3200000 in
theorem rblanks_bad (g : Nat) (A : Option Addr) (n c p f wh m B : Nat) (b : List UInt8) (w : World) (hf : f ≠ 0) (hh : w.heap[g]? = some (.cells (rrL A n c p f wh m).toArray 68 (0, 0))) (hr : Rd w (· < B) A 1 n (b.map bv)) :
    Calls Tryd.prog 28 #[.pointer (some ⟨g, 0, none⟩)] w fun e w' => e = .returned (.tuple #[]) ∧ Fr [g] w w' [.blk g 68 (rrL A n c p f wh m)] := by
  have hF0 := Fr.one hh
  have hlk := rlook_any g A n c p f wh m b w _ hh hr
  rw [jLook_bad hf] at hlk
  clear hh
  replace hf := box hf
  go_enter Tryd.func28, Tryd.ntmps28
  go_wp2_with fail
  go_loopg [] 0 (fun k wr => wr = w)
  case atStart => rfl
  case round =>
    subst hrel
    go_wp2_with fail
    refine hlk.mono ?_
    rintro e w1 ⟨rfl, kk, rfl⟩
    go_wp2_with fail
    ((try simp only [Exit.inBlock, Exit.then]); refine bodyPost_ret (results_none rfl _ _ _) rfl ?_)
    exact ⟨rfl, hF0.drewN kk⟩
set_option maxRecDepth 20000 in
set_option maxHeartbeats 3200000 in
theorem rword_bad (g : Nat) (A : Option Addr) (n c p f wh m : Nat) (s : ByteArray) (w : World) (hf : f ≠ 0) (hh : w.heap[g]? = some (.cells (rrL A n c p f wh m).toArray 68 (0, 0))) :
    Calls Tryd.prog 43 #[.pointer (some ⟨g, 0, none⟩), .string s] w fun e w' => e = .returned (.tuple #[]) ∧ Fr [g] w w' [.blk g 68 (rrL A n c p f wh m)] := by
  have hF0 := Fr.one hh
  have hf0 : ((f : Int) == 0) = false := by rw [beq_eq_false_iff_ne]; omega
  clear hh
  replace hf := box hf
  go_enter Tryd.func43, Tryd.ntmps43
  go_wp2_with fail
  go_loopg [4] 0 (fun k i wr => i = .int .i64 0 ∧ wr = w)
  case atStart => exact ⟨rfl, rfl⟩
  case round =>
    obtain ⟨rfl, rfl⟩ := hrel
    by_cases h0 : 0 < s.size
    · go_wp2_with (first | (with_reducible refine lst (by with_unfolding_all rfl) (wp_fld0 hF0 Tryd.underlying3 rfl (by with_unfolding_all exact ⟨_, rfl, rfl⟩) rfl ?_)) | (with_reducible refine lst (by with_unfolding_all rfl) (wp_fld0 hF0 Tryd.underlying22 rfl (by with_unfolding_all exact ⟨_, rfl, rfl⟩) rfl ?_)))
      go_end0
      exact ⟨rfl, hF0⟩
    · go_wp2_with (first | (with_reducible refine lst (by with_unfolding_all rfl) (wp_fld0 hF0 Tryd.underlying3 rfl (by with_unfolding_all exact ⟨_, rfl, rfl⟩) rfl ?_)) | (with_reducible refine lst (by with_unfolding_all rfl) (wp_fld0 hF0 Tryd.underlying22 rfl (by with_unfolding_all exact ⟨_, rfl, rfl⟩) rfl ?_)))
      go_end0
      exact ⟨rfl, hF0⟩
set_option maxRecDepth 20000 in
set_option maxHeartbeats 6400000 in
theorem rword_ok (g : Nat) (A : Option Addr) (n c p m B : Nat) (b : List UInt8) (s : ByteArray) (w : World) (hh : w.heap[g]? = some (.cells (rrL A n c p 0 0 m).toArray 68 (0, 0))) (hg : B ≤ g) (hB : B ≤ w.heap.size) (hn : n ≤ 140737488355000) (hp : p ≤ n) (hs : s.size ≤ 1000) (hr : Rd w (· < B) A 1 n (b.map bv)) :
    Calls Tryd.prog 43 #[.pointer (some ⟨g, 0, none⟩), .string s] w fun e w' => e = .returned (.tuple #[]) ∧ RSt w g A n c m (jWord b s.data.toList p) w' := by
  have hl := box hr.bytes_len
  have hsl : s.data.toList.length = s.size := str_len s
  replace hsl := box hsl
  have hF0 := Fr.one hh
  clear hh
  obtain ⟨J, hJ⟩ : ∃ J, J = jWord b s.data.toList p := ⟨_, rfl⟩
  rw [← hJ]
  replace hJ := box hJ
  go_enter Tryd.func43, Tryd.ntmps43
  go_wp2_with fail
  go_loopg [4] s.size (fun k i wr => ∃ j : Nat, j ≤ s.size ∧ Box (k = s.size - j) ∧ i = .int .i64 (j : Int) ∧ ((∃ p', p' ≤ n ∧ Box (J = jWord b (s.data.toList.drop j) p') ∧ Fr [g] w wr [.blk g 68 (rrL A n c p' 0 0 m)]) ∨ (∃ x p' m', Box (J = .error x) ∧ x.2 ≠ 0 ∧ Fr [g] w wr [.blk g 68 (rrL A n c p' x.2 x.1 m')])))
  case atStart => exact ⟨0, by omega, box rfl, rfl, .inl ⟨p, hp, box (by rw [hJ.out, List.drop_zero]), hF0⟩⟩
  case round =>
    clear hF0
    obtain ⟨j, hj, hk, rfl, hst⟩ := hrel
    have hkf : Box (gk = s.size - j) := hk
    clear hk
    rcases hst with ⟨p', hp', hJ', hF⟩ | ⟨x, p', m', hJx, hx2, hF⟩
    · by_cases hlt : j < s.size
      · obtain ⟨y, hy'⟩ : ∃ y, s.data.toList[j]? = some y := ⟨s.data.toList[j]'(by rw [hsl.out]; exact hlt), by simp⟩
        have hdr : Box (s.data.toList.drop j = y :: s.data.toList.drop (j + 1)) := box (by rw [List.drop_eq_getElem_cons (List.getElem?_eq_some_iff.1 hy').1, (List.getElem?_eq_some_iff.1 hy').2])
        have hy := box hy'
        have hyl := y.toNat_lt
        have hwy : wrap64 (y.toNat : Int) = (y.toNat : Int) := by unfold wrap64; omega
        clear hy'
        by_cases hpn : p' < n
        · obtain ⟨x, hx'⟩ : ∃ x, b[p']? = some x := ⟨b[p']'(by rw [hl.out]; exact hpn), by simp⟩
          have hx := box hx'
          clear hx'
          by_cases hxy : x = y
          · subst hxy
            have hJn : Box (J = jWord b (s.data.toList.drop (j + 1)) (p' + 1)) := box (by rw [hJ'.out, hdr.out, jWord_go hx.out])
            go_wp2_with (first | (with_reducible refine lst (by with_unfolding_all rfl) (wp_fld0 hF Tryd.underlying3 rfl (by with_unfolding_all exact ⟨_, rfl, rfl⟩) rfl ?_)) | (with_reducible refine lst (by with_unfolding_all rfl) (wp_fld0 hF Tryd.underlying22 rfl (by with_unfolding_all exact ⟨_, rfl, rfl⟩) rfl ?_)))
            refine (rwant_in hx.out (hF.blk (i := 0) rfl) (hF.rdB hg hB hr)).mono ?_
            rintro e w1 ⟨rfl, h1⟩
            have hF1 := hF.putF (i := 0) rfl h1
            simp only [List.set_cons_zero] at hF1
            go_wp2_with (first | ((with_reducible refine lst (by with_unfolding_all rfl) (wp_sidx Tryd.underlying9 (k := j) rfl hy.out (by with_unfolding_all exact ⟨_, _, _, rfl, rfl, rfl⟩) ?_))) | (with_reducible refine lst (by with_unfolding_all rfl) (wp_fld0 hF1 Tryd.underlying3 rfl (by with_unfolding_all exact ⟨_, rfl, rfl⟩) rfl ?_)) | (with_reducible refine lst (by with_unfolding_all rfl) (wp_fld0 hF1 Tryd.underlying22 rfl (by with_unfolding_all exact ⟨_, rfl, rfl⟩) rfl ?_)) | ((with_reducible refine lst (by with_unfolding_all rfl) (wp_fst0 hF1 (by with_unfolding_all exact ⟨_, _, rfl, rfl, rfl⟩) (by kernel_rfl) rfl rfl (by rw [rrL_len]; decide) (rrL_at (v := (p' : Int) + 1) (q := p' + 1) (by omega)) ?_)); intro w2 hF2 hz2))
            go_roundg (s.size - (j + 1))
            case rel => exact ⟨j + 1, by omega, box rfl, by go_num, .inl ⟨p' + 1, by omega, hJn, hF2⟩⟩
            case measure => have := hkf.out; omega
          · have hJn : Box (J = .error (p', 10)) := box (by rw [hJ'.out, hdr.out, jWord_no hx.out hxy])
            have hne : ((x.toNat : Int) == (y.toNat : Int)) = false := u8_ne hxy
            replace hxy := box hxy
            go_wp2_with (first | (with_reducible refine lst (by with_unfolding_all rfl) (wp_fld0 hF Tryd.underlying3 rfl (by with_unfolding_all exact ⟨_, rfl, rfl⟩) rfl ?_)) | (with_reducible refine lst (by with_unfolding_all rfl) (wp_fld0 hF Tryd.underlying22 rfl (by with_unfolding_all exact ⟨_, rfl, rfl⟩) rfl ?_)))
            refine (rwant_in hx.out (hF.blk (i := 0) rfl) (hF.rdB hg hB hr)).mono ?_
            rintro e w1 ⟨rfl, h1⟩
            have hF1 := hF.putF (i := 0) rfl h1
            simp only [List.set_cons_zero] at hF1
            go_wp2_with (first | ((with_reducible refine lst (by with_unfolding_all rfl) (wp_sidx Tryd.underlying9 (k := j) rfl hy.out (by with_unfolding_all exact ⟨_, _, _, rfl, rfl, rfl⟩) ?_))) | (with_reducible refine lst (by with_unfolding_all rfl) (wp_fld0 hF1 Tryd.underlying3 rfl (by with_unfolding_all exact ⟨_, rfl, rfl⟩) rfl ?_)) | (with_reducible refine lst (by with_unfolding_all rfl) (wp_fld0 hF1 Tryd.underlying22 rfl (by with_unfolding_all exact ⟨_, rfl, rfl⟩) rfl ?_)))
            refine (rfail_ok g A n c p' m (p', 10) _ (hF1.blk (i := 0) rfl)).mono ?_
            rintro e w2 ⟨rfl, h2⟩
            have hF2 := hF1.putF (i := 0) rfl h2
            simp only [List.set_cons_zero] at hF2
            go_wp2_with fail
            go_roundg (s.size - (j + 1))
            case rel => exact ⟨j + 1, by omega, box rfl, by go_num, .inr ⟨_, _, _, hJn, Nat.succ_ne_zero _, hF2⟩⟩
            case measure => have := hkf.out; omega
        · have hx : Box (b[p']? = none) := box (List.getElem?_eq_none (by rw [hl.out]; omega))
          have hJn : Box (J = .error (n, 9)) := box (by rw [hJ'.out, hdr.out, jWord_end hx.out, hl.out])
          have hne : ((256 : Int) == (y.toNat : Int)) = false := by rw [beq_eq_false_iff_ne]; omega
          go_wp2_with (first | (with_reducible refine lst (by with_unfolding_all rfl) (wp_fld0 hF Tryd.underlying3 rfl (by with_unfolding_all exact ⟨_, rfl, rfl⟩) rfl ?_)) | (with_reducible refine lst (by with_unfolding_all rfl) (wp_fld0 hF Tryd.underlying22 rfl (by with_unfolding_all exact ⟨_, rfl, rfl⟩) rfl ?_)))
          refine (rwant_end hx.out (hF.blk (i := 0) rfl) (hF.rdB hg hB hr)).mono ?_
          rintro e w1 ⟨rfl, h1⟩
          have hF1 := hF.putF (i := 0) rfl h1
          simp only [List.set_cons_zero] at hF1
          go_wp2_with (first | ((with_reducible refine lst (by with_unfolding_all rfl) (wp_sidx Tryd.underlying9 (k := j) rfl hy.out (by with_unfolding_all exact ⟨_, _, _, rfl, rfl, rfl⟩) ?_))) | (with_reducible refine lst (by with_unfolding_all rfl) (wp_fld0 hF1 Tryd.underlying3 rfl (by with_unfolding_all exact ⟨_, rfl, rfl⟩) rfl ?_)) | (with_reducible refine lst (by with_unfolding_all rfl) (wp_fld0 hF1 Tryd.underlying22 rfl (by with_unfolding_all exact ⟨_, rfl, rfl⟩) rfl ?_)))
          refine (rfail_bad g A n c p' 9 n m _ _ _ (by decide) (hF1.blk (i := 0) rfl)).mono ?_
          rintro e w2 ⟨rfl, h2⟩
          have hF2 := hF1.putF (i := 0) rfl h2
          simp only [List.set_cons_zero] at hF2
          go_wp2_with fail
          go_roundg (s.size - (j + 1))
          case rel => exact ⟨j + 1, by omega, box rfl, by go_num, .inr ⟨_, _, _, hJn, Nat.succ_ne_zero _, hF2⟩⟩
          case measure => have := hkf.out; omega
      · have hJe : Box (J = .ok p') := box (by rw [hJ'.out, List.drop_of_length_le (by rw [hsl.out]; omega)]; rfl)
        go_wp2_with (first | (with_reducible refine lst (by with_unfolding_all rfl) (wp_fld0 hF Tryd.underlying3 rfl (by with_unfolding_all exact ⟨_, rfl, rfl⟩) rfl ?_)) | (with_reducible refine lst (by with_unfolding_all rfl) (wp_fld0 hF Tryd.underlying22 rfl (by with_unfolding_all exact ⟨_, rfl, rfl⟩) rfl ?_)))
        go_end0
        refine ⟨rfl, ?_⟩
        rw [hJe.out]
        exact hF
    · have hf0 : ((x.2 : Int) == 0) = false := by rw [beq_eq_false_iff_ne]; omega
      replace hx2 := box hx2
      by_cases hlt : j < s.size
      · go_wp2_with (first | (with_reducible refine lst (by with_unfolding_all rfl) (wp_fld0 hF Tryd.underlying3 rfl (by with_unfolding_all exact ⟨_, rfl, rfl⟩) rfl ?_)) | (with_reducible refine lst (by with_unfolding_all rfl) (wp_fld0 hF Tryd.underlying22 rfl (by with_unfolding_all exact ⟨_, rfl, rfl⟩) rfl ?_)))
        go_end0
        refine ⟨rfl, ?_⟩
        rw [hJx.out]
        exact ⟨_, _, hF⟩
      · go_wp2_with (first | (with_reducible refine lst (by with_unfolding_all rfl) (wp_fld0 hF Tryd.underlying3 rfl (by with_unfolding_all exact ⟨_, rfl, rfl⟩) rfl ?_)) | (with_reducible refine lst (by with_unfolding_all rfl) (wp_fld0 hF Tryd.underlying22 rfl (by with_unfolding_all exact ⟨_, rfl, rfl⟩) rfl ?_)))
        go_end0
        refine ⟨rfl, ?_⟩
        rw [hJx.out]
        exact ⟨_, _, hF⟩

end Go.Proofs.YtdekogmegdhjoaaDoor
