/-
  Layer 6: the walk of the program's reader of numbers.
-/
import Derived.Test.YtdekogmegdhjoaaDoorJ8
import Derived.Test.YtdekogmegdhjoaaDoorLex
import Derived.Test.YtdekogmegdhjoaaDoorJNum
import Derived.Lib.AtoiErrMem
import Derived.Lib.AtoiAllCases
namespace Go.Proofs.YtdekogmegdhjoaaDoor
open Go.RowKit
set_option linter.unusedSimpArgs false

def jNumEnd (b : List UInt8) (p : Nat) : Nat := p + ((b.drop p).takeWhile jNumC).length
theorem jNumEnd_go {b : List UInt8} {p : Nat} {x : UInt8} (hx : b[p]? = some x) (h : jNumC x = true) : jNumEnd b p = jNumEnd b (p + 1) := by
  have hp := (List.getElem?_eq_some_iff.1 hx).1
  unfold jNumEnd
  rw [List.drop_eq_getElem_cons hp, (List.getElem?_eq_some_iff.1 hx).2, List.takeWhile_cons, if_pos h, List.length_cons]
  omega
theorem jNumEnd_stop {b : List UInt8} {p : Nat} {x : UInt8} (hx : b[p]? = some x) (h : jNumC x = false) : jNumEnd b p = p := by
  have hp := (List.getElem?_eq_some_iff.1 hx).1
  unfold jNumEnd
  rw [List.drop_eq_getElem_cons hp, (List.getElem?_eq_some_iff.1 hx).2, List.takeWhile_cons, if_neg (by rw [h]; decide)]
  rfl
theorem jNumEnd_end {b : List UInt8} {p : Nat} (hx : b.length ≤ p) : jNumEnd b p = p := by
  unfold jNumEnd
  rw [List.drop_of_length_le hx]
  rfl
theorem jNum_sign {b : List UInt8} {p : Nat} : (b.drop p).takeWhile jNumC = (b.drop p).take (jNumEnd b p - p) := by
  unfold jNumEnd
  rw [Nat.add_sub_cancel_left]
  exact (List.prefix_iff_eq_take.1 (List.takeWhile_prefix _))

theorem itoa_below {w w' : World} (h : ∃ k os, w' = Go.Sort.grow (w.drewN k) os) : Below w.heap.size w w' := by
  obtain ⟨k, os, rfl⟩ := h
  exact ⟨rfl, rfl, rfl, by rw [Go.Sort.size_grow]; show w.heap.size ≤ w.heap.size + _; omega, fun j hj => Go.Sort.heap_grow_old _ os hj⟩
theorem end_other {x : Lib.NumEnd Int} (h1 : ∀ v, x ≠ .ok v) (h2 : x ≠ .range) : x = Lib.atoiAll [] := by
  cases x
  · exact absurd rfl (h1 _)
  · rfl
  · exact absurd rfl h2
/-- strconv.Atoi at any short text. -/
theorem atoi_ok (s : ByteArray) (hs : s.size ≤ 65536) (B : Nat) (w : World) (hL : LibsAt B w) :
    Calls Tryd.prog 53 #[.string s] w fun e w' => ∃ (v : Int) (er : Value), e = .returned (.tuple #[.int .i64 v, er]) ∧ Below w.heap.size w w' ∧ (er = .nilIface ∧ Lib.atoiAll s.data.toList = .ok v ∧ -9223372036854775808 ≤ v ∧ v ≤ 9223372036854775807 ∨ (∃ t x, er = .iface t (.pointer (some x))) ∧ ∀ v, Lib.atoiAll s.data.toList ≠ .ok v) := by
  by_cases h0 : ∃ v, Lib.atoiAll s.data.toList = .ok v
  · obtain ⟨v, h⟩ := h0
    refine (Tryd.strconv_Atoi_ok s (by omega) v h w).mono ?_
    rintro e w' ⟨rfl, hw⟩
    refine ⟨v, _, rfl, ?_, .inl ⟨rfl, h, ?_⟩⟩
    · rcases hw with rfl | ⟨t, rfl⟩
      · exact Below.refl _ _
      · exact Lib.bytesWorld_below _ _ _
    · exact Lib.atoiAll_bounds h
  · by_cases h : Lib.atoiAll s.data.toList = .range
    · obtain ⟨tp, p, hv⟩ := hL.rng
      refine (Tryd.strconv_Atoi_range_var s (by omega) h tp p w (hv w (Below.refl _ _))).mono ?_
      rintro e w' ⟨N, rfl, _, _, hb⟩
      exact ⟨_, _, rfl, hb, .inr ⟨⟨_, _, rfl⟩, fun v hv => h0 ⟨v, hv⟩⟩⟩
    · have h2 : Lib.atoiAll s.data.toList = Lib.atoiAll [] := end_other (fun v hv => h0 ⟨v, hv⟩) h
      obtain ⟨tp, p, hv⟩ := hL.syn
      refine (Tryd.strconv_Atoi_syntax_var s (by omega) h2 tp p w (hv w (Below.refl _ _))).mono ?_
      rintro e w' ⟨N, rfl, _, _, hb⟩
      exact ⟨0, _, rfl, hb, .inr ⟨⟨_, _, rfl⟩, fun v hv => h0 ⟨v, hv⟩⟩⟩
/-- A value's cells. -/
def vlL (k n : Int) (t : ByteArray) (ns ks : Value) : List Value := [.int .i64 k, .int .i64 n, .string t, ns, ks]
abbrev vl0 : List Value := vlL 0 0 ⟨#[]⟩ (.slice none 0 0) (.slice none 0 0)
section
variable {k n k' n' : Int} {t t' : ByteArray} {A1 A2 : Option Addr} {n1 c1 n2 c2 : Nat} {a b a' b' : Value}
theorem vlL_one : ∀ u ∈ vlL k n t (.slice A1 n1 c1) (.slice A2 n2 c2), u.oneCell' = true := by
  intro u hu
  simp only [vlL, List.mem_cons, List.not_mem_nil, or_false] at hu
  rcases hu with rfl | rfl | rfl | rfl | rfl <;> rfl
theorem vlL_len : (vlL k n t a b).length = 5 := rfl
theorem vlL_fit : 0 + (vlL k n t a b).length ≤ (vlL k' n' t' a' b').length := Nat.le_refl 5
theorem vlL_spl : spl (vlL k n t a b) 0 (vlL k' n' t' a' b') = vlL k' n' t' a' b' := spl_all rfl
end
def vlP : List (Nat × Nat) := [(0, 1), (1, 1), (2, 1), (3, 1), (4, 1)]
/-- The test of the loop (lexs.py). -/
def numS : List LexS := [([], some 11, [0]), ([0], some 12, [11]), ([1], some 13, [12]), ([2], some 14, [13]), ([], some 15, [0]), ([4], some 16, [15]), ([5], some 17, [16]), ([6], some 18, [17]), ([7], some 19, [18]), ([3, 8], some 20, [14, 19]), ([9], some 21, [20]), ([10], some 22, [0, 21]), ([11, 10], some 23, [22, 21]), ([12, 10], some 24, [23, 21]), ([13, 10], some 25, [24, 21]), ([10], some 26, [0, 21]), ([15, 10], some 27, [26, 21]), ([16, 10], some 28, [27, 21]), ([17, 10], some 29, [28, 21]), ([14, 18, 10], some 30, [25, 29, 21]), ([19, 10], some 31, [30, 21]), ([20, 10], some 32, [31, 21]), ([21, 10, 10], some 33, [32, 21]), ([22], some 34, [0, 33]), ([23, 22], some 35, [34, 33]), ([24, 22], some 36, [35, 33]), ([25, 22], some 37, [36, 33]), ([22], some 38, [0, 33]), ([27, 22], some 39, [38, 33]), ([28, 22], some 40, [39, 33]), ([29, 22], some 41, [40, 33]), ([26, 30, 22], some 42, [37, 41, 33]), ([31, 22], some 43, [42, 33]), ([32, 22], some 44, [43, 33]), ([22, 33, 10], some 45, [33, 44, 21]), ([34, 22, 10], some 46, [45, 21]), ([35], some 47, [0, 46]), ([36, 35], some 48, [47, 46]), ([37, 35], some 49, [48, 46]), ([38, 35], some 50, [49, 46]), ([35], some 51, [0, 46]), ([40, 35], some 52, [51, 46]), ([41, 35], some 53, [52, 46]), ([42, 35], some 54, [53, 46]), ([39, 43, 35], some 55, [50, 54, 46]), ([44, 35], some 56, [55, 46]), ([45, 35], some 57, [56, 46]), ([35, 46, 10], some 58, [46, 57, 21]), ([47, 35, 10], some 59, [58, 21]), ([48], some 60, [0, 59]), ([49, 48], some 61, [60, 59]), ([50, 48], some 62, [61, 59]), ([51, 48], some 63, [62, 59]), ([48], some 64, [0, 59]), ([53, 48], some 65, [64, 59]), ([54, 48], some 66, [65, 59]), ([55, 48], some 67, [66, 59]), ([52, 56, 48], some 68, [63, 67, 59]), ([57, 48], some 69, [68, 59]), ([58, 48], some 70, [69, 59]), ([48, 59, 10], some 71, [59, 70, 21]), ([60, 48, 10], some 72, [71, 21]), ([61], some 73, [0, 72]), ([62, 61], some 74, [73, 72]), ([63, 61], some 75, [74, 72]), ([64, 61], some 76, [75, 72]), ([61], some 77, [0, 72]), ([66, 61], some 78, [77, 72]), ([67, 61], some 79, [78, 72]), ([68, 61], some 80, [79, 72]), ([65, 69, 61], some 81, [76, 80, 72]), ([70, 61], some 82, [81, 72]), ([71, 61], some 83, [82, 72]), ([61, 72, 10], some 84, [72, 83, 21]), ([73, 61, 10], some 85, [84, 21]), ([74], some 86, [0, 85]), ([75, 74], some 87, [86, 85]), ([76, 74], some 88, [87, 85]), ([77, 74], some 89, [88, 85]), ([74], some 90, [0, 85]), ([79, 74], some 91, [90, 85]), ([80, 74], some 92, [91, 85]), ([81, 74], some 93, [92, 85]), ([78, 82, 74], some 94, [89, 93, 85]), ([83, 74], some 95, [94, 85]), ([84, 74], some 96, [95, 85]), ([74, 85, 10], some 97, [85, 96, 21]), ([86, 74, 10], some 98, [97, 21]), ([87], some 99, [0, 98]), ([88, 87], some 100, [99, 98]), ([89, 87], some 101, [100, 98]), ([90, 87], some 102, [101, 98]), ([87], some 103, [0, 98]), ([92, 87], some 104, [103, 98]), ([93, 87], some 105, [104, 98]), ([94, 87], some 106, [105, 98]), ([91, 95, 87], some 107, [102, 106, 98]), ([96, 87], some 108, [107, 98]), ([97, 87], some 109, [108, 98]), ([87, 98, 10], some 110, [98, 109, 21]), ([10, 99], some 111, [21, 110])]
set_option maxRecDepth 20000 in
theorem numS_ok : lexChk 0 numS = true := by kernel_rfl
/-- A number is told, and the reader's place. -/
def ToldN (w : World) (g : Nat) (A : Option Addr) (n c m : Nat) (x : Int × Nat) (e : Ending) (w' : World) : Prop :=
  e = .returned (.agg (vlL 3 x.1 ⟨#[]⟩ (.slice none 0 0) (.slice none 0 0)).toArray) ∧ Fr [g] w w' [.blk g 63 (rdrL A n c x.2 m)]

set_option maxRecDepth 20000 in
set_option maxHeartbeats 6400000 in
theorem number_any (g : Nat) (A : Option Addr) (n c p m B : Nat) (b : List UInt8) (w : World) (hL : LibsAt B w) (hh : w.heap[g]? = some (.cells (rdrL A n c p m).toArray 63 (0, 0))) (hg : B ≤ g) (hB : B ≤ w.heap.size) (hn : n ≤ 65536) (hnc : n ≤ c) (hp : p ≤ n) (hr : Rd w (· < B) A 1 n (b.map bv)) :
    Calls Tryd.prog 38 #[.pointer (some ⟨g, 0, none⟩)] w (JEndP w g (jNumber b p) (ToldN w g A n c m)) := by
  have hl := box hr.bytes_len
  have hF0 := Fr.one hh
  clear hh
  go_enter Tryd.func38, Tryd.ntmps38
  go_wp2_with (first | ((with_reducible refine lst (by with_unfolding_all rfl) (wp_falloc hF0 (cs := vl0) (z := .agg (List.toArray (vl0))) rfl (by kernel_rfl) (by with_unfolding_all rfl) ?_)); intro w1 g1 hF1 hz1) | (with_reducible refine lst (by with_unfolding_all rfl) (wp_fld1 hF1 Tryd.underlying3 rfl (by with_unfolding_all exact ⟨_, rfl, rfl⟩) rfl ?_)))
  go_loopg [] (n - p) (fun k wr => ∃ p' : Nat, p ≤ p' ∧ p' ≤ n ∧ Box (k = n - p') ∧ Box (jNumEnd b p = jNumEnd b p') ∧ Fr [g] w wr [.blk g1 27 vl0, .blk g 63 (rdrL A n c p' m)])
  case atStart => exact ⟨p, Nat.le_refl _, hp, box rfl, box rfl, hF1⟩
  case round =>
    obtain ⟨p', hpp, hp', hk, hj, hF⟩ := hrel
    clear hF0 hF1
    have h0 := rdr_b (hF.blk (i := 1) rfl)
    have h1 := rdr_p (hF.blk (i := 1) rfl)
    obtain ⟨bt, hbt⟩ : ∃ bt : Bool, bt = (decide (p' < n) && ((b[p']?).map jNumC).getD false) := ⟨_, rfl⟩
    have hgo : Box (bt = true → p' < n ∧ jNumEnd b p = jNumEnd b (p' + 1)) := box (fun h => by
      rw [h] at hbt
      have h2 := hbt.symm
      simp only [Bool.and_eq_true, decide_eq_true_eq] at h2
      cases hx : b[p']? with
      | none => rw [hx] at h2; simp at h2
      | some x => rw [hx] at h2; exact ⟨h2.1, hj.out.trans (jNumEnd_go hx h2.2)⟩)
    have hend : Box (bt = false → jNumEnd b p = p') := box (fun h => by
      rw [h] at hbt
      refine hj.out.trans ?_
      cases hx : b[p']? with
      | none => exact jNumEnd_end (List.getElem?_eq_none_iff.1 hx)
      | some x =>
        have := (List.getElem?_eq_some_iff.1 hx).1
        rw [hl.out] at this
        rw [hx] at hbt
        have h2 := hbt.symm
        simp only [this, decide_true, Bool.true_and, Option.map_some, Option.getD_some] at h2
        exact jNumEnd_stop hx h2)
    replace hbt := box hbt
    go_upto_region 2 with (fail)
    go_cut [111] (fun s111 wx => s111 = .bool bt ∧ Fr [g] w wx [.blk g1 27 vl0, .blk g 63 (rdrL A n c p' m)])
    case first =>
      (refine wp_region_quiet_lit (by kernel_rfl) (lex_of numS (by kernel_rfl) (by kernel_rfl) numS_ok) ?_; (try dsimp only [List.append]))
      by_cases hlt : p' < n
      · obtain ⟨ad, x, hA, hx, hcx⟩ := (hF.rdB hg hB hr).atB hlt
        have hxb := x.toNat_lt
        have hbt2 : bt = jNumC x := by rw [hbt.out, hx]; simp [hlt]
        clear hr hx hbt hgo hend
        subst hA
        by_cases hx0 : x = 45
        · have hb : bt = true := by rw [hbt2, hx0]; decide
          have hcy : wr.cell? (ad.add p') = some (.int .u8 45) := by rw [hcx, hx0]; rfl
          clear hcx hxb hbt2 hx0
          ((repeat (go_big_quiet_step (fail))); refine wpQuiet_nil ?_; intro _ hw'; obtain ⟨nq, hw''⟩ := hw'; subst hw'')
          have hFd := hF.drewN nq
          go_wp2_with fail
          go_meet
          exact ⟨by rw [hb], hFd⟩
        · by_cases hx1 : x = 43
          · have hb : bt = true := by rw [hbt2, hx1]; decide
            have hcy : wr.cell? (ad.add p') = some (.int .u8 43) := by rw [hcx, hx1]; rfl
            clear hcx hxb hbt2 hx0 hx1
            ((repeat (go_big_quiet_step (fail))); refine wpQuiet_nil ?_; intro _ hw'; obtain ⟨nq, hw''⟩ := hw'; subst hw'')
            have hFd := hF.drewN nq
            go_wp2_with fail
            go_meet
            exact ⟨by rw [hb], hFd⟩
          · by_cases hx2 : x = 46
            · have hb : bt = true := by rw [hbt2, hx2]; decide
              have hcy : wr.cell? (ad.add p') = some (.int .u8 46) := by rw [hcx, hx2]; rfl
              clear hcx hxb hbt2 hx0 hx1 hx2
              ((repeat (go_big_quiet_step (fail))); refine wpQuiet_nil ?_; intro _ hw'; obtain ⟨nq, hw''⟩ := hw'; subst hw'')
              have hFd := hF.drewN nq
              go_wp2_with fail
              go_meet
              exact ⟨by rw [hb], hFd⟩
            · by_cases hx3 : x = 101
              · have hb : bt = true := by rw [hbt2, hx3]; decide
                have hcy : wr.cell? (ad.add p') = some (.int .u8 101) := by rw [hcx, hx3]; rfl
                clear hcx hxb hbt2 hx0 hx1 hx2 hx3
                ((repeat (go_big_quiet_step (fail))); refine wpQuiet_nil ?_; intro _ hw'; obtain ⟨nq, hw''⟩ := hw'; subst hw'')
                have hFd := hF.drewN nq
                go_wp2_with fail
                go_meet
                exact ⟨by rw [hb], hFd⟩
              · by_cases hx4 : x = 69
                · have hb : bt = true := by rw [hbt2, hx4]; decide
                  have hcy : wr.cell? (ad.add p') = some (.int .u8 69) := by rw [hcx, hx4]; rfl
                  clear hcx hxb hbt2 hx0 hx1 hx2 hx3 hx4
                  ((repeat (go_big_quiet_step (fail))); refine wpQuiet_nil ?_; intro _ hw'; obtain ⟨nq, hw''⟩ := hw'; subst hw'')
                  have hFd := hF.drewN nq
                  go_wp2_with fail
                  go_meet
                  exact ⟨by rw [hb], hFd⟩
                · have n0 : ((x.toNat : Int) == 45) = false := u8_ne hx0
                  have n1 : ((x.toNat : Int) == 43) = false := u8_ne hx1
                  have n2 : ((x.toNat : Int) == 46) = false := u8_ne hx2
                  have n3 : ((x.toNat : Int) == 101) = false := u8_ne hx3
                  have n4 : ((x.toNat : Int) == 69) = false := u8_ne hx4
                  by_cases h48 : 48 ≤ x.toNat
                  · have d1 : decide ((48 : Int) ≤ (x.toNat : Int)) = true := decide_eq_true (by omega)
                    by_cases h57 : x.toNat ≤ 57
                    · have d2 : decide ((x.toNat : Int) ≤ 57) = true := decide_eq_true (by omega)
                      have hb : bt = true := by rw [hbt2]; simp [jNumC, jDig, h48, h57]
                      clear hbt2 h48 h57 hx0 hx1 hx2 hx3 hx4
                      ((repeat (go_big_quiet_step (fail))); refine wpQuiet_nil ?_; intro _ hw'; obtain ⟨nq, hw''⟩ := hw'; subst hw'')
                      have hFd := hF.drewN nq
                      go_wp2_with fail
                      go_meet
                      exact ⟨by rw [hb], hFd⟩
                    · have d2 : decide ((x.toNat : Int) ≤ 57) = false := decide_eq_false (by omega)
                      have hb : bt = false := by rw [hbt2]; simp [jNumC, jDig, h57, hx0, hx1, hx2, hx3, hx4]
                      clear hbt2 h48 h57 hx0 hx1 hx2 hx3 hx4
                      ((repeat (go_big_quiet_step (fail))); refine wpQuiet_nil ?_; intro _ hw'; obtain ⟨nq, hw''⟩ := hw'; subst hw'')
                      have hFd := hF.drewN nq
                      go_wp2_with fail
                      go_meet
                      exact ⟨by rw [hb], hFd⟩
                  · have d1 : decide ((48 : Int) ≤ (x.toNat : Int)) = false := decide_eq_false (by omega)
                    have hb : bt = false := by rw [hbt2]; simp [jNumC, jDig, h48, hx0, hx1, hx2, hx3, hx4]
                    clear hbt2 h48 hx0 hx1 hx2 hx3 hx4
                    ((repeat (go_big_quiet_step (fail))); refine wpQuiet_nil ?_; intro _ hw'; obtain ⟨nq, hw''⟩ := hw'; subst hw'')
                    have hFd := hF.drewN nq
                    go_wp2_with fail
                    go_meet
                    exact ⟨by rw [hb], hFd⟩
      · have hb : bt = false := by rw [hbt.out]; simp [hlt]
        clear hbt hgo hend
        ((repeat (go_big_quiet_step (fail))); refine wpQuiet_nil ?_; intro _ hw'; obtain ⟨nq, hw''⟩ := hw'; subst hw'')
        have hFd := hF.drewN nq
        go_wp2_with fail
        go_meet
        exact ⟨by rw [hb], hFd⟩
    case rest =>
      obtain ⟨rfl, hF2⟩ := hcut
      clear hF h0 h1 hbt
      cases bt with
      | true =>
        obtain ⟨hlt, hgo2⟩ := hgo.out rfl
        replace hgo2 := box hgo2
        go_wp2_with (first | (with_reducible refine lst (by with_unfolding_all rfl) (wp_fld1 hF2 Tryd.underlying3 rfl (by with_unfolding_all exact ⟨_, rfl, rfl⟩) rfl ?_)) | ((with_reducible refine lst (by with_unfolding_all rfl) (wp_fst1 hF2 (by with_unfolding_all exact ⟨_, _, rfl, rfl, rfl⟩) (by kernel_rfl) rfl rfl (by rw [rdrL_len]; decide) (rdrL_at (q := p' + 1) (by omega)) ?_)); intro w3 hF3 hz3))
        go_roundg (n - (p' + 1))
        case rel => exact ⟨p' + 1, by omega, by omega, box rfl, hgo2, hF3⟩
        case measure => have := hk.out; omega
      | false =>
        have hE := box (hend.out rfl)
        clear hgo hend hk hj
        obtain ⟨sg, hsg⟩ : ∃ sg, sg = (b.take p').drop p := ⟨_, rfl⟩
        have hsl : sg.length = p' - p := by rw [hsg, List.length_drop, List.length_take, hl.out]; omega
        have hbs : Box ((b.drop p).takeWhile jNumC = sg) := box (by rw [jNum_sign, hE.out, hsg, List.drop_take])
        replace hsg := box hsg
        have hrc := box (fun w' (h : Rd w' (· < B) A 1 n (b.map bv)) => by
          have h2 := cut_rd (m := c) h hpp hp' (show p' ≤ c by omega)
          rw [← hsg.out] at h2
          exact h2)
        go_upto_region 4 with (fail)
        have hFd := hF2.drew
        refine wp_region_held (S := fun w' => w'.heap[g]? = some (.cells (List.toArray (rdrL A n c p' m)) 63 (0, 0)) ∧ Rd w' (· < B) A 1 n (b.map bv)) (by kernel_rfl) ?_
        change wpAnyH _ _ _ _ _ _ _ _ (World.drew _)
        refine wpAnyH_take (i := 0) (v := ?_) (by simp only [List.getElem?_toArray, List.getElem?_cons_zero]; rfl) (by kernel_rfl) (by kernel_rfl) (by kernel_rfl) (by exact fun _ _ _ h => h) (Or.inl ⟨by with_unfolding_all rfl, ?_⟩) ⟨hFd.blk (i := 1) rfl, hFd.rdB hg hB hr⟩ ?_
        rotate_left
        · (intro w hSw; (try dsimp only at hSw); go_simp; try with_reducible rfl)
        (try simp only [Act.put, List.setIfInBounds_toArray, List.set_cons_zero, List.set_cons_succ])
        refine wpAnyH_take (i := 1) (v := ?_) (by simp only [List.getElem?_toArray, List.getElem?_cons_zero, List.getElem?_cons_succ]; rfl) (by kernel_rfl) (by kernel_rfl) (by kernel_rfl) (by exact fun _ _ _ h => h) (Or.inl ⟨by with_unfolding_all rfl, ?_⟩) ⟨hFd.blk (i := 1) rfl, hFd.rdB hg hB hr⟩ ?_
        rotate_left
        · (intro w hSw; (try dsimp only at hSw); go_simp; try with_reducible rfl)
        (try simp only [Act.put, List.setIfInBounds_toArray, List.set_cons_zero, List.set_cons_succ])
        refine wpAnyH_take (i := 2) (v := ?_) (by simp only [List.getElem?_toArray, List.getElem?_cons_zero, List.getElem?_cons_succ]; rfl) (by kernel_rfl) (by kernel_rfl) (by kernel_rfl) (by exact fun _ _ _ h => h) (Or.inl ⟨by with_unfolding_all rfl, ?_⟩) ⟨hFd.blk (i := 1) rfl, hFd.rdB hg hB hr⟩ ?_
        rotate_left
        · (intro w hSw; (try dsimp only at hSw); go_simp; try with_reducible rfl)
        (try simp only [Act.put, List.setIfInBounds_toArray, List.set_cons_zero, List.set_cons_succ])
        refine wpAnyH_take (i := 3) (by simp only [List.getElem?_toArray, List.getElem?_cons_zero, List.getElem?_cons_succ]; rfl) (by kernel_rfl) (by kernel_rfl) (by kernel_rfl) (by exact fun _ _ _ h => h) (yi_fld (by with_unfolding_all rfl) (fun _ h => h.1) Tryd.underlying22 rfl (by with_unfolding_all exact ⟨_, rfl, rfl⟩) rfl) ⟨hFd.blk (i := 1) rfl, hFd.rdB hg hB hr⟩ ?_
        (try simp only [Act.put, List.setIfInBounds_toArray, List.set_cons_zero, List.set_cons_succ])
        refine wpAnyH_take (i := 4) (v := ?_) (by simp only [List.getElem?_toArray, List.getElem?_cons_zero, List.getElem?_cons_succ]; rfl) (by kernel_rfl) (by kernel_rfl) (by kernel_rfl) (by exact fun _ _ _ h => h) (Or.inl ⟨by with_unfolding_all rfl, ?_⟩) ⟨hFd.blk (i := 1) rfl, hFd.rdB hg hB hr⟩ ?_
        rotate_left
        · (intro w hSw; (try dsimp only at hSw); go_simp; try with_reducible rfl)
        (try simp only [Act.put, List.setIfInBounds_toArray, List.set_cons_zero, List.set_cons_succ])
        refine wpAnyH_take (i := 5) (v := ?_) (by simp only [List.getElem?_toArray, List.getElem?_cons_zero, List.getElem?_cons_succ]; rfl) (by kernel_rfl) (by kernel_rfl) (by kernel_rfl) (by exact fun _ _ _ h => h) (Or.inl ⟨by with_unfolding_all rfl, ?_⟩) ⟨hFd.blk (i := 1) rfl, hFd.rdB hg hB hr⟩ ?_
        rotate_left
        · (intro w hSw; (try dsimp only at hSw); go_simp; try with_reducible rfl)
        (try simp only [Act.put, List.setIfInBounds_toArray, List.set_cons_zero, List.set_cons_succ])
        refine wpAnyH_take (i := 6) (v := ?_) (by simp only [List.getElem?_toArray, List.getElem?_cons_zero, List.getElem?_cons_succ]; rfl) (by kernel_rfl) (by kernel_rfl) (by kernel_rfl) (by exact fun _ _ _ h => h) (Or.inl ⟨by with_unfolding_all rfl, ?_⟩) ⟨hFd.blk (i := 1) rfl, hFd.rdB hg hB hr⟩ ?_
        rotate_left
        · (intro w hSw; (try dsimp only at hSw); go_simp; try with_reducible rfl)
        (try simp only [Act.put, List.setIfInBounds_toArray, List.set_cons_zero, List.set_cons_succ])
        refine wpAnyH_take (i := 7) (v := ?_) (by simp only [List.getElem?_toArray, List.getElem?_cons_zero, List.getElem?_cons_succ]; rfl) (by kernel_rfl) (by kernel_rfl) (by kernel_rfl) (by exact fun _ _ _ h => h) (Or.inl ⟨by with_unfolding_all rfl, ?_⟩) ⟨hFd.blk (i := 1) rfl, hFd.rdB hg hB hr⟩ ?_
        rotate_left
        · (intro w hSw; (try dsimp only at hSw); go_simp; try with_reducible rfl)
        (try simp only [Act.put, List.setIfInBounds_toArray, List.set_cons_zero, List.set_cons_succ])
        refine wpAnyH_take (i := 8) (by simp only [List.getElem?_toArray, List.getElem?_cons_zero, List.getElem?_cons_succ]; rfl) (by kernel_rfl) (by kernel_rfl) (by kernel_rfl) (by exact fun _ _ _ h => h) (yi_fld (by with_unfolding_all rfl) (fun _ h => h.1) Tryd.underlying3 rfl (by with_unfolding_all exact ⟨_, rfl, rfl⟩) rfl) ⟨hFd.blk (i := 1) rfl, hFd.rdB hg hB hr⟩ ?_
        (try simp only [Act.put, List.setIfInBounds_toArray, List.set_cons_zero, List.set_cons_succ])
        refine wpAnyH_take (i := 9) (by simp only [List.getElem?_toArray, List.getElem?_cons_zero, List.getElem?_cons_succ]; rfl) (by kernel_rfl) (by kernel_rfl) (by kernel_rfl) (by exact fun _ _ _ h => h) (yi_cut (by with_unfolding_all rfl) T_u8 (lo := some (p : Int)) (hi := some (p' : Int)) (mx := none) (l := p) (h := p') (m := c) (by with_unfolding_all exact ⟨_, _, _, _, .i64, .i64, .i64, rfl, rfl, rfl, rfl, rfl⟩) (by simp; done) (by simp; done) (by simp; done) (by simp) (by omega) (by omega) (by omega) (by omega)) ⟨hFd.blk (i := 1) rfl, hFd.rdB hg hB hr⟩ ?_
        (try simp only [Act.put, List.setIfInBounds_toArray, List.set_cons_zero, List.set_cons_succ])
        refine wpAnyH_take (i := 10) (by simp only [List.getElem?_toArray, List.getElem?_cons_zero, List.getElem?_cons_succ]; rfl) (by kernel_rfl) (by kernel_rfl) (by kernel_rfl) (by exact fun _ _ _ h => h) (yi_b2s (by with_unfolding_all rfl) T_u8 Tryd.underlying5 Tryd.underlying9 (fun w' h => hrc.out w' ((fun _ h => h.2) w' h)) (by with_unfolding_all exact ⟨_, rfl, rfl⟩)) ⟨hFd.blk (i := 1) rfl, hFd.rdB hg hB hr⟩ ?_
        (try simp only [Act.put, List.setIfInBounds_toArray, List.set_cons_zero, List.set_cons_succ])
        refine wpAnyH_take (i := 11) (v := ?_) (by simp only [List.getElem?_toArray, List.getElem?_cons_zero, List.getElem?_cons_succ]; rfl) (by kernel_rfl) (by kernel_rfl) (by kernel_rfl) (by exact fun _ _ _ h => h) (Or.inl ⟨by with_unfolding_all rfl, ?_⟩) ⟨hFd.blk (i := 1) rfl, hFd.rdB hg hB hr⟩ ?_
        rotate_left
        · (intro w hSw; (try dsimp only at hSw); go_simp; try with_reducible rfl)
        (try simp only [Act.put, List.setIfInBounds_toArray, List.set_cons_zero, List.set_cons_succ])
        refine wpAnyH_done (by kernel_rfl) ?_ _
        generalize hw3 : wc.drew = w3 at hFd
        clear hw3 hF2
        have hat := box (atoi_ok ⟨sg.toArray⟩ (by rw [str_mk_size]; omega) B w3 (hL.on (hFd.belowG hg hB)))
        have hfl := box (fun v w => fail_any v p 63 w)
        have hjn : Box (jNumber b p = match jNum sg with
            | none => .error (p, 63)
            | some x => .ok (x, p')) := box (by
          unfold jNumber
          simp only [hbs.out]
          cases jNum sg with
          | none => rfl
          | some x => show Except.ok (x, p + sg.length) = _; rw [show p + sg.length = p' by omega])
        go_wp2_with fail
        refine (hat.out).mono ?_
        rintro e w4 ⟨v, er, rfl, hb4, hcase⟩
        have hF4 := hFd.call hb4
        rcases hcase with ⟨rfl, hav, hv0, hv1⟩ | ⟨⟨t, x, rfl⟩, hno⟩
        · have hit := box (Tryd.strconv_Itoa v hv0 hv1 w4 ((hL.on (hF4.belowG hg hB)).pow.here))
          go_wp2_with fail
          refine (hit.out).mono ?_
          rintro e w5 ⟨rfl, hg5⟩
          have hF5 := hF4.call (itoa_below hg5)
          by_cases hi : Lib.itoa v = sg
          · by_cases hgt : (9007199254740991 : Int) < v
            · have d1 : decide ((9007199254740991 : Int) < v) = true := decide_eq_true hgt
              replace hv0 := box hv0
              replace hv1 := box hv1
              have hnone : jNum sg = none := by
                cases hj : jNum sg with
                | none => rfl
                | some v' =>
                  obtain ⟨k1, k2, k3, k4⟩ := jNum_lib hj
                  have hvv := hav.symm.trans k2
                  injection hvv with hvv
                  subst hvv
                  exact absurd hgt (by omega)
              have hend : Box (jNumber b p = .error (p, 63)) := box (by rw [hjn.out, hnone])
              clear hnone
              replace hav := box hav
              clear hjn
              go_wp2_with fail
              refine (hfl.out _ _).mono ?_
              rintro e w6 ⟨rfl, rfl⟩
              dsimp only [flt]
              go_wp2
              exact ⟨rfl, by unfold JEndP; rw [hend.out]; exact ⟨rfl, hF5.grown⟩⟩
            · replace hv0 := box hv0
              replace hv1 := box hv1
              replace hi := box hi
              have hi2 := hi.out
              by_cases hlo : v < -9007199254740991
              · have d1 : decide ((9007199254740991 : Int) < v) = false := decide_eq_false hgt
                have d2 : decide (v < (-9007199254740991 : Int)) = true := decide_eq_true hlo
                have hnone : jNum sg = none := by
                  cases hj : jNum sg with
                  | none => rfl
                  | some v' =>
                    obtain ⟨k1, k2, k3, k4⟩ := jNum_lib hj
                    have hvv := hav.symm.trans k2
                    injection hvv with hvv
                    subst hvv
                    exact absurd hlo (by omega)
                have hend : Box (jNumber b p = .error (p, 63)) := box (by rw [hjn.out, hnone])
                clear hnone
                replace hav := box hav
                clear hjn
                go_wp2_with fail
                refine (hfl.out _ _).mono ?_
                rintro e w6 ⟨rfl, rfl⟩
                dsimp only [flt]
                go_wp2
                exact ⟨rfl, by unfold JEndP; rw [hend.out]; exact ⟨rfl, hF5.grown⟩⟩
              · have d1 : decide ((9007199254740991 : Int) < v) = false := decide_eq_false hgt
                have d2 : decide (v < (-9007199254740991 : Int)) = false := decide_eq_false hlo
                have hsome : jNum sg = some v := by rw [← hi.out]; exact jNum_itoa (by omega) (by omega)
                have hend : Box (jNumber b p = .ok (v, p')) := box (by rw [hjn.out, hsome])
                clear hsome hgt hlo hjn
                replace hav := box hav
                go_wp2_with (first | (with_reducible refine lst (by with_unfolding_all rfl) (wp_fbuild Tryd.underlying27 (z := .agg (List.toArray vl0)) (by kernel_rfl) (pl := vlP) (by kernel_rfl) (cs := (vlL 3 v ⟨#[]⟩ (.slice none 0 0) (.slice none 0 0))) rfl (vs := [(0, .int .i64 3), (1, .int .i64 v)]) (by with_unfolding_all rfl) (by with_unfolding_all rfl) ?_)) | ((with_reducible refine lst (by with_unfolding_all rfl) (wp_fstA0 hF5 (by with_unfolding_all exact ⟨_, _, rfl, rfl, rfl⟩) (by rw [vlL_len]; kernel_rfl) vlL_one vlL_fit vlL_spl ?_)); intro w6 hF6 hz6))
                exact bodyPost_ret (results_cellF rfl _ hF6 (i := 0) rfl rfl Tryd.underlying27 rfl (by rw [vlL_len]; kernel_rfl)) rfl (by
                  unfold JEndP
                  rw [hend.out]
                  exact ⟨rfl, hF6.tail⟩)
          · replace hv0 := box hv0
            replace hv1 := box hv1
            have hnone : jNum sg = none := by
              cases hj : jNum sg with
              | none => rfl
              | some v' =>
                obtain ⟨k1, k2, k3, k4⟩ := jNum_lib hj
                have hvv := hav.symm.trans k2
                injection hvv with hvv
                subst hvv
                exact absurd k1 hi
            have hend : Box (jNumber b p = .error (p, 63)) := box (by rw [hjn.out, hnone])
            clear hnone
            replace hav := box hav
            clear hjn
            go_wp2_with fail
            refine (hfl.out _ _).mono ?_
            rintro e w6 ⟨rfl, rfl⟩
            dsimp only [flt]
            go_wp2
            exact ⟨rfl, by unfold JEndP; rw [hend.out]; exact ⟨rfl, hF5.grown⟩⟩
        · have hnone : jNum sg = none := by
            cases hj : jNum sg with
            | none => rfl
            | some v' => exact absurd (jNum_lib hj).2.1 (hno v')
          have hend : Box (jNumber b p = .error (p, 63)) := box (by rw [hjn.out, hnone])
          clear hnone hno
          go_wp2_with fail
          refine (hfl.out _ _).mono ?_
          rintro e w5 ⟨rfl, rfl⟩
          dsimp only [flt]
          go_wp2
          exact ⟨rfl, by unfold JEndP; rw [hend.out]; exact ⟨rfl, hF4.grown⟩⟩
end Go.Proofs.YtdekogmegdhjoaaDoor
