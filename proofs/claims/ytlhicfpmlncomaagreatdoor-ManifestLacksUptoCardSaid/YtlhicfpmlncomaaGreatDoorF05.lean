/-
 Layer 6: the walk of the program's reader of numbers.
 Layer 6: values on the heap. No program is named here.
 A slice that the call owns: stores anywhere in it; a slice literal of no elements. No program is named here.
 What the second form's bound gives of a slice: its room.
 From what the form reads of structs that came in to the words of the walks: parts of the cells, one by one. No program is named here.
 A slice of any elements that came in. No program is named here.
 Layer 6: the walk of the program's reader of a member's name.
 Layer 6 in plain words: how far values go.
-/
import Derived.Test.YtlhicfpmlncomaaGreatDoorF04
import Derived.Test.YtlhicfpmlncomaaGreatDoorF02
import Derived.Lib.AtoiErrMem
import Derived.Lib.AtoiAllCases
import Derived.Test.YtlhicfpmlncomaaGreatDoorRows
import Derived.Test.YtlhicfpmlncomaaGreatDoorF01
import Derived.Test.YtlhicfpmlncomaaGreatDoorF00
set_option linter.unusedSimpArgs false
set_option linter.unusedVariables false
namespace Go.Proofs.YtlhicfpmlncomaaGreatDoor
open Go.RowKit
def jNumEnd (b : List UInt8) (p : Nat) : Nat := p + ((b.drop p).takeWhile jNumC).length
theorem jNumEnd_go {b : List UInt8} {p : Nat} {x : UInt8} (hx : b[p]? = some x) (h : jNumC x = true) : jNumEnd b p = jNumEnd b (p + 1) := by
 have hp := (List.getElem?_eq_some_iff.1 hx).1
 unfold jNumEnd
 rw [List.drop_eq_getElem_cons hp, (List.getElem?_eq_some_iff.1 hx).2, List.takeWhile_cons, if_pos h, List.length_cons]
 omega
theorem jNumEnd_stop {b : List UInt8} {p : Nat} {x : UInt8} (hx : b[p]? = some x) (h : jNumC x = false) : jNumEnd b p = p := by
 have hp := (List.getElem?_eq_some_iff.1 hx).1
 unfold jNumEnd
 rw [List.drop_eq_getElem_cons hp, (List.getElem?_eq_some_iff.1 hx).2, List.takeWhile_cons, if_neg (by rw [h]; decide)]
 rfl
theorem jNumEnd_end {b : List UInt8} {p : Nat} (hx : b.length ≤ p) : jNumEnd b p = p := by
 unfold jNumEnd
 rw [List.drop_of_length_le hx]
 rfl
theorem jNum_sign {b : List UInt8} {p : Nat} : (b.drop p).takeWhile jNumC = (b.drop p).take (jNumEnd b p - p) := by
 unfold jNumEnd
 rw [Nat.add_sub_cancel_left]
 exact (List.prefix_iff_eq_take.1 (List.takeWhile_prefix _))
theorem itoa_below {w w' : World} (h : ∃ k os, w' = Go.Sort.grow (w.drewN k) os) : Below w.heap.size w w' := by
 obtain ⟨k, os, rfl⟩ := h
 exact ⟨rfl, rfl, rfl, by rw [Go.Sort.size_grow]; show w.heap.size ≤ w.heap.size + _; omega, fun j hj => Go.Sort.heap_grow_old _ os hj⟩
theorem end_other {x : Lib.NumEnd Int} (h1 : ∀ v, x ≠ .ok v) (h2 : x ≠ .range) : x = Lib.atoiAll [] := by
 cases x
 ·exact absurd rfl (h1 _)
 ·rfl
 ·exact absurd rfl h2
theorem atoi_ok (s : ByteArray) (hs : s.size ≤ 65536) (B : Nat) (w : World) (hL : LibsAt B w) :
  Calls Tryz.prog 117 #[.string s] w fun e w' => ∃ (v : Int) (er : Value), e = .returned (.tuple #[.int .i64 v, er]) ∧ Below w.heap.size w w' ∧ (er = .nilIface ∧ Lib.atoiAll s.data.toList = .ok v ∧ -9223372036854775808 ≤ v ∧ v ≤ 9223372036854775807 ∨ (∃ t x, er = .iface t (.pointer (some x))) ∧ ∀ v, Lib.atoiAll s.data.toList ≠ .ok v) := by
 by_cases h0 : ∃ v, Lib.atoiAll s.data.toList = .ok v
 ·obtain ⟨v, h⟩ := h0
  refine (Tryz.strconv_Atoi_ok s (by omega) v h w).mono ?_
  rintro e w' ⟨rfl, hw⟩
  refine ⟨v, _, rfl, ?_, .inl ⟨rfl, h, ?_⟩⟩
  ·rcases hw with rfl | ⟨t, rfl⟩
   ·exact Below.refl _ _
   ·exact Lib.bytesWorld_below _ _ _
  ·exact Lib.atoiAll_bounds h
 ·by_cases h : Lib.atoiAll s.data.toList = .range
  ·obtain ⟨tp, p, hv⟩ := hL.rng
   refine (Tryz.strconv_Atoi_range_var s (by omega) h tp p w (hv w (Below.refl _ _))).mono ?_
   rintro e w' ⟨N, rfl, _, _, hb⟩
   exact ⟨_, _, rfl, hb, .inr ⟨⟨_, _, rfl⟩, fun v hv => h0 ⟨v, hv⟩⟩⟩
  ·have h2 : Lib.atoiAll s.data.toList = Lib.atoiAll [] := end_other (fun v hv => h0 ⟨v, hv⟩) h
   obtain ⟨tp, p, hv⟩ := hL.syn
   refine (Tryz.strconv_Atoi_syntax_var s (by omega) h2 tp p w (hv w (Below.refl _ _))).mono ?_
   rintro e w' ⟨N, rfl, _, _, hb⟩
   exact ⟨0, _, rfl, hb, .inr ⟨⟨_, _, rfl⟩, fun v hv => h0 ⟨v, hv⟩⟩⟩
def vlL (k n : Int) (t : ByteArray) (ns ks : Value) : List Value := [.int .i64 k, .int .i64 n, .string t, ns, ks]
abbrev vl0 : List Value := vlL 0 0 ⟨#[]⟩ (.slice none 0 0) (.slice none 0 0)
section
variable {k n k' n' : Int} {t t' : ByteArray} {A1 A2 : Option Addr} {n1 c1 n2 c2 : Nat} {a b a' b' : Value}
theorem vlL_one : ∀ u ∈ vlL k n t (.slice A1 n1 c1) (.slice A2 n2 c2), u.oneCell' = true := by
 intro u hu
 simp only [vlL, List.mem_cons, List.not_mem_nil, or_false] at hu
 rcases hu with rfl | rfl | rfl | rfl | rfl <;> rfl
theorem vlL_len : (vlL k n t a b).length = 5 := rfl
theorem vlL_fit : 0 + (vlL k n t a b).length ≤ (vlL k' n' t' a' b').length := Nat.le_refl 5
theorem vlL_spl : spl (vlL k n t a b) 0 (vlL k' n' t' a' b') = vlL k' n' t' a' b' := spl_all rfl
end
def vlP : List (Nat × Nat) := [(0, 1), (1, 1), (2, 1), (3, 1), (4, 1)]
def numS : List LexS := [([], some 11, [0]), ([0], some 12, [11]), ([1], some 13, [12]), ([2], some 14, [13]), ([], some 15, [0]), ([4], some 16, [15]), ([5], some 17, [16]), ([6], some 18, [17]), ([7], some 19, [18]), ([3, 8], some 20, [14, 19]), ([9], some 21, [20]), ([10], some 22, [0, 21]), ([11, 10], some 23, [22, 21]), ([12, 10], some 24, [23, 21]), ([13, 10], some 25, [24, 21]), ([10], some 26, [0, 21]), ([15, 10], some 27, [26, 21]), ([16, 10], some 28, [27, 21]), ([17, 10], some 29, [28, 21]), ([14, 18, 10], some 30, [25, 29, 21]), ([19, 10], some 31, [30, 21]), ([20, 10], some 32, [31, 21]), ([21, 10, 10], some 33, [32, 21]), ([22], some 34, [0, 33]), ([23, 22], some 35, [34, 33]), ([24, 22], some 36, [35, 33]), ([25, 22], some 37, [36, 33]), ([22], some 38, [0, 33]), ([27, 22], some 39, [38, 33]), ([28, 22], some 40, [39, 33]), ([29, 22], some 41, [40, 33]), ([26, 30, 22], some 42, [37, 41, 33]), ([31, 22], some 43, [42, 33]), ([32, 22], some 44, [43, 33]), ([22, 33, 10], some 45, [33, 44, 21]), ([34, 22, 10], some 46, [45, 21]), ([35], some 47, [0, 46]), ([36, 35], some 48, [47, 46]), ([37, 35], some 49, [48, 46]), ([38, 35], some 50, [49, 46]), ([35], some 51, [0, 46]), ([40, 35], some 52, [51, 46]), ([41, 35], some 53, [52, 46]), ([42, 35], some 54, [53, 46]), ([39, 43, 35], some 55, [50, 54, 46]), ([44, 35], some 56, [55, 46]), ([45, 35], some 57, [56, 46]), ([35, 46, 10], some 58, [46, 57, 21]), ([47, 35, 10], some 59, [58, 21]), ([48], some 60, [0, 59]), ([49, 48], some 61, [60, 59]), ([50, 48], some 62, [61, 59]), ([51, 48], some 63, [62, 59]), ([48], some 64, [0, 59]), ([53, 48], some 65, [64, 59]), ([54, 48], some 66, [65, 59]), ([55, 48], some 67, [66, 59]), ([52, 56, 48], some 68, [63, 67, 59]), ([57, 48], some 69, [68, 59]), ([58, 48], some 70, [69, 59]), ([48, 59, 10], some 71, [59, 70, 21]), ([60, 48, 10], some 72, [71, 21]), ([61], some 73, [0, 72]), ([62, 61], some 74, [73, 72]), ([63, 61], some 75, [74, 72]), ([64, 61], some 76, [75, 72]), ([61], some 77, [0, 72]), ([66, 61], some 78, [77, 72]), ([67, 61], some 79, [78, 72]), ([68, 61], some 80, [79, 72]), ([65, 69, 61], some 81, [76, 80, 72]), ([70, 61], some 82, [81, 72]), ([71, 61], some 83, [82, 72]), ([61, 72, 10], some 84, [72, 83, 21]), ([73, 61, 10], some 85, [84, 21]), ([74], some 86, [0, 85]), ([75, 74], some 87, [86, 85]), ([76, 74], some 88, [87, 85]), ([77, 74], some 89, [88, 85]), ([74], some 90, [0, 85]), ([79, 74], some 91, [90, 85]), ([80, 74], some 92, [91, 85]), ([81, 74], some 93, [92, 85]), ([78, 82, 74], some 94, [89, 93, 85]), ([83, 74], some 95, [94, 85]), ([84, 74], some 96, [95, 85]), ([74, 85, 10], some 97, [85, 96, 21]), ([86, 74, 10], some 98, [97, 21]), ([87], some 99, [0, 98]), ([88, 87], some 100, [99, 98]), ([89, 87], some 101, [100, 98]), ([90, 87], some 102, [101, 98]), ([87], some 103, [0, 98]), ([92, 87], some 104, [103, 98]), ([93, 87], some 105, [104, 98]), ([94, 87], some 106, [105, 98]), ([91, 95, 87], some 107, [102, 106, 98]), ([96, 87], some 108, [107, 98]), ([97, 87], some 109, [108, 98]), ([87, 98, 10], some 110, [98, 109, 21]), ([10, 99], some 111, [21, 110])]
set_option maxRecDepth 20000 in
theorem numS_ok : lexChk 0 numS = true := by kernel_rfl
def ToldN (w : World) (g : Nat) (A : Option Addr) (n c m : Nat) (x : Int × Nat) (e : Ending) (w' : World) : Prop :=
 e = .returned (.agg (vlL 3 x.1 ⟨#[]⟩ (.slice none 0 0) (.slice none 0 0)).toArray) ∧ Fr [g] w w' [.blk g 127 (rdrL A n c x.2 m)]
set_option maxRecDepth 20000 in
set_option maxHeartbeats 6400000 in
theorem number_any (g : Nat) (A : Option Addr) (n c p m B : Nat) (b : List UInt8) (w : World) (hL : LibsAt B w) (hh : w.heap[g]? = some (.cells (rdrL A n c p m).toArray 127 (0, 0))) (hg : B ≤ g) (hB : B ≤ w.heap.size) (hn : n ≤ 65536) (hnc : n ≤ c) (hp : p ≤ n) (hr : Rd w (· < B) A 1 n (b.map bv)) :
  Calls Tryz.prog 87 #[.pointer (some ⟨g, 0, none⟩)] w (JEndP w g (jNumber b p) (ToldN w g A n c m)) := by
 have hl := box hr.bytes_len
 have hF0 := Fr.one hh
 clear hh
 go_enter Tryz.func87, Tryz.ntmps87
 go_wp2_with (first | ((with_reducible refine lsx (wp_falloc hF0 (cs := vl0) (z := .agg (List.toArray (vl0))) rfl (by kernel_rfl) (by with_unfolding_all rfl) ?_)); intro w1 g1 hF1 hz1) | (with_reducible refine lsx (wp_fld1 hF1 uq3 rfl (by with_unfolding_all exact ⟨_, rfl, rfl⟩) rfl ?_)))
 go_loopg [] (n - p) (fun k wr => ∃ p' : Nat, p ≤ p' ∧ p' ≤ n ∧ Box (k = n - p') ∧ Box (jNumEnd b p = jNumEnd b p') ∧ Fr [g] w wr [.blk g1 76 vl0, .blk g 127 (rdrL A n c p' m)])
 case atStart => exact ⟨p, Nat.le_refl _, hp, box rfl, box rfl, hF1⟩
 case round =>
  obtain ⟨p', hpp, hp', hk, hj, hF⟩ := hrel
  clear hF0 hF1
  have h0 := rdr_b (hF.blk (i := 1) rfl)
  have h1 := rdr_p (hF.blk (i := 1) rfl)
  obtain ⟨bt, hbt⟩ : ∃ bt : Bool, bt = (decide (p' < n) && ((b[p']?).map jNumC).getD false) := ⟨_, rfl⟩
  have hgo : Box (bt = true → p' < n ∧ jNumEnd b p = jNumEnd b (p' + 1)) := box (fun h => by
   rw [h] at hbt
   have h2 := hbt.symm
   simp only [Bool.and_eq_true, decide_eq_true_eq] at h2
   cases hx : b[p']? with
   | none => rw [hx] at h2; simp at h2
   | some x => rw [hx] at h2; exact ⟨h2.1, hj.out.trans (jNumEnd_go hx h2.2)⟩)
  have hend : Box (bt = false → jNumEnd b p = p') := box (fun h => by
   rw [h] at hbt
   refine hj.out.trans ?_
   cases hx : b[p']? with
   | none => exact jNumEnd_end (List.getElem?_eq_none_iff.1 hx)
   | some x =>
    have := (List.getElem?_eq_some_iff.1 hx).1
    rw [hl.out] at this
    rw [hx] at hbt
    have h2 := hbt.symm
    simp only [this, decide_true, Bool.true_and, Option.map_some, Option.getD_some] at h2
    exact jNumEnd_stop hx h2)
  replace hbt := box hbt
  go_upto_region 2 with (fail)
  go_cut [111] (fun s111 wx => s111 = .bool bt ∧ Fr [g] w wx [.blk g1 76 vl0, .blk g 127 (rdrL A n c p' m)])
  case first =>
   (refine wp_region_quiet_lit (by kernel_rfl) (lex_of numS (by kernel_rfl) (by kernel_rfl) numS_ok) ?_; (try dsimp only [List.append]))
   by_cases hlt : p' < n
   ·obtain ⟨ad, x, hA, hx, hcx⟩ := (hF.rdB hg hB hr).atB hlt
    have hxb := x.toNat_lt
    have hbt2 : bt = jNumC x := by rw [hbt.out, hx]; simp [hlt]
    clear hr hx hbt hgo hend
    subst hA
    by_cases hx0 : x = 45
    ·have hb : bt = true := by rw [hbt2, hx0]; decide
     have hcy : wr.cell? (ad.add p') = some (.int .u8 45) := by rw [hcx, hx0]; rfl
     clear hcx hxb hbt2 hx0
     ((repeat (go_big_quiet_step (fail))); refine wpQuiet_nil ?_; intro _ hw'; obtain ⟨nq, hw''⟩ := hw'; subst hw'')
     have hFd := hF.drewN nq
     go_wp2_with fail
     go_meet
     exact ⟨by rw [hb], hFd⟩
    ·by_cases hx1 : x = 43
     ·have hb : bt = true := by rw [hbt2, hx1]; decide
      have hcy : wr.cell? (ad.add p') = some (.int .u8 43) := by rw [hcx, hx1]; rfl
      clear hcx hxb hbt2 hx0 hx1
      ((repeat (go_big_quiet_step (fail))); refine wpQuiet_nil ?_; intro _ hw'; obtain ⟨nq, hw''⟩ := hw'; subst hw'')
      have hFd := hF.drewN nq
      go_wp2_with fail
      go_meet
      exact ⟨by rw [hb], hFd⟩
     ·by_cases hx2 : x = 46
      ·have hb : bt = true := by rw [hbt2, hx2]; decide
       have hcy : wr.cell? (ad.add p') = some (.int .u8 46) := by rw [hcx, hx2]; rfl
       clear hcx hxb hbt2 hx0 hx1 hx2
       ((repeat (go_big_quiet_step (fail))); refine wpQuiet_nil ?_; intro _ hw'; obtain ⟨nq, hw''⟩ := hw'; subst hw'')
       have hFd := hF.drewN nq
       go_wp2_with fail
       go_meet
       exact ⟨by rw [hb], hFd⟩
      ·by_cases hx3 : x = 101
       ·have hb : bt = true := by rw [hbt2, hx3]; decide
        have hcy : wr.cell? (ad.add p') = some (.int .u8 101) := by rw [hcx, hx3]; rfl
        clear hcx hxb hbt2 hx0 hx1 hx2 hx3
        ((repeat (go_big_quiet_step (fail))); refine wpQuiet_nil ?_; intro _ hw'; obtain ⟨nq, hw''⟩ := hw'; subst hw'')
        have hFd := hF.drewN nq
        go_wp2_with fail
        go_meet
        exact ⟨by rw [hb], hFd⟩
       ·by_cases hx4 : x = 69
        ·have hb : bt = true := by rw [hbt2, hx4]; decide
         have hcy : wr.cell? (ad.add p') = some (.int .u8 69) := by rw [hcx, hx4]; rfl
         clear hcx hxb hbt2 hx0 hx1 hx2 hx3 hx4
         ((repeat (go_big_quiet_step (fail))); refine wpQuiet_nil ?_; intro _ hw'; obtain ⟨nq, hw''⟩ := hw'; subst hw'')
         have hFd := hF.drewN nq
         go_wp2_with fail
         go_meet
         exact ⟨by rw [hb], hFd⟩
        ·have n0 : ((x.toNat : Int) == 45) = false := u8_ne hx0
         have n1 : ((x.toNat : Int) == 43) = false := u8_ne hx1
         have n2 : ((x.toNat : Int) == 46) = false := u8_ne hx2
         have n3 : ((x.toNat : Int) == 101) = false := u8_ne hx3
         have n4 : ((x.toNat : Int) == 69) = false := u8_ne hx4
         by_cases h48 : 48 ≤ x.toNat
         ·have d1 : decide ((48 : Int) ≤ (x.toNat : Int)) = true := decide_eq_true (by omega)
          by_cases h57 : x.toNat ≤ 57
          ·have d2 : decide ((x.toNat : Int) ≤ 57) = true := decide_eq_true (by omega)
           have hb : bt = true := by rw [hbt2]; simp [jNumC, jDig, h48, h57]
           clear hbt2 h48 h57 hx0 hx1 hx2 hx3 hx4
           ((repeat (go_big_quiet_step (fail))); refine wpQuiet_nil ?_; intro _ hw'; obtain ⟨nq, hw''⟩ := hw'; subst hw'')
           have hFd := hF.drewN nq
           go_wp2_with fail
           go_meet
           exact ⟨by rw [hb], hFd⟩
          ·have d2 : decide ((x.toNat : Int) ≤ 57) = false := decide_eq_false (by omega)
           have hb : bt = false := by rw [hbt2]; simp [jNumC, jDig, h57, hx0, hx1, hx2, hx3, hx4]
           clear hbt2 h48 h57 hx0 hx1 hx2 hx3 hx4
           ((repeat (go_big_quiet_step (fail))); refine wpQuiet_nil ?_; intro _ hw'; obtain ⟨nq, hw''⟩ := hw'; subst hw'')
           have hFd := hF.drewN nq
           go_wp2_with fail
           go_meet
           exact ⟨by rw [hb], hFd⟩
         ·have d1 : decide ((48 : Int) ≤ (x.toNat : Int)) = false := decide_eq_false (by omega)
          have hb : bt = false := by rw [hbt2]; simp [jNumC, jDig, h48, hx0, hx1, hx2, hx3, hx4]
          clear hbt2 h48 hx0 hx1 hx2 hx3 hx4
          ((repeat (go_big_quiet_step (fail))); refine wpQuiet_nil ?_; intro _ hw'; obtain ⟨nq, hw''⟩ := hw'; subst hw'')
          have hFd := hF.drewN nq
          go_wp2_with fail
          go_meet
          exact ⟨by rw [hb], hFd⟩
   ·have hb : bt = false := by rw [hbt.out]; simp [hlt]
    clear hbt hgo hend
    ((repeat (go_big_quiet_step (fail))); refine wpQuiet_nil ?_; intro _ hw'; obtain ⟨nq, hw''⟩ := hw'; subst hw'')
    have hFd := hF.drewN nq
    go_wp2_with fail
    go_meet
    exact ⟨by rw [hb], hFd⟩
  case rest =>
   obtain ⟨rfl, hF2⟩ := hcut
   clear hF h0 h1 hbt
   cases bt with
   | true =>
    obtain ⟨hlt, hgo2⟩ := hgo.out rfl
    replace hgo2 := box hgo2
    go_wp2_with (first | (with_reducible refine lsx (wp_fld1 hF2 uq3 rfl (by with_unfolding_all exact ⟨_, rfl, rfl⟩) rfl ?_)) | ((with_reducible refine lsx (wp_fst1 hF2 (by with_unfolding_all exact ⟨_, _, rfl, rfl, rfl⟩) (by kernel_rfl) rfl rfl (by rw [rdrL_len]; decide) (rdrL_at (q := p' + 1) (by omega)) ?_)); intro w3 hF3 hz3))
    go_roundg (n - (p' + 1))
    case rel => exact ⟨p' + 1, by omega, by omega, box rfl, hgo2, hF3⟩
    case measure => have := hk.out; omega
   | false =>
    have hE := box (hend.out rfl)
    clear hgo hend hk hj
    obtain ⟨sg, hsg⟩ : ∃ sg, sg = (b.take p').drop p := ⟨_, rfl⟩
    have hsl : sg.length = p' - p := by rw [hsg, List.length_drop, List.length_take, hl.out]; omega
    have hbs : Box ((b.drop p).takeWhile jNumC = sg) := box (by rw [jNum_sign, hE.out, hsg, List.drop_take])
    replace hsg := box hsg
    have hrc := box (fun w' (h : Rd w' (· < B) A 1 n (b.map bv)) => by
     have h2 := cut_rd (m := c) h hpp hp' (show p' ≤ c by omega)
     rw [← hsg.out] at h2
     exact h2)
    go_upto_region 4 with (fail)
    have hFd := hF2.drew
    refine wp_region_held (S := fun w' => w'.heap[g]? = some (.cells (List.toArray (rdrL A n c p' m)) 127 (0, 0)) ∧ Rd w' (· < B) A 1 n (b.map bv)) (by kernel_rfl) ?_
    change wpAnyH _ _ _ _ _ _ _ _ (World.drew _)
    refine tkp 0 ⟨hFd.blk (i := 1) rfl, hFd.rdB hg hB hr⟩ ?_
    (try simp only [zP, zQ, zS, zZ, zN])
    refine tkp 1 ⟨hFd.blk (i := 1) rfl, hFd.rdB hg hB hr⟩ ?_
    (try simp only [zP, zQ, zS, zZ, zN])
    refine tkp 2 ⟨hFd.blk (i := 1) rfl, hFd.rdB hg hB hr⟩ ?_
    (try simp only [zP, zQ, zS, zZ, zN])
    refine tky 3 (y := yi_fld (by with_unfolding_all rfl) (fun _ h => h.1) uq22 rfl (by with_unfolding_all exact ⟨_, rfl, rfl⟩) rfl) (s := ⟨hFd.blk (i := 1) rfl, hFd.rdB hg hB hr⟩) (h := ?_)
    (try simp only [zP, zQ, zS, zZ, zN])
    refine tkp 4 ⟨hFd.blk (i := 1) rfl, hFd.rdB hg hB hr⟩ ?_
    (try simp only [zP, zQ, zS, zZ, zN])
    refine tkp 5 ⟨hFd.blk (i := 1) rfl, hFd.rdB hg hB hr⟩ ?_
    (try simp only [zP, zQ, zS, zZ, zN])
    refine tkp 6 ⟨hFd.blk (i := 1) rfl, hFd.rdB hg hB hr⟩ ?_
    (try simp only [zP, zQ, zS, zZ, zN])
    refine tkp 7 ⟨hFd.blk (i := 1) rfl, hFd.rdB hg hB hr⟩ ?_
    (try simp only [zP, zQ, zS, zZ, zN])
    refine tky 8 (y := yi_fld (by with_unfolding_all rfl) (fun _ h => h.1) uq3 rfl (by with_unfolding_all exact ⟨_, rfl, rfl⟩) rfl) (s := ⟨hFd.blk (i := 1) rfl, hFd.rdB hg hB hr⟩) (h := ?_)
    (try simp only [zP, zQ, zS, zZ, zN])
    refine tky 9 (y := yi_cut (by with_unfolding_all rfl) T_u8 (lo := some (p : Int)) (hi := some (p' : Int)) (mx := none) (l := p) (h := p') (m := c) (by with_unfolding_all exact ⟨_, _, _, _, .i64, .i64, .i64, rfl, rfl, rfl, rfl, rfl⟩) (by simp; done) (by simp; done) (by simp; done) (by simp) (by omega) (by omega) (by omega) (by omega)) (s := ⟨hFd.blk (i := 1) rfl, hFd.rdB hg hB hr⟩) (h := ?_)
    (try simp only [zP, zQ, zS, zZ, zN])
    refine tky 10 (y := yi_b2s (by with_unfolding_all rfl) T_u8 uq5 uq9 (fun w' h => hrc.out w' ((fun _ h => h.2) w' h)) (by with_unfolding_all exact ⟨_, rfl, rfl⟩)) (s := ⟨hFd.blk (i := 1) rfl, hFd.rdB hg hB hr⟩) (h := ?_)
    (try simp only [zP, zQ, zS, zZ, zN])
    refine tkp 11 ⟨hFd.blk (i := 1) rfl, hFd.rdB hg hB hr⟩ ?_
    (try simp only [zP, zQ, zS, zZ, zN])
    refine wpAnyH_done (by kernel_rfl) ?_ _
    generalize hw3 : wc.drew = w3 at hFd
    clear hw3 hF2
    have hat := box (atoi_ok ⟨sg.toArray⟩ (by rw [str_mk_size]; omega) B w3 (hL.on (hFd.belowG hg hB)))
    have hfl := box (fun v w => fail_any v p 63 w)
    have hjn : Box (jNumber b p = match jNum sg with
      | none => .error (p, 63)
      | some x => .ok (x, p')) := box (by
     unfold jNumber
     simp only [hbs.out]
     cases jNum sg with
     | none => rfl
     | some x => show Except.ok (x, p + sg.length) = _; rw [show p + sg.length = p' by omega])
    go_wp2_with fail
    refine (hat.out).mono ?_
    rintro e w4 ⟨v, er, rfl, hb4, hcase⟩
    have hF4 := hFd.call hb4
    rcases hcase with ⟨rfl, hav, hv0, hv1⟩ | ⟨⟨t, x, rfl⟩, hno⟩
    ·have hit := box (Tryz.strconv_Itoa v hv0 hv1 w4 ((hL.on (hF4.belowG hg hB)).pow.here))
     go_wp2_with fail
     refine (hit.out).mono ?_
     rintro e w5 ⟨rfl, hg5⟩
     have hF5 := hF4.call (itoa_below hg5)
     by_cases hi : Lib.itoa v = sg
     ·by_cases hgt : (9007199254740991 : Int) < v
      ·have d1 : decide ((9007199254740991 : Int) < v) = true := decide_eq_true hgt
       replace hv0 := box hv0
       replace hv1 := box hv1
       have hnone : jNum sg = none := by
        cases hj : jNum sg with
        | none => rfl
        | some v' =>
         obtain ⟨k1, k2, k3, k4⟩ := jNum_lib hj
         have hvv := hav.symm.trans k2
         injection hvv with hvv
         subst hvv
         exact absurd hgt (by omega)
       have hend : Box (jNumber b p = .error (p, 63)) := box (by rw [hjn.out, hnone])
       clear hnone
       replace hav := box hav
       clear hjn
       go_wp2_with fail
       refine (hfl.out _ _).mono ?_
       rintro e w6 ⟨rfl, rfl⟩
       dsimp only [flt]
       go_wp2
       exact ⟨rfl, by unfold JEndP; rw [hend.out]; exact ⟨rfl, hF5.grown⟩⟩
      ·replace hv0 := box hv0
       replace hv1 := box hv1
       replace hi := box hi
       have hi2 := hi.out
       by_cases hlo : v < -9007199254740991
       ·have d1 : decide ((9007199254740991 : Int) < v) = false := decide_eq_false hgt
        have d2 : decide (v < (-9007199254740991 : Int)) = true := decide_eq_true hlo
        have hnone : jNum sg = none := by
         cases hj : jNum sg with
         | none => rfl
         | some v' =>
          obtain ⟨k1, k2, k3, k4⟩ := jNum_lib hj
          have hvv := hav.symm.trans k2
          injection hvv with hvv
          subst hvv
          exact absurd hlo (by omega)
        have hend : Box (jNumber b p = .error (p, 63)) := box (by rw [hjn.out, hnone])
        clear hnone
        replace hav := box hav
        clear hjn
        go_wp2_with fail
        refine (hfl.out _ _).mono ?_
        rintro e w6 ⟨rfl, rfl⟩
        dsimp only [flt]
        go_wp2
        exact ⟨rfl, by unfold JEndP; rw [hend.out]; exact ⟨rfl, hF5.grown⟩⟩
       ·have d1 : decide ((9007199254740991 : Int) < v) = false := decide_eq_false hgt
        have d2 : decide (v < (-9007199254740991 : Int)) = false := decide_eq_false hlo
        have hsome : jNum sg = some v := by rw [← hi.out]; exact jNum_itoa (by omega) (by omega)
        have hend : Box (jNumber b p = .ok (v, p')) := box (by rw [hjn.out, hsome])
        clear hsome hgt hlo hjn
        replace hav := box hav
        go_wp2_with (first | (with_reducible refine lsx (wp_fbuild uq76 (z := .agg (List.toArray vl0)) (by kernel_rfl) (pl := vlP) (by kernel_rfl) (cs := (vlL 3 v ⟨#[]⟩ (.slice none 0 0) (.slice none 0 0))) rfl (vs := [(0, .int .i64 3), (1, .int .i64 v)]) (by with_unfolding_all rfl) (by with_unfolding_all rfl) ?_)) | ((with_reducible refine lsx (wp_fstA0 hF5 (by with_unfolding_all exact ⟨_, _, rfl, rfl, rfl⟩) (by rw [vlL_len]; kernel_rfl) vlL_one vlL_fit vlL_spl ?_)); intro w6 hF6 hz6))
        exact bodyPost_ret (results_cellF rfl _ hF6 (i := 0) rfl rfl uq76 rfl (by rw [vlL_len]; kernel_rfl)) rfl (by
         unfold JEndP
         rw [hend.out]
         exact ⟨rfl, hF6.tail⟩)
     ·replace hv0 := box hv0
      replace hv1 := box hv1
      have hnone : jNum sg = none := by
       cases hj : jNum sg with
       | none => rfl
       | some v' =>
        obtain ⟨k1, k2, k3, k4⟩ := jNum_lib hj
        have hvv := hav.symm.trans k2
        injection hvv with hvv
        subst hvv
        exact absurd k1 hi
      have hend : Box (jNumber b p = .error (p, 63)) := box (by rw [hjn.out, hnone])
      clear hnone
      replace hav := box hav
      clear hjn
      go_wp2_with fail
      refine (hfl.out _ _).mono ?_
      rintro e w6 ⟨rfl, rfl⟩
      dsimp only [flt]
      go_wp2
      exact ⟨rfl, by unfold JEndP; rw [hend.out]; exact ⟨rfl, hF5.grown⟩⟩
    ·have hnone : jNum sg = none := by
      cases hj : jNum sg with
      | none => rfl
      | some v' => exact absurd (jNum_lib hj).2.1 (hno v')
     have hend : Box (jNumber b p = .error (p, 63)) := box (by rw [hjn.out, hnone])
     clear hnone hno
     go_wp2_with fail
     refine (hfl.out _ _).mono ?_
     rintro e w5 ⟨rfl, rfl⟩
     dsimp only [flt]
     go_wp2
     exact ⟨rfl, by unfold JEndP; rw [hend.out]; exact ⟨rfl, hF4.grown⟩⟩
end Go.Proofs.YtlhicfpmlncomaaGreatDoor

namespace Go.Proofs.YtlhicfpmlncomaaGreatDoor
open Go.RowKit
def strv (s : List UInt8) : Value := .string ⟨s.toArray⟩
mutual
def VT : JV → List Value → List Ent → Prop
 | .mk k n t ns ks, cs, es => ∃ (An : Option Addr) (nn cn : Nat) (Ak : Option Addr) (nk ck : Nat) (xs : List Value) (TE : List Ent), nn ≤ cn ∧ nk ≤ ck ∧
   cs = vlL k n ⟨t.toArray⟩ (.slice An nn cn) (.slice Ak nk ck) ∧ es = .rd An 1 nn (ns.map strv) :: .rd Ak 5 nk xs :: TE ∧ VTL ks xs TE
def VTL : List JV → List Value → List Ent → Prop
 | [], xs, TE => xs = [] ∧ TE = []
 | v :: vs, xs, TE => ∃ (cs ys : List Value) (E1 E2 : List Ent), xs = cs ++ ys ∧ TE = E1 ++ E2 ∧ VT v cs E1 ∧ VTL vs ys E2
end
mutual
def VRd (w : World) (S : Nat → Prop) : JV → List Value → Prop
 | .mk k n t ns ks, cs => ∃ (An : Option Addr) (nn cn : Nat) (Ak : Option Addr) (nk ck : Nat) (xs : List Value), nn ≤ cn ∧ nk ≤ ck ∧
   cs = vlL k n ⟨t.toArray⟩ (.slice An nn cn) (.slice Ak nk ck) ∧ Rd w S An 1 nn (ns.map strv) ∧ Rd w S Ak 5 nk xs ∧ VRdL w S ks xs
def VRdL (w : World) (S : Nat → Prop) : List JV → List Value → Prop
 | [], xs => xs = []
 | v :: vs, xs => ∃ (cs ys : List Value), xs = cs ++ ys ∧ VRd w S v cs ∧ VRdL w S vs ys
end
theorem VT.mk_ {k n : Int} {t : List UInt8} {ns : List (List UInt8)} {ks : List JV} {An Ak : Option Addr} {nn cn nk ck : Nat} {xs : List Value} {TE : List Ent} (h1 : nn ≤ cn) (h2 : nk ≤ ck) (h : VTL ks xs TE) :
  VT (.mk k n t ns ks) (vlL k n ⟨t.toArray⟩ (.slice An nn cn) (.slice Ak nk ck)) (.rd An 1 nn (ns.map strv) :: .rd Ak 5 nk xs :: TE) := by
 unfold VT
 exact ⟨_, _, _, _, _, _, _, _, h1, h2, rfl, rfl, h⟩
theorem VT.leaf {k n : Int} {t : List UInt8} : VT (.mk k n t [] []) (vlL k n ⟨t.toArray⟩ (.slice none 0 0) (.slice none 0 0)) [.rd none 1 0 [], .rd none 5 0 []] :=
 VT.mk_ (Nat.le_refl _) (Nat.le_refl _) (by unfold VTL; exact ⟨rfl, rfl⟩)
theorem VT.len {v : JV} {cs : List Value} {es : List Ent} (h : VT v cs es) : cs.length = 5 := by
 cases v
 unfold VT at h
 obtain ⟨_, _, _, _, _, _, _, _, _, _, rfl, _⟩ := h
 rfl
theorem VT.one {v : JV} {cs : List Value} {es : List Ent} (h : VT v cs es) : ∀ u ∈ cs, u.oneCell' = true := by
 cases v
 unfold VT at h
 obtain ⟨_, _, _, _, _, _, _, _, _, _, rfl, _⟩ := h
 exact vlL_one
theorem VTL.snoc : ∀ {ks : List JV} {v : JV} {xs cs : List Value} {TE es : List Ent}, VTL ks xs TE → VT v cs es → VTL (ks ++ [v]) (xs ++ cs) (TE ++ es)
 | [], v, xs, cs, TE, es, h, hv => by
  unfold VTL at h
  obtain ⟨rfl, rfl⟩ := h
  rw [List.nil_append, List.nil_append, List.nil_append, VTL]
  exact ⟨cs, [], es, [], by simp, by simp, hv, by unfold VTL; exact ⟨rfl, rfl⟩⟩
 | k :: ks, v, xs, cs, TE, es, h, hv => by
  rw [VTL] at h
  obtain ⟨c1, ys, E1, E2, rfl, rfl, h1, h2⟩ := h
  rw [List.cons_append, VTL]
  exact ⟨c1, ys ++ cs, E1, E2 ++ es, by simp, by simp, h1, VTL.snoc h2 hv⟩
theorem VTL.nil : VTL [] [] [] := by unfold VTL; exact ⟨rfl, rfl⟩
theorem VTL.len : ∀ {ks : List JV} {xs : List Value} {TE : List Ent}, VTL ks xs TE → xs.length = ks.length * 5
 | [], xs, TE, h => by unfold VTL at h; rw [h.1]; rfl
 | k :: ks, xs, TE, h => by
  rw [VTL] at h
  obtain ⟨c1, ys, E1, E2, rfl, rfl, h1, h2⟩ := h
  rw [List.length_append, h1.len, VTL.len h2, List.length_cons]
  omega
theorem VTL.one : ∀ {ks : List JV} {xs : List Value} {TE : List Ent}, VTL ks xs TE → ∀ u ∈ xs, u.oneCell' = true
 | [], xs, TE, h, u, hu => by unfold VTL at h; rw [h.1] at hu; cases hu
 | k :: ks, xs, TE, h, u, hu => by
  rw [VTL] at h
  obtain ⟨c1, ys, E1, E2, rfl, rfl, h1, h2⟩ := h
  rcases List.mem_append.1 hu with hu | hu
  ·exact h1.one u hu
  ·exact VTL.one h2 u hu
theorem rd_of_ent {w : World} {S : Nat → Prop} {A : Option Addr} {size n : Nat} {xs : List Value} (h : (Ent.rd A size n xs).holds w) (hS : ∀ b, (Ent.rd A size n xs).block = some b → S b) : Rd w S A size n xs :=
 ⟨h.1.len, h.1.some_, fun hn => by
  have hA := h.1.some_ hn
  refine hS _ ?_
  show A.map (·.block) = _
  rw [hA]; rfl, h.1.cell⟩
mutual
theorem VT.rd {w : World} {S : Nat → Prop} : ∀ (v : JV) {cs : List Value} {es : List Ent}, VT v cs es → (∀ e ∈ es, e.holds w ∧ ∀ b, e.block = some b → S b) → VRd w S v cs
 | .mk k n t ns ks, cs, es, h, hh => by
  rw [VT] at h
  obtain ⟨An, nn, cn, Ak, nk, ck, xs, TE, h1, h2, rfl, rfl, h3⟩ := h
  rw [VRd]
  exact ⟨An, nn, cn, Ak, nk, ck, xs, h1, h2, rfl, rd_of_ent (hh _ (by simp)).1 (hh _ (by simp)).2, rd_of_ent (hh (.rd Ak 5 nk xs) (by simp)).1 (hh (.rd Ak 5 nk xs) (by simp)).2, VTL.rd ks h3 fun e he => hh e (by simp [he])⟩
theorem VTL.rd {w : World} {S : Nat → Prop} : ∀ (vs : List JV) {xs : List Value} {TE : List Ent}, VTL vs xs TE → (∀ e ∈ TE, e.holds w ∧ ∀ b, e.block = some b → S b) → VRdL w S vs xs
 | [], xs, TE, h, _ => by rw [VTL] at h; rw [VRdL]; exact h.1
 | v :: vs, xs, TE, h, hh => by
  rw [VTL] at h
  obtain ⟨cs, ys, E1, E2, rfl, rfl, h1, h2⟩ := h
  rw [VRdL]
  exact ⟨cs, ys, rfl, VT.rd v h1 fun e he => hh e (by simp [he]), VTL.rd vs h2 fun e he => hh e (by simp [he])⟩
end
mutual
theorem VRd.keep {w w' : World} {S S' : Nat → Prop} (hS : ∀ k, S k → S' k) (hk : ∀ k, S k → w'.heap[k]? = w.heap[k]?) : ∀ (v : JV) {cs : List Value}, VRd w S v cs → VRd w' S' v cs
 | .mk k n t ns ks, cs, h => by
  rw [VRd] at h ⊢
  obtain ⟨An, nn, cn, Ak, nk, ck, xs, h1, h2, rfl, h3, h4, h5⟩ := h
  exact ⟨An, nn, cn, Ak, nk, ck, xs, h1, h2, rfl, (h3.same hk).mono hS, (h4.same hk).mono hS, VRdL.keep hS hk ks h5⟩
theorem VRdL.keep {w w' : World} {S S' : Nat → Prop} (hS : ∀ k, S k → S' k) (hk : ∀ k, S k → w'.heap[k]? = w.heap[k]?) : ∀ (vs : List JV) {xs : List Value}, VRdL w S vs xs → VRdL w' S' vs xs
 | [], xs, h => by rw [VRdL] at h ⊢; exact h
 | v :: vs, xs, h => by
  rw [VRdL] at h ⊢
  obtain ⟨cs, ys, rfl, h1, h2⟩ := h
  exact ⟨cs, ys, rfl, VRd.keep hS hk v h1, VRdL.keep hS hk vs h2⟩
end
section
variable {X : List Nat} {w0 w w' : World} {es es' : List Ent}
theorem apart_pairs {l : List Ent} : (∀ (i j : Nat) (e f : Ent), l[i]? = some e → l[j]? = some f → i ≠ j → e.apart f) ↔ l.Pairwise Ent.apart := by
 constructor
 ·intro h
  rw [List.pairwise_iff_getElem]
  intro i j hi hj hij
  exact h i j _ _ (List.getElem?_eq_getElem hi) (List.getElem?_eq_getElem hj) (by omega)
 ·intro h i j e f he hf hij
  rw [List.pairwise_iff_getElem] at h
  obtain ⟨hi, rfl⟩ := List.getElem?_eq_some_iff.1 he
  obtain ⟨hj, rfl⟩ := List.getElem?_eq_some_iff.1 hf
  rcases Nat.lt_or_gt_of_ne hij with h1 | h1
  ·exact h i j hi hj h1
  ·exact (h j i hj hi h1).symm
theorem Fr.perm (h : Fr X w0 w es) (hp : es.Perm es') : Fr X w0 w es' :=
 ⟨h.os, h.tape, h.output, h.size, h.block, fun i e he => by
  obtain ⟨j, hj⟩ := List.mem_iff_getElem?.1 (hp.mem_iff.2 (List.mem_of_getElem? he))
  exact h.holds j e hj, fun i e he => by
  obtain ⟨j, hj⟩ := List.mem_iff_getElem?.1 (hp.mem_iff.2 (List.mem_of_getElem? he))
  exact h.fresh j e hj, apart_pairs.2 ((hp.pairwise_iff (fun h => h.symm)).1 (apart_pairs.1 h.apart))⟩
theorem Fr.sub (h : Fr X w0 w es) (hs : es'.Sublist es) : Fr X w0 w es' :=
 ⟨h.os, h.tape, h.output, h.size, h.block, fun i e he => by
  obtain ⟨j, hj⟩ := List.mem_iff_getElem?.1 (hs.subset (List.mem_of_getElem? he))
  exact h.holds j e hj, fun i e he => by
  obtain ⟨j, hj⟩ := List.mem_iff_getElem?.1 (hs.subset (List.mem_of_getElem? he))
  exact h.fresh j e hj, apart_pairs.2 ((apart_pairs.1 h.apart).sublist hs)⟩
theorem Fr.putG {g : Nat} {t : TypeId} {cs cs' : List Value} (hF : Fr X w0 w es) {i : Nat} (hi : es[i]? = some (.blk g t cs)) (h : Fr [g] w w' (.blk g t cs' :: es')) : Fr X w0 w' (es.set i (.blk g t cs') ++ es') := by
 have hil : i < es.length := (List.getElem?_eq_some_iff.1 hi).1
 have key : ∀ (L : List Ent), Fr [g] w w' (.blk g t cs' :: L) → Fr X w0 w' (L ++ es.set i (.blk g t cs')) := by
  intro L
  induction L with
  | nil => intro h; exact hF.putF hi h
  | cons e L ih =>
   intro h
   refine (ih h.drop1).push (h.holds 1 e rfl) fun b hb => ?_
   have hwb : w.heap.size ≤ b := by
    rcases h.fresh 1 e rfl b hb with h1 | h1
    ·exact h1
    ·have hbg : b = g := by simpa using h1
     subst hbg
     rcases h.apart 0 1 _ _ rfl rfl (by omega) with h2 | h2
     ·cases h2
     ·exact absurd hb.symm h2
   refine ⟨.inl (Nat.le_trans hF.size hwb), fun j f hj he => ?_⟩
   rw [List.getElem?_append] at hj
   split at hj
   ·rcases h.apart 1 (j + 2) e f rfl hj (by omega) with h2 | h2
    ·rw [h2] at hb; cases hb
    ·exact h2 (hb.trans he.symm)
   ·rcases set_mem (List.mem_of_getElem? hj) with rfl | hm
    ·injection he with he
     have := hF.lt hi
     omega
    ·obtain ⟨q, hq⟩ := List.mem_iff_getElem?.1 hm
     have := Ent.lt (hF.holds q f hq) he
     omega
 exact (key es' h).perm List.perm_append_comm
theorem grown_refl (w : World) (r : Option Nat) : w.grownBy w r := ⟨rfl, rfl, rfl, Nat.le_refl _, fun _ _ _ => rfl⟩
theorem Fr.toRd (hF : Fr X w0 w es) {i b : Nat} {e : TypeId} {size n m c : Nat} {A : Option Addr} {xs : List Value} (hi : es[i]? = some (.own b e size (.slice A n c) m xs)) : Fr X w0 w (es.set i (.rd A size n xs)) := by
 have hbl : (Ent.rd A size n xs).block = (Ent.own b e size (.slice A n c) m xs).block := by
  cases A <;> rfl
 refine hF.put hi (grown_refl w _) ⟨hF.rdOwn hi, fun a ha => ?_⟩ (.inl hbl)
 refine Ent.lt (hF.holds i _ hi) (b := a.block) ?_
 rw [← hbl, ha]; rfl
theorem Fr.pushNone (hF : Fr X w0 w es) (size : Nat) : Fr X w0 w (.rd none size 0 [] :: es) :=
 hF.push ⟨⟨by simp, fun h => absurd h (by omega), fun h => absurd h (by omega), fun j u hu => by simp at hu⟩, fun a ha => by cases ha⟩ fun b hb => by cases hb
section
variable {P : Program} {o : Oper} {a : Act} {K : Act → World → Prop} {Q : Exit → Act → World → Prop}
theorem wp_fstO (hF : Fr X w0 w es) {i b : Nat} {e e' : TypeId} {size n c : Nat} {A : Option Addr} {xs zs ds : List Value} (hi : es[i]? = some (.own b e size (.slice A (n + 1) c) (n + 1) (xs ++ zs))) (hx : xs.length = n * size)
  (ho : IsSt o a e' (atp A (n * size)) (.agg ds.toArray)) (hs : (P.info? e').map (·.size) = some size) (hd : ds.length = size) (h1 : ∀ u ∈ ds, u.oneCell' = true)
  (k : ∀ w', Fr X w0 w' (es.set i (.own b e size (.slice A (n + 1) c) (n + 1) (xs ++ ds))) → w'.heap.size = w.heap.size → K (a.put o.dst undef) w') : o.wp P a w K Q := by
 have hown : w.ownsRow b e size (.slice A (n + 1) c) (n + 1) (xs ++ zs) := hF.holds i _ hi
 rcases hown.2 with ⟨hv, _⟩ | ⟨g, cap, cur, hv, hbg, hg, hnc, hcm, hcs, htake⟩
 ·injection hv with _ h2; omega
 ·injection hv with hA hn hc
  subst hA hc
  have hmul : (n + 1) * size ≤ c * size := Nat.mul_le_mul_right _ hnc
  rw [Nat.add_mul, Nat.one_mul] at hmul htake
  have hcl : cur.toList.length = c * size := by rw [Array.length_toList]; exact hcs
  have hl : n * size + ds.length ≤ cur.toList.length := by rw [hcl, hd]; exact hmul
  have hat : atp (some ⟨g, 0, none⟩) (n * size) = ⟨g, n * size, none⟩ := by
   unfold atp Addr.add
   by_cases hj : n * size = 0 <;> simp [hj]
  have hrun := run_storeCells_at P g (n * size) e ds 0 cur w hg (by simpa using hl) h1
  rw [hat] at ho
  obtain ⟨x, y, ho, hxx, hy⟩ := ho
  obtain ⟨j, hj, hsz⟩ := Option.map_eq_some_iff.1 hs
  have hx' : cur.toList.take (n * size) = xs := by
   have := congrArg (List.take (n * size)) htake
   rw [List.take_take, Nat.min_eq_left (by omega), ← hx, List.take_left] at this
   rw [← hx]; exact this
  have hF' : Fr X w0 (w.setRow g (spl cur.toList (n * size) ds).toArray) (es.set i (.own b e size (.slice (some ⟨g, 0, none⟩) (n + 1) c) (n + 1) (xs ++ ds))) := by
   refine hF.put hi (setRow_grown w g _) ⟨?_, .inr ⟨g, c, (spl cur.toList (n * size) ds).toArray, rfl, hbg, setRow_heap w g _ _ e _ hg, hnc, hcm, ?_, ?_⟩⟩ (.inl rfl)
   ·rw [List.length_append, hx, hd, Nat.add_mul, Nat.one_mul]
   ·rw [List.size_toArray, spl_length hl, hcl]
   ·show ((spl cur.toList (n * size) ds).toArray).toList.take ((n + 1) * size) = xs ++ ds
    rw [List.toList_toArray, Nat.add_mul, Nat.one_mul]
    unfold spl
    rw [hx', List.take_append_of_le_length (by rw [List.length_append, hx, hd]; exact Nat.le_refl _), List.take_of_length_le (by rw [List.length_append, hx, hd]; exact Nat.le_refl _)]
  unfold Oper.wp execOp
  simp only [ho, hxx, hy, Instr.storeAt, Instr.sureAddr, storeVar, Sem.run_bind, Sem.run_pure, Result.andThen_ok]
  have hrun' : (storeCells ⟨g, n * size, none⟩ ds).run P w = .ok () (w.setRow g (spl cur.toList (n * size) ds).toArray) := by simpa [spl] using hrun
  have hsz' : j.size = ds.length := by rw [hsz, hd]
  simp [sizeOf, typeInfo, hj, hsz', Value.cells, hrun']
  exact k _ hF' (by simp)
end
end
end Go.Proofs.YtlhicfpmlncomaaGreatDoor

namespace Go.Proofs.YtlhicfpmlncomaaGreatDoor
open Go.RowKit
section
variable {P : Program} {o : Oper} {a : Act} {X : List Nat} {w0 w : World} {es : List Ent} {K : Act → World → Prop} {Q : Exit → Act → World → Prop}
end
end Go.Proofs.YtlhicfpmlncomaaGreatDoor

namespace Go.Proofs.YtlhicfpmlncomaaGreatDoor
end Go.Proofs.YtlhicfpmlncomaaGreatDoor

namespace Go.Proofs.YtlhicfpmlncomaaGreatDoor
open Go.ChangeShapes Go.WideShapes Go.ChangeAt Go.RowKit
section
variable {H : Type} {enc : TypeId × Value → H} {P : Program} {W : World} {hd : Bool} {fuel : Nat}
theorem ints_in {t : TypeId} {k : IntKind} (ht : P.underlying t = some (.int k)) {cs : List Value} {x : DataW H × List MemPlace} (h : DataW.trod enc P W 0 (fun _ => true) hd fuel t cs = some x) : ∃ n, cs = [.int k n] ∧ (Lit.int k n).wf = true := by
 obtain ⟨n, h1, _, h2⟩ := DataW.trod_int ht h
 exact ⟨n, h1, h2⟩
theorem strs_in {t : TypeId} (ht : P.underlying t = some .string) {cs : List Value} {x : DataW H × List MemPlace} (h : DataW.trod enc P W 0 (fun _ => true) hd fuel t cs = some x) : ∃ s : ByteArray, cs = [.string s] ∧ s.size + 1 ≤ Rows.uptoBulk x.1 := by
 obtain ⟨s, h1, h2, _⟩ := DataW.trod_string ht h
 exact ⟨s, h1, by rw [h2]; simp [Rows.uptoBulk]⟩
theorem bools_in {t : TypeId} (ht : P.underlying t = some .bool) {cs : List Value} {x : DataW H × List MemPlace} (h : DataW.trod enc P W 0 (fun _ => true) hd fuel t cs = some x) : ∃ b : Bool, cs = [.bool b] := by
 cases fuel with
 | zero => simp [DataW.trod] at h
 | succ n =>
  unfold DataW.trod at h
  rw [ht] at h
  split at h <;> simp_all
theorem bytes_of_cells : ∀ (cs : List Value), (∀ i, i < cs.length → ∃ c : UInt8, cs[i]? = some (bv c)) → ∃ d : List UInt8, cs = d.map bv
 | [], _ => ⟨[], rfl⟩
 | c :: cs, h => by
  obtain ⟨a, ha⟩ := h 0 (by simp)
  obtain ⟨d, hd⟩ := bytes_of_cells cs (fun i hi => by
   have := h (i + 1) (by simp; omega)
   simpa using this)
  simp only [List.getElem?_cons_zero, Option.some.injEq] at ha
  exact ⟨a :: d, by rw [ha, hd]; rfl⟩
theorem arr_in {t e : TypeId} {n : Nat} (ht : P.underlying t = some (.array n e)) (he : P.underlying e = some (.int .u8)) (hc : P.cellsOf e = 1) (hcs : P.cellsOf t = n) {cs : List Value} {x : DataW H × List MemPlace} (h : DataW.trod enc P W 0 (fun _ => true) hd fuel t cs = some x) :
  ∃ d : List UInt8, cs = d.map bv ∧ d.length = n := by
 obtain ⟨xs, m, _, _, hlen, hxl, hg⟩ := DataW.trod_array ht h
 rw [hcs] at hlen
 have key : ∀ i, i < n → ∃ c : UInt8, cs[i]? = some (bv c) := fun i hi => by
  have h1 := hg i hi
  rw [hc, Nat.mul_one, List.getElem?_eq_getElem (by omega)] at h1
  obtain ⟨k, h2, h3⟩ := ints_in he h1
  obtain ⟨c, rfl⟩ := u8_of_wf h3
  refine ⟨c, ?_⟩
  have h4 : ((cs.drop i).take 1)[0]? = some (bv c) := by rw [h2]; rfl
  rw [List.getElem?_take, if_pos (by omega), List.getElem?_drop] at h4
  simpa using h4
 obtain ⟨d, hd⟩ := bytes_of_cells cs (fun i hi => key i (by omega))
 exact ⟨d, hd, by rw [hd, List.length_map] at hlen; exact hlen⟩
theorem cut_at (cs : List Value) (k m : Nat) : cs.drop k = (cs.drop k).take m ++ cs.drop (k + m) := by rw [← List.drop_drop, List.take_append_drop]
end
end Go.Proofs.YtlhicfpmlncomaaGreatDoor

namespace Go.Proofs.YtlhicfpmlncomaaGreatDoor
open Go.ChangeShapes Go.WideShapes Go.ChangeAt Go.RowKit
theorem flat_at {α β : Type} {f : α → List β} {sz : Nat} (hsz : 0 < sz) : ∀ {l : List α}, (∀ u ∈ l, (f u).length = sz) → ∀ {j : Nat} {v : β}, (l.flatMap f)[j]? = some v → ∃ u, l[j / sz]? = some u ∧ (f u)[j % sz]? = some v
 | [], _, j, v, h => by simp at h
 | u :: l, hl, j, v, h => by
  have hu := hl u (by simp)
  rw [List.flatMap_cons] at h
  rcases Nat.lt_or_ge j sz with hj | hj
  ·rw [List.getElem?_append_left (by omega)] at h
   refine ⟨u, ?_, ?_⟩
   ·rw [Nat.div_eq_of_lt hj]; rfl
   ·rw [Nat.mod_eq_of_lt hj]; exact h
  ·rw [List.getElem?_append_right (by omega), hu] at h
   obtain ⟨u', h1, h2⟩ := flat_at hsz (l := l) (fun x hx => hl x (by simp [hx])) h
   have e1 : j / sz = (j - sz) / sz + 1 := by rw [Nat.div_eq_sub_div hsz hj]
   have e2 : j % sz = (j - sz) % sz := by rw [Nat.mod_eq_sub_mod hj]
   exact ⟨u', by rw [e1]; exact h1, by rw [e2]; exact h2⟩
theorem flat_len {α β : Type} {f : α → List β} {sz : Nat} : ∀ {l : List α}, (∀ u ∈ l, (f u).length = sz) → (l.flatMap f).length = l.length * sz
 | [], _ => by simp
 | u :: l, hl => by
  rw [List.flatMap_cons, List.length_append, hl u (by simp), flat_len (fun x hx => hl x (by simp [hx])), List.length_cons, Nat.add_mul]; omega
theorem list_of {α : Type} {p : Nat → α → Prop} : ∀ (n : Nat), (∀ i, i < n → ∃ u, p i u) → ∃ l : List α, l.length = n ∧ ∀ i u, l[i]? = some u → p i u
 | 0, _ => ⟨[], rfl, fun i u h => by simp at h⟩
 | n + 1, h => by
  obtain ⟨l, hl, hp⟩ := list_of n (fun i hi => h i (by omega))
  obtain ⟨u, hu⟩ := h n (by omega)
  refine ⟨l ++ [u], by simp [hl], fun i x hx => ?_⟩
  rcases Nat.lt_or_ge i n with hi | hi
  ·rw [List.getElem?_append_left (by omega)] at hx; exact hp i x hx
  ·rw [List.getElem?_append_right (by omega)] at hx
   match hk : i - l.length, hx with
   | 0, hx => injection hx with hx; subst hx; obtain rfl : i = n := by omega
              exact hu
   | k + 1, hx => simp at hx
section
variable {H : Type} {enc : TypeId × Value → H} {P : Program} {W : World} {hd : Bool} {fuel : Nat}
end
end Go.Proofs.YtlhicfpmlncomaaGreatDoor

namespace Go.Proofs.YtlhicfpmlncomaaGreatDoor
open Go.RowKit
theorem T_strs : SlT Tryz.prog 48 9 1 16 (.string ByteArray.empty) := ⟨uq48, by kernel_rfl, rfl, by decide⟩
theorem jTextL_len {b : List UInt8} : ∀ {f p : Nat} {out s : List UInt8} {q : Nat}, jTextL b f p out = .ok (s, q) → p < q ∧ q ≤ b.length
 | 0, p, out, s, q, h => by cases h
 | f + 1, p, out, s, q, h => by
  unfold jTextL at h
  cases hx : b[p]? with
  | none => rw [hx] at h; cases h
  | some c =>
   have hp := (List.getElem?_eq_some_iff.1 hx).1
   rw [hx] at h
   simp only [] at h
   split at h
   ·obtain ⟨_, rfl⟩ := ok_pair h
    omega
   ·split at h
    ·cases he : jEscape b p with
     | error x => rw [he] at h; cases h
     | ok r =>
      obtain ⟨e, q1⟩ := r
      rw [he] at h
      have h1 := jEscape_len he
      have h2 := jTextL_len h
      omega
    ·split at h
     ·cases h
     ·split at h
      ·cases h
      ·have h2 := jTextL_len h
       omega
theorem jText_len {b : List UInt8} {p q : Nat} {s : List UInt8} (h : jText b p = .ok (s, q)) : p + 1 < q ∧ q ≤ b.length := by
 unfold jText at h
 cases hw : jWord b [34] p with
 | error x => rw [hw] at h; cases h
 | ok q1 =>
  rw [hw] at h
  have h1 := (jWord_le hw).1
  have h2 := jTextL_len h
  simp at h1
  omega
theorem jName_len {b : List UInt8} {p q : Nat} {ns : List (List UInt8)} {s : List UInt8} (h : jName b ns p = .ok (s, q)) : p + 1 < q ∧ q ≤ b.length := by
 unfold jName at h
 cases hT : jText b p with
 | error x => rw [hT] at h; cases h
 | ok r =>
  obtain ⟨s1, q1⟩ := r
  rw [hT] at h
  have h1 := jText_len hT
  simp only [] at h
  split at h
  ·cases h
  ·cases hw : jWord b [58] (jBlanks b q1) with
   | error x => rw [hw] at h; cases h
   | ok r =>
    rw [hw] at h
    obtain ⟨_, rfl⟩ := ok_pair h
    have h2 := jWord_le hw
    have h3 := jBlanks_ge b q1
    have h4 := jBlanks_ge b r
    have h5 := jBlanks_le b (p := r) (h2.2.resolve_left (by simp))
    simp at h2
    omega
theorem strs_one1 (x : ByteArray) : ∀ u ∈ [Value.string x], u.oneCell' = true := by
 intro u hu
 rw [List.mem_singleton.1 hu]; rfl
theorem vlL_3 {k n : Int} {t : ByteArray} {a b a' : Value} : spl (vlL k n t a b) 3 [a'] = vlL k n t a' b := rfl
theorem vlL_4 {k n : Int} {t : ByteArray} {a b b' : Value} : spl (vlL k n t a b) 4 [b'] = vlL k n t a b' := rfl
def ToldNm (w0 : World) (g gv : Nat) (A : Option Addr) (n c m : Nat) (names : List (List UInt8)) (kv : Value) (rest : List Ent) (x : List UInt8 × Nat) (e : Ending) (w' : World) : Prop :=
 ∃ An cn, e = .returned (.tuple #[]) ∧ names.length + 1 ≤ cn ∧ Fr [g] w0 w' (.own w0.heap.size 9 1 (.slice An (names.length + 1) cn) (names.length + 1) ((names ++ [x.1]).map strv) :: .blk gv 76 (vlL 6 0 ⟨#[]⟩ (.slice An (names.length + 1) cn) kv) :: .blk g 127 (rdrL A n c x.2 m) :: rest)
set_option maxRecDepth 20000 in
set_option maxHeartbeats 6400000 in
theorem name_any (w0 w : World) (g gv : Nat) (A : Option Addr) (n c p m B : Nat) (b : List UInt8) (names : List (List UInt8)) (An : Option Addr) (nn cn : Nat) (kv : Value) (rest : List Ent) (hL : LibsAt B w0) (hg : B ≤ g) (hB : B ≤ w0.heap.size) (hn : n ≤ 65536) (hnc : n ≤ c) (hp : p ≤ n) (hr : Rd w0 (· < B) A 1 n (b.map bv)) (hnn : nn ≤ 65536) (hnl : names.length = nn) (hcn : nn ≤ cn)
  (hF : Fr [g] w0 w (.own w0.heap.size 9 1 (.slice An nn cn) nn (names.map strv) :: .blk gv 76 (vlL 6 0 ⟨#[]⟩ (.slice An nn cn) kv) :: .blk g 127 (rdrL A n c p m) :: rest)) :
  Calls Tryz.prog 121 #[.pointer (some ⟨g, 0, none⟩), .pointer (some ⟨gv, 0, none⟩)] w (JEndP w0 g (jName b names p) (ToldNm w0 g gv A n c m names kv rest)) := by
 have hl := box hr.bytes_len
 replace hnl := box hnl
 have htx := box (text_any g A n c p m B b w (hL.on (hF.belowG hg hB)) (hF.blk (i := 2) rfl) hg (Nat.le_trans hB hF.size) hn hnc hp (hF.rdB hg hB hr))
 cases hT : jText b p with
 | error z =>
  have hj : Box (jName b names p = .error z) := box (by unfold jName; rw [hT])
  rw [hT] at htx
  unfold JEndP at htx
  simp only [] at htx
  clear hT
  go_enter Tryz.func121, Tryz.ntmps121
  go_wp2_with (first | (with_reducible refine lsx (wp_fld2 hF uq3 rfl (by with_unfolding_all exact ⟨_, rfl, rfl⟩) rfl ?_)))
  refine htx.out.mono ?_
  rintro e w1 ⟨rfl, hg1⟩
  dsimp only [flt]
  go_wp2
  exact ⟨rfl, by unfold JEndP; rw [hj.out]; exact ⟨rfl, grown_trans hF.grown hg1⟩⟩
 | ok r =>
  obtain ⟨s, q⟩ := r
  have hlen := jText_len hT
  rw [hl.out] at hlen
  have hpq := hlen.1
  have hqn := hlen.2
  clear hlen
  rw [hT] at htx
  unfold JEndP ToldS at htx
  simp only [] at htx
  have hjm : Box (s ∈ names → jName b names p = .error (p, 7)) := box (fun h => by unfold jName; rw [hT]; simp only []; rw [if_pos h])
  have hjn : Box (s ∉ names → jName b names p = match jWord b [58] (jBlanks b q) with
   | .error x => .error x
   | .ok r => .ok (s, jBlanks b r)) := box (fun h => by unfold jName; rw [hT]; simp only []; rw [if_neg h]; cases jWord b [58] (jBlanks b q) <;> rfl)
  clear hT
  go_enter Tryz.func121, Tryz.ntmps121
  go_wp2_with (first | (with_reducible refine lsx (wp_fld2 hF uq3 rfl (by with_unfolding_all exact ⟨_, rfl, rfl⟩) rfl ?_)))
  refine htx.out.mono ?_
  rintro e w1 ⟨rfl, h1⟩
  have hF1 := hF.putF (i := 2) rfl h1
  simp only [zN, zZ] at hF1
  clear htx h1 hF
  go_wp2_with (first | (with_reducible refine lsx (wp_fld1 hF1 uq48 rfl (by with_unfolding_all exact ⟨_, rfl, rfl⟩) rfl ?_)))
  go_loopg [19] nn (fun k i wr => ∃ j, j ≤ nn ∧ Box (k = nn - j) ∧ i = .int .i64 (j : Int) ∧ Box (∀ t ∈ names.take j, s ≠ t) ∧ wr = w1)
  case atStart => exact ⟨0, by omega, box rfl, rfl, box (by simp), rfl⟩
  case round =>
   obtain ⟨j, hj, hk, rfl, hno, rfl⟩ := hrel
   have hro := hF1.rdOwn (i := 0) rfl
   by_cases hlt : j < nn
   ·obtain ⟨t, ht⟩ : ∃ t, names[j]? = some t := ⟨names[j]'(by rw [hnl.out]; exact hlt), by simp⟩
    have hts : Box ((names.map strv)[j]? = some (.string ⟨t.toArray⟩)) := box (by rw [List.getElem?_map, ht]; rfl)
    have htk : names.take (j + 1) = names.take j ++ [t] := by rw [List.take_add_one, ht]; rfl
    by_cases hst : s = t
    ·have hend := box (hjm.out (by rw [hst]; exact List.mem_of_getElem? ht))
     have hfl := box (fun v w => fail_any v p 7 w)
     subst hst
     clear ht htk
     go_wp2_with (first | (with_reducible refine lsx (wp_indexAddr T_strs hro (by with_unfolding_all exact ⟨_, _, _, _, rfl, rfl, rfl⟩) (by omega) (by omega) ?_)) | (with_reducible refine lsx (wp_load1C hro hts uq9 rfl (by with_unfolding_all exact ⟨_, rfl, rfl⟩) (by first | (simp; done) | (simp; omega) | omega) ?_)))
     refine (hfl.out _ _).mono ?_
     rintro e w2 ⟨rfl, rfl⟩
     dsimp only [flt]
     go_wp2
     exact ⟨rfl, by unfold JEndP; rw [hend.out]; exact ⟨rfl, hF1.grown⟩⟩
    ·have hno2 : Box (∀ t ∈ names.take (j + 1), s ≠ t) := box (fun u hu => by
      rw [htk] at hu
      rcases List.mem_append.1 hu with hu | hu
      ·exact hno.out u hu
      ·rw [List.mem_singleton.1 hu]; exact hst)
     have hst2 : (s == t) = false := by rw [beq_eq_false_iff_ne]; exact hst
     replace hst := box hst
     clear ht htk
     go_wp2_with (first | (with_reducible refine lsx (wp_indexAddr T_strs hro (by with_unfolding_all exact ⟨_, _, _, _, rfl, rfl, rfl⟩) (by omega) (by omega) ?_)) | (with_reducible refine lsx (wp_load1C hro hts uq9 rfl (by with_unfolding_all exact ⟨_, rfl, rfl⟩) (by first | (simp; done) | (simp; omega) | omega) ?_)))
     go_roundg (nn - (j + 1))
     case rel => exact ⟨j + 1, by omega, box rfl, by go_num, hno2, rfl⟩
     case measure => have := hk.out; omega
   ·have hns : s ∉ names := fun hm => by
     obtain rfl : j = nn := by omega
     have h2 := hno.out s
     rw [List.take_of_length_le (by rw [hnl.out]; exact Nat.le_refl _)] at h2
     exact h2 hm rfl
    have hjn2 := box (hjn.out hns)
    clear hns hjn hjm hno hk
    go_wp2_with (first | (with_reducible refine lsx (wp_fld1 hF1 uq48 rfl (by with_unfolding_all exact ⟨_, rfl, rfl⟩) rfl ?_)) | ((with_reducible refine lsx (wp_fbsl T_strs hF1 (vs := [.string ⟨s.toArray⟩]) (by with_unfolding_all rfl) (by with_unfolding_all rfl) (by with_unfolding_all rfl) (by decide) (by simp [Value.cells]) ?_)); intro w3 g3 hF3 hz3) | ((with_reducible refine lsx (wp_fappG T_strs hF3 (i := 1) rfl (Nat.le_refl _) hF3.rdOwn0 (strs_one1 _) (by with_unfolding_all exact ⟨_, _, rfl, rfl, rfl⟩) (by unfold maxLen; omega) (by omega) ?_)); intro v4 w4 hF4 hz4; simp only [zZ, zN] at hF4; obtain ⟨A4, c4, rfl, hc4⟩ := hF4.ownParts (i := 1) rfl) | ((with_reducible refine lsx (wp_fst2 hF4 (by with_unfolding_all exact ⟨_, _, rfl, rfl, rfl⟩) (by kernel_rfl) rfl rfl (by rw [vlL_len]; decide) (vlL_3 (a' := .slice A4 (nn + 1) c4)) ?_)); intro w5 hF5 hz5))
    have hF6 := hF5.tail
    clear hF5 hF4 hF3
    have hq1 : jBlanks b q ≤ n := by have := jBlanks_le b (p := q) (by rw [hl.out]; exact hqn); rw [hl.out] at this; exact this
    have hbl := box (blanks_any g A n c q m B b w5 (hF6.blk (i := 2) rfl) hg (Nat.le_trans hB hF6.size) (by omega) hqn (hF6.rdB hg hB hr))
    refine hbl.out.mono ?_
    rintro e w7 ⟨rfl, h7⟩
    have hF7 := hF6.putF (i := 2) rfl h7
    simp only [zN, zZ] at hF7
    clear hbl h7 hF6
    have hwd := box (word_any g A n c (jBlanks b q) m B b ⟨#[58]⟩ w7 (hF7.blk (i := 2) rfl) hg (Nat.le_trans hB hF7.size) (by omega) hq1 (by decide) (hF7.rdB hg hB hr))
    rw [show ((⟨#[58]⟩ : ByteArray).data.toList) = [58] from rfl] at hwd
    have hj3 := hjn2.out
    cases hW : jWord b [58] (jBlanks b q) with
    | error z =>
     rw [hW] at hwd hj3
     replace hj3 := box hj3
     unfold JPost at hwd
     simp only [] at hwd
     clear hW hjn2
     go_wp2_with fail
     refine hwd.out.mono ?_
     rintro e w8 ⟨rfl, hg8⟩
     dsimp only [flt]
     go_wp2
     exact ⟨rfl, by unfold JEndP; rw [hj3.out]; exact ⟨rfl, grown_trans hF7.grown hg8⟩⟩
    | ok r =>
     have hrn := (jWord_le hW).2.resolve_left (by simp)
     rw [hl.out] at hrn
     rw [hW] at hwd hj3
     replace hj3 := box hj3
     unfold JPost at hwd
     simp only [] at hwd
     clear hW hjn2
     go_wp2_with fail
     refine hwd.out.mono ?_
     rintro e w8 ⟨rfl, h8⟩
     have hF8 := hF7.putF (i := 2) rfl h8
     simp only [zN, zZ] at hF8
     clear hwd h8 hF7
     have hbl := box (blanks_any g A n c r m B b w8 (hF8.blk (i := 2) rfl) hg (Nat.le_trans hB hF8.size) (by omega) hrn (hF8.rdB hg hB hr))
     go_wp2_with fail
     refine hbl.out.mono ?_
     rintro e w9 ⟨rfl, h9⟩
     have hF9 := hF8.putF (i := 2) rfl h9
     simp only [zN, zZ] at hF9
     clear hbl h9 hF8
     go_wp2_with fail
     go_end0
     unfold JEndP
     rw [hj3.out]
     have hnl2 := hnl.out
     subst hnl2
     exact ⟨A4, c4, rfl, hc4, by rw [List.map_append]; exact hF9⟩
end Go.Proofs.YtlhicfpmlncomaaGreatDoor

namespace Go.Proofs.YtlhicfpmlncomaaGreatDoor
theorem jNext_ok {b : List UInt8} {p : Nat} {c : UInt8} (h : jNext b p = .ok c) : b[p]? = some c := by
 unfold jNext at h
 cases hx : b[p]? with
 | none => rw [hx] at h; cases h
 | some x => rw [hx] at h; injection h with h; rw [h]
theorem jManyL_step {b : List UInt8} {kind : Int} {fin : UInt8} {val : Nat → Nat → JR (JV × Nat × Nat)} {f p m : Nat} {names : List (List UInt8)} {kids : List JV} {x : JV × Nat × Nat} (h : jManyL b kind fin val (f + 1) p m names kids = .ok x) :
  ∃ s q v r m' c, (if kind = 6 then jName b names p else .ok ([], p)) = .ok (s, q) ∧ val q m = .ok (v, r, m') ∧ b[jBlanks b r]? = some c ∧
   (x = (.mk kind 0 [] (if kind = 6 then names ++ [s] else names) (kids ++ [v]), jBlanks b r + 1, m') ∨
    jManyL b kind fin val f (jBlanks b (jBlanks b r + 1)) m' (if kind = 6 then names ++ [s] else names) (kids ++ [v]) = .ok x) := by
 rw [jManyL] at h
 cases h1 : (if kind = 6 then jName b names p else .ok ([], p)) with
 | error z => rw [h1] at h; cases h
 | ok r =>
  obtain ⟨s, q⟩ := r
  rw [h1] at h
  simp only [] at h
  cases h2 : val q m with
  | error z => rw [h2] at h; cases h
  | ok r =>
   obtain ⟨v, r, m'⟩ := r
   rw [h2] at h
   simp only [] at h
   cases h3 : jNext b (jBlanks b r) with
   | error z => rw [h3] at h; cases h
   | ok c =>
    rw [h3] at h
    simp only [] at h
    refine ⟨s, q, v, r, m', c, rfl, h2, jNext_ok h3, ?_⟩
    by_cases hc : c = fin
    ·rw [if_pos hc] at h
     injection h with h
     exact .inl h.symm
    ·rw [if_neg hc] at h
     cases h4 : jWord b [44] (jBlanks b r) with
     | error z => rw [h4] at h; cases h
     | ok t =>
      rw [h4] at h
      simp only [] at h
      obtain rfl : t = jBlanks b r + 1 := (jWord_le h4).1
      exact .inr h
def ValLen (b : List UInt8) (val : Nat → Nat → JR (JV × Nat × Nat)) : Prop := ∀ (p m : Nat) (v : JV) (q m' : Nat), m ≤ 4096 → val p m = .ok (v, q, m') → p < q ∧ q ≤ b.length ∧ m < m' ∧ m' ≤ 4096
theorem jManyL_len {b : List UInt8} {kind : Int} {fin : UInt8} {val : Nat → Nat → JR (JV × Nat × Nat)} (hv : ValLen b val) : ∀ {f p m : Nat} {names : List (List UInt8)} {kids : List JV} {v : JV} {q m' : Nat}, m ≤ 4096 → jManyL b kind fin val f p m names kids = .ok (v, q, m') → p < q ∧ q ≤ b.length ∧ m < m' ∧ m' ≤ 4096
 | 0, _, _, _, _, _, _, _, _, h => by cases h
 | f + 1, p, m, names, kids, v, q, m', hm, h => by
  obtain ⟨s, q1, v1, r, m1, c, h1, h2, h3, h4⟩ := jManyL_step h
  have hq1 : p ≤ q1 := by
   split at h1
   ·have := jName_len h1; omega
   ·injection h1 with h1; injection h1 with _ h1; omega
  have hv1 := hv _ _ _ _ _ hm h2
  have hr := jBlanks_ge b r
  have hb := (List.getElem?_eq_some_iff.1 h3).1
  rcases h4 with h4 | h4
  ·injection h4 with h4 h5
   injection h5 with h5 h6
   omega
  ·have h5 := jManyL_len hv hv1.2.2.2 h4
   have := jBlanks_ge b (jBlanks b r + 1)
   omega
theorem jMany_len {b : List UInt8} {kind : Int} {fin : UInt8} {val : Option (Nat → Nat → JR (JV × Nat × Nat))} (hv : ∀ f, val = some f → ValLen b f) {p m : Nat} {v : JV} {q m' : Nat} (hm : m ≤ 4096) (h : jMany b kind fin val p m = .ok (v, q, m')) : p < q ∧ q ≤ b.length ∧ m ≤ m' ∧ m' ≤ 4096 := by
 unfold jMany at h
 cases val with
 | none => cases h
 | some f =>
  simp only [] at h
  cases h3 : jNext b (jBlanks b (p + 1)) with
  | error z => rw [h3] at h; cases h
  | ok c =>
   rw [h3] at h
   simp only [] at h
   have hb := (List.getElem?_eq_some_iff.1 (jNext_ok h3)).1
   have hg := jBlanks_ge b (p + 1)
   split at h
   ·injection h with h
    injection h with _ h
    injection h with h1 h2
    omega
   ·have := jManyL_len (hv f rfl) hm h
    omega
theorem jNumber_len {b : List UInt8} {p q : Nat} {x : Int} (hp : p < b.length) (h : jNumber b p = .ok (x, q)) : p < q ∧ q ≤ b.length := by
 unfold jNumber at h
 simp only [] at h
 cases hj : jNum ((b.drop p).takeWhile jNumC) with
 | none => rw [hj] at h; cases h
 | some v =>
  rw [hj] at h
  obtain ⟨_, rfl⟩ := ok_pair h
  have h1 : ((b.drop p).takeWhile jNumC).length ≠ 0 := fun h0 => by
   rw [List.eq_nil_of_length_eq_zero h0] at hj
   cases hj
  have h2 := (List.takeWhile_sublist jNumC (l := b.drop p)).length_le
  rw [List.length_drop] at h2
  omega
theorem jValueW_len {b : List UInt8} {val : Option (Nat → Nat → JR (JV × Nat × Nat))} (hv : ∀ f, val = some f → ValLen b f) {p m : Nat} {v : JV} {q m' : Nat} (hm : m ≤ 4096) (h : jValueW b val p m = .ok (v, q, m')) : p < q ∧ q ≤ b.length ∧ m < m' ∧ m' ≤ 4096 := by
 unfold jValueW at h
 cases hx : b[p]? with
 | none => rw [hx] at h; cases h
 | some c =>
  have hp := (List.getElem?_eq_some_iff.1 hx).1
  rw [hx] at h
  simp only [] at h
  split at h
  ·cases h
  ·rename_i hm4
   have lit : ∀ {l : List UInt8} {u : JV}, l ≠ [] → jLit b l u p (m + 1) = .ok (v, q, m') → p < q ∧ q ≤ b.length ∧ m < m' ∧ m' ≤ 4096 := fun {l u} hl hj => by
    unfold jLit at hj
    cases hw : jWord b l p with
    | error z => rw [hw] at hj; cases hj
    | ok t =>
     rw [hw] at hj
     simp only [] at hj
     injection hj with hj
     injection hj with _ hj
     injection hj with h1 h2
     have h3 := jWord_le hw
     have h4 := h3.2.resolve_left hl
     have h5 : 0 < l.length := List.length_pos_iff.2 hl
     omega
   split at h
   ·exact lit (by simp) h
   ·split at h
    ·exact lit (by simp) h
    ·split at h
     ·exact lit (by simp) h
     ·split at h
      ·cases hn : jNumber b p with
       | error z => rw [hn] at h; cases h
       | ok r =>
        obtain ⟨x, t⟩ := r
        rw [hn] at h
        injection h with h
        injection h with _ h
        injection h with h1 h2
        have := jNumber_len hp hn
        omega
      ·split at h
       ·cases hn : jText b p with
        | error z => rw [hn] at h; cases h
        | ok r =>
         obtain ⟨x, t⟩ := r
         rw [hn] at h
         injection h with h
         injection h with _ h
         injection h with h1 h2
         have := jText_len hn
         omega
       ·split at h
        ·have := jMany_len hv (by omega) h
         omega
        ·split at h
         ·have := jMany_len hv (by omega) h
          omega
         ·cases h
theorem jValue_len {b : List UInt8} : ∀ (d : Nat), ValLen b (jValue b d)
 | 0, p, m, v, q, m', hm, h => jValueW_len (val := none) (fun f hf => by cases hf) hm h
 | d + 1, p, m, v, q, m', hm, h => jValueW_len (val := some (jValue b d)) (fun f hf => by injection hf with hf; subst hf; exact jValue_len d) hm h
end Go.Proofs.YtlhicfpmlncomaaGreatDoor
