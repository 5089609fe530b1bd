/-
 Layer 6: the document's reader: numbers.
 A slice literal of one reckoned byte. No program is named here.
 Layer 6: the document's reader: four digits of an escape; a sign in UTF-8.
-/
import Derived.Test.YtlhicfpmlncomaaGreatDoorG15
import Derived.Test.YtlhicfpmlncomaaGreatDoorG02
namespace Go.Proofs.YtlhicfpmlncomaaGreatDoor
open Go.RowKit
set_option linter.unusedSimpArgs false
/-- What a reading of a value tells. -/
def RVal (w : World) (g : Nat) (A : Option Addr) (n c : Nat) (r : JR (JV × Nat × Nat)) (e : Ending) (w' : World) : Prop :=
 ∃ cs es, e = .returned (.agg cs.toArray) ∧ match r with
  | .ok (v, q, m') => VT v cs es ∧ Fr [g] w w' (.blk g 146 (rrL A n c q 0 0 m') :: es)
  | .error x => ∃ v p' m', VT v cs es ∧ Fr [g] w w' (.blk g 146 (rrL A n c p' x.2 x.1 m') :: es)
def jNumV (b : List UInt8) (p m : Nat) : JR (JV × Nat × Nat) :=
 match jNumber b p with
 | .error x => .error x
 | .ok (x, q) => .ok (.mk 3 x [] [] [], q, m)
/-- May the signs be a number's, but for their kind and its size? -/
def jOk0 (neg : Bool) (s : List UInt8) : Prop := s ≠ [] ∧ s.length ≤ 16 ∧ (s.head? ≠ some 48 ∨ s.length = 1 ∧ neg = false)
instance (neg : Bool) (s : List UInt8) : Decidable (jOk0 neg s) := by unfold jOk0; exact inferInstance
theorem jNum_parts (s : List UInt8) (neg : Bool) (t : List UInt8) (h : neg = (s.head? == some 45)) (ht : t = if neg then s.tail else s) :
  jNum s = if jOk0 neg t ∧ t.all jDig = true ∧ jDigs t ≤ 9007199254740991 then some (if neg then -(jDigs t : Int) else (jDigs t : Int)) else none := by
 unfold jNum jOk0
 simp only [← h, ← ht]
 congr 1
 simp only [eq_iff_iff]
 constructor
 ·rintro ⟨h1, h2, h3, h4, h5⟩; exact ⟨⟨h1, h2, h3⟩, h4, h5⟩
 ·rintro ⟨⟨h1, h2, h3⟩, h4, h5⟩; exact ⟨h1, h2, h3, h4, h5⟩
theorem jDigs_gen : ∀ (l : List UInt8) (n : Nat), l.all jDig = true → l.foldl (fun n c => 10 * n + (c.toNat - 48)) n < (n + 1) * 10 ^ l.length
 | [], n, _ => by simp
 | x :: l, n, h => by
  rw [List.all_cons, Bool.and_eq_true] at h
  have h2 := h.1
  unfold jDig at h2
  rw [Bool.and_eq_true, decide_eq_true_eq, decide_eq_true_eq] at h2
  have := jDigs_gen l (10 * n + (x.toNat - 48)) h.2
  rw [List.foldl_cons, List.length_cons, Nat.pow_succ]
  refine Nat.lt_of_lt_of_le this ?_
  rw [Nat.mul_comm (10 ^ l.length) 10, ← Nat.mul_assoc]
  exact Nat.mul_le_mul_right _ (by omega)
theorem jDigs_16 {l : List UInt8} (h : l.all jDig = true) (hl : l.length ≤ 16) : jDigs l < 10000000000000000 := by
 have h1 := jDigs_gen l 0 h
 have h2 : 10 ^ l.length ≤ 10 ^ 16 := Nat.pow_le_pow_right (by decide) hl
 unfold jDigs
 omega
set_option maxRecDepth 20000 in
set_option maxHeartbeats 25600000 in
theorem rnumber_ok (g : Nat) (A : Option Addr) (n c p m B : Nat) (b : List UInt8) (w : World) (hh : w.heap[g]? = some (.cells (rrL A n c p 0 0 m).toArray 146 (0, 0))) (hg : B ≤ g) (hB : B ≤ w.heap.size) (hn : n ≤ 65536) (hnc : n ≤ c) (hp : p < n) (hr : Rd w (· < B) A 1 n (b.map bv)) (x0 : UInt8) (hx0 : b[p]? = some x0) (hx0n : jNumC x0 = true) :
  Calls Tryz.prog 101 #[.pointer (some ⟨g, 0, none⟩)] w (RVal w g A n c (jNumV b p m)) := by
 have hl := box hr.bytes_len
 have hF0 := Fr.one hh
 clear hh
 replace hx0 := box hx0
 replace hx0n := box hx0n
 go_enter Tryz.func101, Tryz.ntmps101
 go_wp2_with (first | ((with_reducible refine lst (by with_unfolding_all rfl) (wp_falloc hF0 (cs := vl0) (z := .agg (List.toArray (vl0))) rfl (by kernel_rfl) (by with_unfolding_all rfl) ?_)); intro w1 g1 hF1 hz1) | (with_reducible refine lst (by with_unfolding_all rfl) (wp_fld1 hF1 Tryz.underlying3 rfl (by with_unfolding_all exact ⟨_, rfl, rfl⟩) rfl ?_)) | (with_reducible refine lst (by with_unfolding_all rfl) (wp_fld1 hF1 Tryz.underlying22 rfl (by with_unfolding_all exact ⟨_, rfl, rfl⟩) rfl ?_)))
 go_loopg [] (n - p) (fun k wr => ∃ p' : Nat, p ≤ p' ∧ p' ≤ n ∧ Box (k = n - p') ∧ Box (jNumEnd b p = jNumEnd b p') ∧ Fr [g] w wr [.blk g1 51 vl0, .blk g 146 (rrL A n c p' 0 0 m)])
 case atStart => exact ⟨p, Nat.le_refl _, Nat.le_of_lt hp, box rfl, box rfl, hF1⟩
 case round =>
  obtain ⟨p', hpp, hp', hk, hj, hF⟩ := hrel
  clear hF0 hF1
  go_wp2_with fail
  refine (rlook_any g A n c p' 0 0 m b _ _ (hF.blk (i := 1) rfl) (hF.rdB hg hB hr)).mono ?_
  rintro e w1 ⟨rfl, kk, rfl⟩
  obtain ⟨bt, hbt⟩ : ∃ bt : Bool, bt = (decide (p' < n) && ((b[p']?).map jNumC).getD false) := ⟨_, rfl⟩
  have hgo : Box (bt = true → p' < n ∧ jNumEnd b p = jNumEnd b (p' + 1)) := box (fun h => by
   rw [h] at hbt
   have h2 := hbt.symm
   simp only [Bool.and_eq_true, decide_eq_true_eq] at h2
   cases hx : b[p']? with
   | none => rw [hx] at h2; simp at h2
   | some x => rw [hx] at h2; exact ⟨h2.1, hj.out.trans (jNumEnd_go hx h2.2)⟩)
  have hend : Box (bt = false → jNumEnd b p = p') := box (fun h => by
   rw [h] at hbt
   refine hj.out.trans ?_
   cases hx : b[p']? with
   | none => exact jNumEnd_end (List.getElem?_eq_none_iff.1 hx)
   | some x =>
    have := (List.getElem?_eq_some_iff.1 hx).1
    rw [hl.out] at this
    rw [hx] at hbt
    have h2 := hbt.symm
    simp only [this, decide_true, Bool.true_and, Option.map_some, Option.getD_some] at h2
    exact jNumEnd_stop hx h2)
  replace hbt := box hbt
  obtain ⟨L, hLk⟩ : ∃ L, L = jLook b p' 0 := ⟨_, rfl⟩
  rw [← hLk]
  replace hLk := box hLk
  go_upto_region 3 with fail
  go_cut [42] (fun s42 wx => s42 = .bool (!bt) ∧ wx = wr.drewN kk)
  case first =>
   by_cases hlt : p' < n
   ·obtain ⟨x, hx⟩ : ∃ x, b[p']? = some x := ⟨b[p']'(by rw [hl.out]; exact hlt), by simp⟩
    have hxb := x.toNat_lt
    have hbt2 : bt = jNumC x := by rw [hbt.out, hx]; simp [hlt]
    have hLx : L = x.toNat := by rw [hLk.out, jLook_in hx]
    clear hr hx hbt hgo hend
    by_cases h48 : 48 ≤ L ∧ L ≤ 57
    ·have hb : bt = true := by rw [hbt2]; simp [jNumC, jDig, ← hLx, h48]
     have d1 : decide ((48 : Int) ≤ (L : Int)) = true := decide_eq_true (by omega)
     have d2 : decide ((L : Int) ≤ 57) = true := decide_eq_true (by omega)
     clear h48 hbt2 hLx
     go_wp2
     go_meet
     exact ⟨by rw [hb]; rfl, rfl⟩
    by_cases hx0 : L = 45
    ·have hb : bt = true := by rw [hbt2, show x = 45 from UInt8.toNat_inj.1 (by rw [← hLx, hx0]; rfl)]; decide
     have n0 : ((L : Int) != 45) = false := by rw [bne_eq_false_iff_eq]; omega
     have d1 : decide ((48 : Int) ≤ (L : Int)) = false := decide_eq_false (by omega)
     have d2 : decide ((L : Int) ≤ 57) = true := decide_eq_true (by omega)
     clear hbt2 h48 hxb hLx hx0
     go_wp2
     go_meet
     exact ⟨by rw [hb]; rfl, rfl⟩
    have n0 : ((L : Int) != 45) = true := by rw [bne_iff_ne]; omega
    by_cases hx1 : L = 43
    ·have hb : bt = true := by rw [hbt2, show x = 43 from UInt8.toNat_inj.1 (by rw [← hLx, hx1]; rfl)]; decide
     have n1 : ((L : Int) != 43) = false := by rw [bne_eq_false_iff_eq]; omega
     have d1 : decide ((48 : Int) ≤ (L : Int)) = false := decide_eq_false (by omega)
     have d2 : decide ((L : Int) ≤ 57) = true := decide_eq_true (by omega)
     clear hbt2 h48 hxb hLx hx0 hx1
     go_wp2
     go_meet
     exact ⟨by rw [hb]; rfl, rfl⟩
    have n1 : ((L : Int) != 43) = true := by rw [bne_iff_ne]; omega
    by_cases hx2 : L = 46
    ·have hb : bt = true := by rw [hbt2, show x = 46 from UInt8.toNat_inj.1 (by rw [← hLx, hx2]; rfl)]; decide
     have n2 : ((L : Int) != 46) = false := by rw [bne_eq_false_iff_eq]; omega
     have d1 : decide ((48 : Int) ≤ (L : Int)) = false := decide_eq_false (by omega)
     have d2 : decide ((L : Int) ≤ 57) = true := decide_eq_true (by omega)
     clear hbt2 h48 hxb hLx hx0 hx1 hx2
     go_wp2
     go_meet
     exact ⟨by rw [hb]; rfl, rfl⟩
    have n2 : ((L : Int) != 46) = true := by rw [bne_iff_ne]; omega
    by_cases hx3 : L = 101
    ·have hb : bt = true := by rw [hbt2, show x = 101 from UInt8.toNat_inj.1 (by rw [← hLx, hx3]; rfl)]; decide
     have n3 : ((L : Int) != 101) = false := by rw [bne_eq_false_iff_eq]; omega
     have d1 : decide ((48 : Int) ≤ (L : Int)) = true := decide_eq_true (by omega)
     have d2 : decide ((L : Int) ≤ 57) = false := decide_eq_false (by omega)
     clear hbt2 h48 hxb hLx hx0 hx1 hx2 hx3
     go_wp2
     go_meet
     exact ⟨by rw [hb]; rfl, rfl⟩
    have n3 : ((L : Int) != 101) = true := by rw [bne_iff_ne]; omega
    by_cases hx4 : L = 69
    ·have hb : bt = true := by rw [hbt2, show x = 69 from UInt8.toNat_inj.1 (by rw [← hLx, hx4]; rfl)]; decide
     have n4 : ((L : Int) != 69) = false := by rw [bne_eq_false_iff_eq]; omega
     have d1 : decide ((48 : Int) ≤ (L : Int)) = true := decide_eq_true (by omega)
     have d2 : decide ((L : Int) ≤ 57) = false := decide_eq_false (by omega)
     clear hbt2 h48 hxb hLx hx0 hx1 hx2 hx3 hx4
     go_wp2
     go_meet
     exact ⟨by rw [hb]; rfl, rfl⟩
    have n4 : ((L : Int) != 69) = true := by rw [bne_iff_ne]; omega
    have hb : bt = false := by rw [hbt2]; simp only [jNumC, jDig, Bool.or_eq_false_iff, beq_eq_false_iff_ne, ne_eq, Bool.and_eq_false_iff, decide_eq_false_iff_not, ← hLx]; exact ⟨by omega, fun h => hx0 (by rw [hLx, h]; rfl), fun h => hx1 (by rw [hLx, h]; rfl), fun h => hx2 (by rw [hLx, h]; rfl), fun h => hx3 (by rw [hLx, h]; rfl), fun h => hx4 (by rw [hLx, h]; rfl)⟩
    clear hbt2 hx0 hx1 hx2 hx3 hx4
    by_cases h1 : 48 ≤ L
    ·have d1 : decide ((48 : Int) ≤ (L : Int)) = true := decide_eq_true (by omega)
     have d2 : decide ((L : Int) ≤ 57) = false := decide_eq_false (by omega)
     clear h48 h1 hLx
     go_wp2
     go_meet
     exact ⟨by rw [hb]; rfl, rfl⟩
    ·have d1 : decide ((48 : Int) ≤ (L : Int)) = false := decide_eq_false (by omega)
     clear h48 h1 hLx
     go_wp2
     go_meet
     exact ⟨by rw [hb]; rfl, rfl⟩
   ·have hb : bt = false := by rw [hbt.out]; simp [hlt]
    have hLx : L = 256 := by rw [hLk.out, jLook_end (List.getElem?_eq_none (by rw [hl.out]; omega))]
    have d1 : decide ((48 : Int) ≤ (L : Int)) = true := decide_eq_true (by omega)
    have d2 : decide ((L : Int) ≤ 57) = false := decide_eq_false (by omega)
    have n0 : ((L : Int) != 45) = true := by rw [bne_iff_ne]; omega
    have n1 : ((L : Int) != 43) = true := by rw [bne_iff_ne]; omega
    have n2 : ((L : Int) != 46) = true := by rw [bne_iff_ne]; omega
    have n3 : ((L : Int) != 101) = true := by rw [bne_iff_ne]; omega
    have n4 : ((L : Int) != 69) = true := by rw [bne_iff_ne]; omega
    clear hbt hgo hend hLx
    go_wp2
    go_meet
    exact ⟨by rw [hb]; rfl, rfl⟩
  case rest =>
   obtain ⟨rfl, rfl⟩ := hcut
   have hFd := hF.drewN kk
   clear hF hbt
   cases bt with
   | true =>
    obtain ⟨hlt, hgo2⟩ := hgo.out rfl
    replace hgo2 := box hgo2
    go_wp2_with (first | (with_reducible refine lst (by with_unfolding_all rfl) (wp_fld1 hFd Tryz.underlying3 rfl (by with_unfolding_all exact ⟨_, rfl, rfl⟩) rfl ?_)) | (with_reducible refine lst (by with_unfolding_all rfl) (wp_fld1 hFd Tryz.underlying22 rfl (by with_unfolding_all exact ⟨_, rfl, rfl⟩) rfl ?_)) | ((with_reducible refine lst (by with_unfolding_all rfl) (wp_fst1 hFd (by with_unfolding_all exact ⟨_, _, rfl, rfl, rfl⟩) (by kernel_rfl) rfl rfl (by rw [rrL_len]; decide) (rrL_at (v := (p' : Int) + 1) (q := p' + 1) (by omega)) ?_)); intro w3 hF3 hz3))
    go_roundg (n - (p' + 1))
    case rel => exact ⟨p' + 1, by omega, by omega, box rfl, hgo2, hF3⟩
    case measure => have := hk.out; omega
   | false =>
    have hE := box (hend.out rfl)
    clear hgo hend hk hj
    obtain ⟨sg, hsg⟩ : ∃ sg, sg = (b.take p').drop p := ⟨_, rfl⟩
    have hsl : sg.length = p' - p := by rw [hsg, List.length_drop, List.length_take, hl.out]; omega
    have hbs : Box ((b.drop p).takeWhile jNumC = sg) := box (by rw [jNum_sign, hE.out, hsg, List.drop_take])
    have hlt : p < p' := by
     rcases Nat.lt_or_ge p p' with h | h
     ·exact h
     ·exfalso
      have he := hE.out
      obtain rfl : p = p' := by omega
      rw [jNumEnd_go hx0.out hx0n.out] at he
      unfold jNumEnd at he
      omega
    have hs0 : Box (sg[0]? = some x0) := box (by rw [hsg, List.getElem?_drop, List.getElem?_take, if_pos (by omega)]; exact hx0.out)
    replace hsg := box hsg
    have hrc := box (fun w' (h : Rd w' (· < B) A 1 n (b.map bv)) => by
     have h2 := cut_rd (m := c) h hpp hp' (show p' ≤ c by omega)
     rw [← hsg.out] at h2
     exact h2)
    have hjn : Box (jNumber b p = match jNum sg with
      | none => .error (p, 63)
      | some x => .ok (x, p')) := box (by
     unfold jNumber
     simp only [hbs.out]
     cases jNum sg with
     | none => rfl
     | some x => show Except.ok (x, p + sg.length) = _; rw [show p + sg.length = p' by omega])
    go_upto_region 5 with fail
    have hFe := hFd.drew
    clear hFd
    have hFd := hFe
    clear hFe
    refine wp_region_held (S := fun w' => w'.heap[g]? = some (.cells (List.toArray (rrL A n c p' 0 0 m)) 146 (0, 0))) (by kernel_rfl) ?_
    change wpAnyH _ _ _ _ _ _ _ _ (World.drew _)
    refine tkp 0 (hFd.blk (i := 1) rfl) ?_
    (try simp only [Act.put, List.setIfInBounds_toArray, List.set_cons_zero, List.set_cons_succ])
    refine tkp 1 (hFd.blk (i := 1) rfl) ?_
    (try simp only [Act.put, List.setIfInBounds_toArray, List.set_cons_zero, List.set_cons_succ])
    refine tkp 2 (hFd.blk (i := 1) rfl) ?_
    (try simp only [Act.put, List.setIfInBounds_toArray, List.set_cons_zero, List.set_cons_succ])
    refine tky 3 (y := yi_fld (by with_unfolding_all rfl) (fun _ h => h) Tryz.underlying22 rfl (by with_unfolding_all exact ⟨_, rfl, rfl⟩) rfl) (s := (hFd.blk (i := 1) rfl)) (h := ?_)
    (try simp only [Act.put, List.setIfInBounds_toArray, List.set_cons_zero, List.set_cons_succ])
    refine tkp 4 (hFd.blk (i := 1) rfl) ?_
    (try simp only [Act.put, List.setIfInBounds_toArray, List.set_cons_zero, List.set_cons_succ])
    refine tkp 5 (hFd.blk (i := 1) rfl) ?_
    (try simp only [Act.put, List.setIfInBounds_toArray, List.set_cons_zero, List.set_cons_succ])
    refine tkp 6 (hFd.blk (i := 1) rfl) ?_
    (try simp only [Act.put, List.setIfInBounds_toArray, List.set_cons_zero, List.set_cons_succ])
    refine tkp 7 (hFd.blk (i := 1) rfl) ?_
    (try simp only [Act.put, List.setIfInBounds_toArray, List.set_cons_zero, List.set_cons_succ])
    refine tky 8 (y := yi_fld (by with_unfolding_all rfl) (fun _ h => h) Tryz.underlying3 rfl (by with_unfolding_all exact ⟨_, rfl, rfl⟩) rfl) (s := (hFd.blk (i := 1) rfl)) (h := ?_)
    (try simp only [Act.put, List.setIfInBounds_toArray, List.set_cons_zero, List.set_cons_succ])
    refine tky 9 (y := yi_cut (by with_unfolding_all rfl) T_u8 (lo := some (p : Int)) (hi := some (p' : Int)) (mx := none) (l := p) (h := p') (m := c) (by with_unfolding_all exact ⟨_, _, _, _, .i64, .i64, .i64, rfl, rfl, rfl, rfl, rfl⟩) (by simp; done) (by simp; done) (by simp; done) (by simp) hpp hp' (by omega) (by omega)) (s := (hFd.blk (i := 1) rfl)) (h := ?_)
    (try simp only [Act.put, List.setIfInBounds_toArray, List.set_cons_zero, List.set_cons_succ])
    refine tkp 10 (hFd.blk (i := 1) rfl) ?_
    (try simp only [Act.put, List.setIfInBounds_toArray, List.set_cons_zero, List.set_cons_succ])
    refine wpAnyH_done (by kernel_rfl) ?_ _
    generalize hw3 : World.drew _ = w3 at hFd ⊢
    clear hw3
    have hF := hFd
    have hsr := hrc.out w3 (hF.rdB hg hB hr)
    obtain ⟨k0, hk0⟩ : ∃ k, k = p' - p := ⟨_, rfl⟩
    obtain ⟨A0, hA0⟩ : ∃ A0, A0 = cutA A p c := ⟨_, rfl⟩
    obtain ⟨c0, hc0⟩ : ∃ c0, c0 = c - p := ⟨_, rfl⟩
    rw [← hk0] at hsl hsr
    rw [← hA0] at hsr
    rw [← hk0, ← hA0, ← hc0]
    have hkc : k0 ≤ c0 := by omega
    have hk00 : 0 < k0 := by omega
    have hk65 : k0 ≤ 65536 := by omega
    replace hsl := box hsl
    replace hk0 := box hk0
    replace hA0 := box hA0
    replace hc0 := box hc0
    clear hFd hrc hbs hE
    by_cases h45 : x0 = 45
    ·subst h45
     have hneg : Box (true = (sg.head? == some 45)) := box (by rw [List.head?_eq_getElem?, hs0.out]; rfl)
     go_upto_region 9 with (first | (with_reducible refine lst (by with_unfolding_all rfl) (wp_indexAddr T_u8 hsr (by with_unfolding_all exact ⟨_, _, _, _, rfl, rfl, rfl⟩) (by omega) (by omega) ?_)) | (with_reducible refine lst (by with_unfolding_all rfl) (wp_loadC hsr hs0 Tryz.underlying5 rfl (by with_unfolding_all exact ⟨_, rfl, rfl⟩) (by first | (simp; done) | (simp; omega) | omega) ?_)) | ((with_reducible refine lst (by with_unfolding_all rfl) (wp_cutB T_u8 hsr hkc (lo := (some 1)) (hi := none) (mx := none) ?_ (l := 1) (h := k0) (m := c0) (by first | (simp; done) | (simp; omega)) (by first | (simp; done) | (simp; omega)) (by first | (simp; done) | (simp; omega)) (by simp) (by omega) (by omega) (by omega) (by omega) ?_)); exact ⟨_, _, _, _, .i64, .i64, .i64, rfl, rfl, rfl, rfl, rfl⟩; intro A2 c2 hr2 hc2 hc3))
     obtain ⟨ss, hss'⟩ : ∃ s, s = (sg.take k0).drop 1 := ⟨_, rfl⟩
     rw [← hss'] at hr2
     have hss : ss = if true = true then sg.tail else sg := by rw [hss', List.take_of_length_le (by rw [hsl.out]; exact Nat.le_refl _), List.drop_one]; rfl
     obtain ⟨k5, hk5'⟩ : ∃ k, k = k0 - 1 := ⟨_, rfl⟩
     rw [← hk5'] at hr2
     rw [← hk5']
     have hs5 := hr2
     have hk565 : k5 ≤ 65536 := by omega
     clear hr2 hsr hss' hk5'
     have hjp := box (jNum_parts sg true ss hneg.out hss)
     replace hss := box hss
     have hk5 : ss.length = k5 := by have := hs5.bytes_len; exact this
     replace hk5 := box hk5
     obtain ⟨ok0, hok⟩ : ∃ o, o = decide (jOk0 true ss) := ⟨_, rfl⟩
     replace hok := box hok
     go_upto_region 10 with fail
     go_cut [8] (fun s8 wx => s8 = .bool ok0 ∧ wx = w3)
     case first =>
      cases hsc : ss with
      | nil =>
       have hk0 : k5 = 0 := by rw [← hk5.out, hsc]; rfl
       subst hk0
       have ho : ok0 = false := by rw [hok.out, hsc]; rfl
       clear hsc
       go_wp2
       go_meet
       exact ⟨by simp [ho], rfl⟩
      | cons y0 st =>
       have hkl : k5 = st.length + 1 := by rw [← hk5.out, hsc]; rfl
       have hk0 : 0 < k5 := by omega
       have hy0 : Box (ss[0]? = some y0) := box (by rw [hsc]; rfl)
       have hho : Box (ok0 = decide (st.length + 1 ≤ 16 ∧ (y0 ≠ 48 ∨ st.length = 0 ∧ False))) := box (by rw [hok.out, hsc]; unfold jOk0; congr 1; simp)
       clear hsc hok
       by_cases h16 : k5 ≤ 16
       ·have d16 : decide ((k5 : Int) ≤ 16) = true := decide_eq_true (by omega)
        by_cases hy48 : y0 = 48
        ·subst hy48
         by_cases h1 : k5 = 1
         ·have e1 : ((k5 : Int) == 1) = true := by rw [beq_iff_eq]; omega
          have ho : ok0 = false := hho.out.trans (decide_eq_false (fun h => h.2.elim (fun h => h rfl) (fun h => h.2)))
          replace h1 := box h1
          replace hkl := box hkl
          go_wp2_with (first | (with_reducible refine lst (by with_unfolding_all rfl) (wp_indexAddr T_u8 hs5 (by with_unfolding_all exact ⟨_, _, _, _, rfl, rfl, rfl⟩) (by omega) (by omega) ?_)) | (with_reducible refine lst (by with_unfolding_all rfl) (wp_loadC hs5 hy0 Tryz.underlying5 rfl (by with_unfolding_all exact ⟨_, rfl, rfl⟩) (by first | (simp; done) | (simp; omega) | omega) ?_)))
          go_meet
          exact ⟨by simp [ho], rfl⟩
         ·have e1 : ((k5 : Int) == 1) = false := by rw [beq_eq_false_iff_ne]; omega
          have ho : ok0 = false := hho.out.trans (decide_eq_false (by rintro ⟨_, h | h⟩; exact h rfl; omega))
          replace h1 := box h1
          replace hkl := box hkl
          go_wp2_with (first | (with_reducible refine lst (by with_unfolding_all rfl) (wp_indexAddr T_u8 hs5 (by with_unfolding_all exact ⟨_, _, _, _, rfl, rfl, rfl⟩) (by omega) (by omega) ?_)) | (with_reducible refine lst (by with_unfolding_all rfl) (wp_loadC hs5 hy0 Tryz.underlying5 rfl (by with_unfolding_all exact ⟨_, rfl, rfl⟩) (by first | (simp; done) | (simp; omega) | omega) ?_)))
          go_meet
          exact ⟨by simp [ho], rfl⟩
        ·have e48 : ((y0.toNat : Int) != 48) = true := u8_ne' hy48
         have ho : ok0 = true := hho.out.trans (decide_eq_true (⟨by omega, .inl hy48⟩))
         replace hkl := box hkl
         go_wp2_with (first | (with_reducible refine lst (by with_unfolding_all rfl) (wp_indexAddr T_u8 hs5 (by with_unfolding_all exact ⟨_, _, _, _, rfl, rfl, rfl⟩) (by omega) (by omega) ?_)) | (with_reducible refine lst (by with_unfolding_all rfl) (wp_loadC hs5 hy0 Tryz.underlying5 rfl (by with_unfolding_all exact ⟨_, rfl, rfl⟩) (by first | (simp; done) | (simp; omega) | omega) ?_)))
         go_meet
         exact ⟨by simp [ho], rfl⟩
       ·have d16 : decide ((k5 : Int) ≤ 16) = false := decide_eq_false (by omega)
        have ho : ok0 = false := hho.out.trans (decide_eq_false (by rintro ⟨h, _⟩; omega))
        replace hkl := box hkl
        go_wp2_with (first | (with_reducible refine lst (by with_unfolding_all rfl) (wp_indexAddr T_u8 hs5 (by with_unfolding_all exact ⟨_, _, _, _, rfl, rfl, rfl⟩) (by omega) (by omega) ?_)) | (with_reducible refine lst (by with_unfolding_all rfl) (wp_loadC hs5 hy0 Tryz.underlying5 rfl (by with_unfolding_all exact ⟨_, rfl, rfl⟩) (by first | (simp; done) | (simp; omega) | omega) ?_)))
        go_meet
        exact ⟨by simp [ho], rfl⟩
     case rest =>
      obtain ⟨rfl, rfl⟩ := hcut
      go_wp2_with fail
      go_loopg [7, 8, 9] k5 (fun gk a o s wr => ∃ (i : Nat) (z : Int) (ok : Bool), i ≤ k5 ∧ Box (gk = k5 - i) ∧ a = .int .i64 z ∧ o = .bool ok ∧ s = .int .i64 (i : Int) ∧ -100000000000000000 ≤ z ∧ z ≤ 100000000000001000 ∧ Box (ok = true → jOk0 true ss ∧ (ss.take i).all jDig = true ∧ z = (jDigs (ss.take i) : Int)) ∧ Box (ok = false → ¬ (jOk0 true ss ∧ ss.all jDig = true)) ∧ wr = wc)
      case atStart => exact ⟨0, 0, ok0, by omega, box rfl, rfl, rfl, rfl, by omega, by omega, box (fun h => ⟨of_decide_eq_true (hok.out.symm.trans h), rfl, rfl⟩), box (fun h hh => by have := of_decide_eq_false (hok.out.symm.trans h); exact this hh.1), rfl⟩
      case round =>
       obtain ⟨i, z, ok, hi, hk, rfl, rfl, rfl, hz0, hz1, hT, hN, rfl⟩ := hrel
       have hkf : Box (gk = k5 - i) := hk
       clear hk
       cases ok with
       | true =>
        obtain ⟨hto, hta, htz⟩ := hT.out rfl
        have hl16 : ss.length ≤ 16 := hto.2.1
        have hz16 := jDigs_16 hta (by rw [List.length_take]; omega)
        rw [hk5.out] at hl16
        have hz2 : 0 ≤ z ∧ z < 10000000000000000 := by omega
        clear hz16 hT
        replace hz0 := box hz0
        replace hz1 := box hz1
        replace hto := box hto
        replace hta := box hta
        replace htz := box htz
        by_cases hlt : i < k5
        ·obtain ⟨x, hx'⟩ : ∃ x, ss[i]? = some x := ⟨ss[i]'(by rw [hk5.out]; exact hlt), by simp⟩
         have hx := box hx'
         have hxb := x.toNat_lt
         have htk : Box (ss.take (i + 1) = ss.take i ++ [x]) := box (by rw [List.take_add_one, hx']; rfl)
         have hmem : Box (x ∈ ss) := box (List.mem_of_getElem? hx')
         clear hx'
         have hzn : Box (-100000000000000000 ≤ 10 * z + (x.toNat : Int) - 48 ∧ 10 * z + (x.toNat : Int) - 48 ≤ 100000000000001000) := box (by omega)
         have hzs : Box (0 ≤ z) := box hz2.1
         have hz3 := hz2.1
         have hz4 := hz2.2
         clear hz2
         by_cases h48 : 48 ≤ x.toNat
         ·have d1 : decide ((48 : Int) ≤ (x.toNat : Int)) = true := decide_eq_true (by omega)
          by_cases h57 : x.toNat ≤ 57
          ·have d2 : decide ((x.toNat : Int) ≤ 57) = true := decide_eq_true (by omega)
           go_wp2_with (first | (with_reducible refine lst (by with_unfolding_all rfl) (wp_indexAddr T_u8 hs5 (by with_unfolding_all exact ⟨_, _, _, _, rfl, rfl, rfl⟩) (by omega) (by omega) ?_)) | (with_reducible refine lst (by with_unfolding_all rfl) (wp_loadC hs5 hx Tryz.underlying5 rfl (by with_unfolding_all exact ⟨_, rfl, rfl⟩) (by first | (simp; done) | (simp; omega) | omega) ?_)))
           go_roundg (k5 - (i + 1))
           case rel => exact ⟨i + 1, 10 * z + (x.toNat : Int) - 48, true, by omega, box rfl, rfl, rfl, by go_num, hzn.out.1, hzn.out.2, box (fun _ => ⟨hto.out, by rw [htk.out, List.all_append, hta.out]; simp [jDig, h48, h57], by rw [htk.out, jDigs_snoc, htz.out]; have := hzs.out; omega⟩), box (fun h => by cases h), rfl⟩
           case measure => have := hkf.out; omega
          ·have d2 : decide ((x.toNat : Int) ≤ 57) = false := decide_eq_false (by omega)
           go_wp2_with (first | (with_reducible refine lst (by with_unfolding_all rfl) (wp_indexAddr T_u8 hs5 (by with_unfolding_all exact ⟨_, _, _, _, rfl, rfl, rfl⟩) (by omega) (by omega) ?_)) | (with_reducible refine lst (by with_unfolding_all rfl) (wp_loadC hs5 hx Tryz.underlying5 rfl (by with_unfolding_all exact ⟨_, rfl, rfl⟩) (by first | (simp; done) | (simp; omega) | omega) ?_)))
           go_roundg (k5 - (i + 1))
           case rel => exact ⟨i + 1, 10 * z + (x.toNat : Int) - 48, false, by omega, box rfl, rfl, rfl, by go_num, hzn.out.1, hzn.out.2, box (fun h => by cases h), box (fun _ hh => by have h9 := List.all_eq_true.1 hh.2 x hmem.out; unfold jDig at h9; rw [Bool.and_eq_true, decide_eq_true_eq, decide_eq_true_eq] at h9; omega), rfl⟩
           case measure => have := hkf.out; omega
         ·have d1 : decide ((48 : Int) ≤ (x.toNat : Int)) = false := decide_eq_false (by omega)
          go_wp2_with (first | (with_reducible refine lst (by with_unfolding_all rfl) (wp_indexAddr T_u8 hs5 (by with_unfolding_all exact ⟨_, _, _, _, rfl, rfl, rfl⟩) (by omega) (by omega) ?_)) | (with_reducible refine lst (by with_unfolding_all rfl) (wp_loadC hs5 hx Tryz.underlying5 rfl (by with_unfolding_all exact ⟨_, rfl, rfl⟩) (by first | (simp; done) | (simp; omega) | omega) ?_)))
          go_roundg (k5 - (i + 1))
          case rel => exact ⟨i + 1, 10 * z + (x.toNat : Int) - 48, false, by omega, box rfl, rfl, rfl, by go_num, hzn.out.1, hzn.out.2, box (fun h => by cases h), box (fun _ hh => by have h9 := List.all_eq_true.1 hh.2 x hmem.out; unfold jDig at h9; rw [Bool.and_eq_true, decide_eq_true_eq, decide_eq_true_eq] at h9; omega), rfl⟩
          case measure => have := hkf.out; omega
        ·obtain rfl : k5 = i := by omega
         have hall : ss.take k5 = ss := List.take_of_length_le (by rw [hk5.out]; exact Nat.le_refl _)
         have hta2 := hta.out
         have htz2 := htz.out
         rw [hall] at hta2 htz2
         clear hall
         by_cases hbig : 9007199254740991 < z
         ·have d1 : decide ((9007199254740991 : Int) < z) = true := decide_eq_true hbig
          have hend : Box (jNumber b p = .error (p, 63)) := box (by rw [hjn.out, hjp.out, if_neg (by rintro ⟨_, _, h⟩; omega)])
          replace hbig := box hbig
          clear hta2 htz2 hN
          go_wp2_with fail
          refine (rfail_ok g A n c p' m (p, 63) _ (hF.blk (i := 1) rfl)).mono ?_
          rintro e w4 ⟨rfl, h4⟩
          have hF4 := hF.putF (i := 1) rfl h4
          simp only [List.set_cons_zero, List.set_cons_succ] at hF4
          go_wp2_with (first | (with_reducible refine lst (by with_unfolding_all rfl) (wp_fbuild Tryz.underlying51 (z := .agg (List.toArray vl0)) (by kernel_rfl) (pl := vlP) (by kernel_rfl) (cs := vl0) rfl (vs := []) (by with_unfolding_all rfl) (by with_unfolding_all rfl) ?_)) | ((with_reducible refine lst (by with_unfolding_all rfl) (wp_fstA0 hF4 (by with_unfolding_all exact ⟨_, _, rfl, rfl, rfl⟩) (by rw [vlL_len]; kernel_rfl) vlL_one vlL_fit vlL_spl ?_)); intro w5 hF5 hz5))
          exact bodyPost_ret (results_cellF rfl _ hF5 (i := 0) rfl rfl Tryz.underlying51 rfl (by rw [vlL_len]; kernel_rfl)) rfl (by
           unfold RVal jNumV
           rw [hend.out]
           exact ⟨_, [.rd none 1 0 [], .rd none 5 0 []], rfl, .null, _, _, VT.leaf, ((hF5.tail.pushNone 5).pushNone 1).perm ((List.Perm.swap _ _ _).cons _ |>.trans (List.Perm.swap _ _ _) |>.trans ((List.Perm.refl _)))⟩)
         ·have d1 : decide ((9007199254740991 : Int) < z) = false := decide_eq_false hbig
          have hend : Box (jNumber b p = .ok (-z, p')) := box (by rw [hjn.out, hjp.out, if_pos ⟨hto.out, hta2, by omega⟩, htz2]; rfl)
          replace hbig := box hbig
          clear hta2 htz2 hN
          have hwn : IntKind.i64.wrap (-z) = -z := by simp [IntKind.wrap, IntKind.bits, IntKind.signed]; split <;> omega
          go_wp2_with (first | (with_reducible refine lst (by with_unfolding_all rfl) (wp_fbuild Tryz.underlying51 (z := .agg (List.toArray vl0)) (by kernel_rfl) (pl := vlP) (by kernel_rfl) (cs := (vlL 3 (-z) ⟨#[]⟩ (.slice none 0 0) (.slice none 0 0))) rfl (vs := [(0, .int .i64 3), (1, .int .i64 (-z))]) (by with_unfolding_all rfl) (by with_unfolding_all rfl) ?_)) | ((with_reducible refine lst (by with_unfolding_all rfl) (wp_fstA0 hF (by with_unfolding_all exact ⟨_, _, rfl, rfl, rfl⟩) (by rw [vlL_len]; kernel_rfl) vlL_one vlL_fit vlL_spl ?_)); intro w5 hF5 hz5))
          exact bodyPost_ret (results_cellF rfl _ hF5 (i := 0) rfl rfl Tryz.underlying51 rfl (by rw [vlL_len]; kernel_rfl)) rfl (by
           unfold RVal jNumV
           rw [hend.out]
           exact ⟨_, [.rd none 1 0 [], .rd none 5 0 []], rfl, VT.leaf, ((hF5.tail.pushNone 5).pushNone 1).perm ((List.Perm.swap _ _ _).cons _ |>.trans (List.Perm.swap _ _ _))⟩)
       | false =>
        have hend : Box (jNumber b p = .error (p, 63)) := box (by rw [hjn.out, hjp.out, if_neg (by rintro ⟨h1, h2, _⟩; exact hN.out rfl ⟨h1, h2⟩)])
        clear hT hN
        by_cases hlt : i < k5
        ·skip
         go_wp2_with fail
         refine (rfail_ok g A n c p' m (p, 63) _ (hF.blk (i := 1) rfl)).mono ?_
         rintro e w4 ⟨rfl, h4⟩
         have hF4 := hF.putF (i := 1) rfl h4
         simp only [List.set_cons_zero, List.set_cons_succ] at hF4
         go_wp2_with (first | (with_reducible refine lst (by with_unfolding_all rfl) (wp_fbuild Tryz.underlying51 (z := .agg (List.toArray vl0)) (by kernel_rfl) (pl := vlP) (by kernel_rfl) (cs := vl0) rfl (vs := []) (by with_unfolding_all rfl) (by with_unfolding_all rfl) ?_)) | ((with_reducible refine lst (by with_unfolding_all rfl) (wp_fstA0 hF4 (by with_unfolding_all exact ⟨_, _, rfl, rfl, rfl⟩) (by rw [vlL_len]; kernel_rfl) vlL_one vlL_fit vlL_spl ?_)); intro w5 hF5 hz5))
         exact bodyPost_ret (results_cellF rfl _ hF5 (i := 0) rfl rfl Tryz.underlying51 rfl (by rw [vlL_len]; kernel_rfl)) rfl (by
          unfold RVal jNumV
          rw [hend.out]
          exact ⟨_, [.rd none 1 0 [], .rd none 5 0 []], rfl, .null, _, _, VT.leaf, ((hF5.tail.pushNone 5).pushNone 1).perm ((List.Perm.swap _ _ _).cons _ |>.trans (List.Perm.swap _ _ _) |>.trans ((List.Perm.refl _)))⟩)
        ·skip
         go_wp2_with fail
         refine (rfail_ok g A n c p' m (p, 63) _ (hF.blk (i := 1) rfl)).mono ?_
         rintro e w4 ⟨rfl, h4⟩
         have hF4 := hF.putF (i := 1) rfl h4
         simp only [List.set_cons_zero, List.set_cons_succ] at hF4
         go_wp2_with (first | (with_reducible refine lst (by with_unfolding_all rfl) (wp_fbuild Tryz.underlying51 (z := .agg (List.toArray vl0)) (by kernel_rfl) (pl := vlP) (by kernel_rfl) (cs := vl0) rfl (vs := []) (by with_unfolding_all rfl) (by with_unfolding_all rfl) ?_)) | ((with_reducible refine lst (by with_unfolding_all rfl) (wp_fstA0 hF4 (by with_unfolding_all exact ⟨_, _, rfl, rfl, rfl⟩) (by rw [vlL_len]; kernel_rfl) vlL_one vlL_fit vlL_spl ?_)); intro w5 hF5 hz5))
         exact bodyPost_ret (results_cellF rfl _ hF5 (i := 0) rfl rfl Tryz.underlying51 rfl (by rw [vlL_len]; kernel_rfl)) rfl (by
          unfold RVal jNumV
          rw [hend.out]
          exact ⟨_, [.rd none 1 0 [], .rd none 5 0 []], rfl, .null, _, _, VT.leaf, ((hF5.tail.pushNone 5).pushNone 1).perm ((List.Perm.swap _ _ _).cons _ |>.trans (List.Perm.swap _ _ _) |>.trans ((List.Perm.refl _)))⟩)
    ·have n45 : ((x0.toNat : Int) == 45) = false := u8_ne h45
     have hneg : Box (false = (sg.head? == some 45)) := box (by rw [List.head?_eq_getElem?, hs0.out]; symm; rw [beq_eq_false_iff_ne]; intro h; injection h with h; exact h45 h)
     go_upto_region 9 with (first | (with_reducible refine lst (by with_unfolding_all rfl) (wp_indexAddr T_u8 hsr (by with_unfolding_all exact ⟨_, _, _, _, rfl, rfl, rfl⟩) (by omega) (by omega) ?_)) | (with_reducible refine lst (by with_unfolding_all rfl) (wp_loadC hsr hs0 Tryz.underlying5 rfl (by with_unfolding_all exact ⟨_, rfl, rfl⟩) (by first | (simp; done) | (simp; omega) | omega) ?_)))
     obtain ⟨ss, hss'⟩ : ∃ s, s = sg := ⟨_, rfl⟩
     rw [← hss'] at hsr
     have hss : ss = if false = true then sg.tail else sg := by rw [hss']; rfl
     obtain ⟨k5, hk5'⟩ : ∃ k, k = k0 := ⟨_, rfl⟩
     rw [← hk5'] at hsr
     rw [← hk5']
     have hs5 := hsr
     have hk565 : k5 ≤ 65536 := by omega
     clear hsr hss' hk5'
     replace h45 := box h45
     have hjp := box (jNum_parts sg false ss hneg.out hss)
     replace hss := box hss
     have hk5 : ss.length = k5 := by have := hs5.bytes_len; exact this
     replace hk5 := box hk5
     obtain ⟨ok0, hok⟩ : ∃ o, o = decide (jOk0 false ss) := ⟨_, rfl⟩
     replace hok := box hok
     go_upto_region 10 with fail
     go_cut [8] (fun s8 wx => s8 = .bool ok0 ∧ wx = w3)
     case first =>
      cases hsc : ss with
      | nil =>
       have hk0 : k5 = 0 := by rw [← hk5.out, hsc]; rfl
       subst hk0
       have ho : ok0 = false := by rw [hok.out, hsc]; rfl
       clear hsc
       go_wp2
       go_meet
       exact ⟨by simp [ho], rfl⟩
      | cons y0 st =>
       have hkl : k5 = st.length + 1 := by rw [← hk5.out, hsc]; rfl
       have hk0 : 0 < k5 := by omega
       have hy0 : Box (ss[0]? = some y0) := box (by rw [hsc]; rfl)
       have hho : Box (ok0 = decide (st.length + 1 ≤ 16 ∧ (y0 ≠ 48 ∨ st.length = 0 ∧ True))) := box (by rw [hok.out, hsc]; unfold jOk0; congr 1; simp)
       clear hsc hok
       by_cases h16 : k5 ≤ 16
       ·have d16 : decide ((k5 : Int) ≤ 16) = true := decide_eq_true (by omega)
        by_cases hy48 : y0 = 48
        ·subst hy48
         by_cases h1 : k5 = 1
         ·have e1 : ((k5 : Int) == 1) = true := by rw [beq_iff_eq]; omega
          have ho : ok0 = true := hho.out.trans (decide_eq_true (⟨by omega, .inr ⟨by omega, trivial⟩⟩))
          replace h1 := box h1
          replace hkl := box hkl
          go_wp2_with (first | (with_reducible refine lst (by with_unfolding_all rfl) (wp_indexAddr T_u8 hs5 (by with_unfolding_all exact ⟨_, _, _, _, rfl, rfl, rfl⟩) (by omega) (by omega) ?_)) | (with_reducible refine lst (by with_unfolding_all rfl) (wp_loadC hs5 hy0 Tryz.underlying5 rfl (by with_unfolding_all exact ⟨_, rfl, rfl⟩) (by first | (simp; done) | (simp; omega) | omega) ?_)))
          go_meet
          exact ⟨by simp [ho], rfl⟩
         ·have e1 : ((k5 : Int) == 1) = false := by rw [beq_eq_false_iff_ne]; omega
          have ho : ok0 = false := hho.out.trans (decide_eq_false (by rintro ⟨_, h | h⟩; exact h rfl; omega))
          replace h1 := box h1
          replace hkl := box hkl
          go_wp2_with (first | (with_reducible refine lst (by with_unfolding_all rfl) (wp_indexAddr T_u8 hs5 (by with_unfolding_all exact ⟨_, _, _, _, rfl, rfl, rfl⟩) (by omega) (by omega) ?_)) | (with_reducible refine lst (by with_unfolding_all rfl) (wp_loadC hs5 hy0 Tryz.underlying5 rfl (by with_unfolding_all exact ⟨_, rfl, rfl⟩) (by first | (simp; done) | (simp; omega) | omega) ?_)))
          go_meet
          exact ⟨by simp [ho], rfl⟩
        ·have e48 : ((y0.toNat : Int) != 48) = true := u8_ne' hy48
         have ho : ok0 = true := hho.out.trans (decide_eq_true (⟨by omega, .inl hy48⟩))
         replace hkl := box hkl
         go_wp2_with (first | (with_reducible refine lst (by with_unfolding_all rfl) (wp_indexAddr T_u8 hs5 (by with_unfolding_all exact ⟨_, _, _, _, rfl, rfl, rfl⟩) (by omega) (by omega) ?_)) | (with_reducible refine lst (by with_unfolding_all rfl) (wp_loadC hs5 hy0 Tryz.underlying5 rfl (by with_unfolding_all exact ⟨_, rfl, rfl⟩) (by first | (simp; done) | (simp; omega) | omega) ?_)))
         go_meet
         exact ⟨by simp [ho], rfl⟩
       ·have d16 : decide ((k5 : Int) ≤ 16) = false := decide_eq_false (by omega)
        have ho : ok0 = false := hho.out.trans (decide_eq_false (by rintro ⟨h, _⟩; omega))
        replace hkl := box hkl
        go_wp2_with (first | (with_reducible refine lst (by with_unfolding_all rfl) (wp_indexAddr T_u8 hs5 (by with_unfolding_all exact ⟨_, _, _, _, rfl, rfl, rfl⟩) (by omega) (by omega) ?_)) | (with_reducible refine lst (by with_unfolding_all rfl) (wp_loadC hs5 hy0 Tryz.underlying5 rfl (by with_unfolding_all exact ⟨_, rfl, rfl⟩) (by first | (simp; done) | (simp; omega) | omega) ?_)))
        go_meet
        exact ⟨by simp [ho], rfl⟩
     case rest =>
      obtain ⟨rfl, rfl⟩ := hcut
      go_wp2_with fail
      go_loopg [7, 8, 9] k5 (fun gk a o s wr => ∃ (i : Nat) (z : Int) (ok : Bool), i ≤ k5 ∧ Box (gk = k5 - i) ∧ a = .int .i64 z ∧ o = .bool ok ∧ s = .int .i64 (i : Int) ∧ -100000000000000000 ≤ z ∧ z ≤ 100000000000001000 ∧ Box (ok = true → jOk0 false ss ∧ (ss.take i).all jDig = true ∧ z = (jDigs (ss.take i) : Int)) ∧ Box (ok = false → ¬ (jOk0 false ss ∧ ss.all jDig = true)) ∧ wr = wc)
      case atStart => exact ⟨0, 0, ok0, by omega, box rfl, rfl, rfl, rfl, by omega, by omega, box (fun h => ⟨of_decide_eq_true (hok.out.symm.trans h), rfl, rfl⟩), box (fun h hh => by have := of_decide_eq_false (hok.out.symm.trans h); exact this hh.1), rfl⟩
      case round =>
       obtain ⟨i, z, ok, hi, hk, rfl, rfl, rfl, hz0, hz1, hT, hN, rfl⟩ := hrel
       have hkf : Box (gk = k5 - i) := hk
       clear hk
       cases ok with
       | true =>
        obtain ⟨hto, hta, htz⟩ := hT.out rfl
        have hl16 : ss.length ≤ 16 := hto.2.1
        have hz16 := jDigs_16 hta (by rw [List.length_take]; omega)
        rw [hk5.out] at hl16
        have hz2 : 0 ≤ z ∧ z < 10000000000000000 := by omega
        clear hz16 hT
        replace hz0 := box hz0
        replace hz1 := box hz1
        replace hto := box hto
        replace hta := box hta
        replace htz := box htz
        by_cases hlt : i < k5
        ·obtain ⟨x, hx'⟩ : ∃ x, ss[i]? = some x := ⟨ss[i]'(by rw [hk5.out]; exact hlt), by simp⟩
         have hx := box hx'
         have hxb := x.toNat_lt
         have htk : Box (ss.take (i + 1) = ss.take i ++ [x]) := box (by rw [List.take_add_one, hx']; rfl)
         have hmem : Box (x ∈ ss) := box (List.mem_of_getElem? hx')
         clear hx'
         have hzn : Box (-100000000000000000 ≤ 10 * z + (x.toNat : Int) - 48 ∧ 10 * z + (x.toNat : Int) - 48 ≤ 100000000000001000) := box (by omega)
         have hzs : Box (0 ≤ z) := box hz2.1
         have hz3 := hz2.1
         have hz4 := hz2.2
         clear hz2
         by_cases h48 : 48 ≤ x.toNat
         ·have d1 : decide ((48 : Int) ≤ (x.toNat : Int)) = true := decide_eq_true (by omega)
          by_cases h57 : x.toNat ≤ 57
          ·have d2 : decide ((x.toNat : Int) ≤ 57) = true := decide_eq_true (by omega)
           go_wp2_with (first | (with_reducible refine lst (by with_unfolding_all rfl) (wp_indexAddr T_u8 hs5 (by with_unfolding_all exact ⟨_, _, _, _, rfl, rfl, rfl⟩) (by omega) (by omega) ?_)) | (with_reducible refine lst (by with_unfolding_all rfl) (wp_loadC hs5 hx Tryz.underlying5 rfl (by with_unfolding_all exact ⟨_, rfl, rfl⟩) (by first | (simp; done) | (simp; omega) | omega) ?_)))
           go_roundg (k5 - (i + 1))
           case rel => exact ⟨i + 1, 10 * z + (x.toNat : Int) - 48, true, by omega, box rfl, rfl, rfl, by go_num, hzn.out.1, hzn.out.2, box (fun _ => ⟨hto.out, by rw [htk.out, List.all_append, hta.out]; simp [jDig, h48, h57], by rw [htk.out, jDigs_snoc, htz.out]; have := hzs.out; omega⟩), box (fun h => by cases h), rfl⟩
           case measure => have := hkf.out; omega
          ·have d2 : decide ((x.toNat : Int) ≤ 57) = false := decide_eq_false (by omega)
           go_wp2_with (first | (with_reducible refine lst (by with_unfolding_all rfl) (wp_indexAddr T_u8 hs5 (by with_unfolding_all exact ⟨_, _, _, _, rfl, rfl, rfl⟩) (by omega) (by omega) ?_)) | (with_reducible refine lst (by with_unfolding_all rfl) (wp_loadC hs5 hx Tryz.underlying5 rfl (by with_unfolding_all exact ⟨_, rfl, rfl⟩) (by first | (simp; done) | (simp; omega) | omega) ?_)))
           go_roundg (k5 - (i + 1))
           case rel => exact ⟨i + 1, 10 * z + (x.toNat : Int) - 48, false, by omega, box rfl, rfl, rfl, by go_num, hzn.out.1, hzn.out.2, box (fun h => by cases h), box (fun _ hh => by have h9 := List.all_eq_true.1 hh.2 x hmem.out; unfold jDig at h9; rw [Bool.and_eq_true, decide_eq_true_eq, decide_eq_true_eq] at h9; omega), rfl⟩
           case measure => have := hkf.out; omega
         ·have d1 : decide ((48 : Int) ≤ (x.toNat : Int)) = false := decide_eq_false (by omega)
          go_wp2_with (first | (with_reducible refine lst (by with_unfolding_all rfl) (wp_indexAddr T_u8 hs5 (by with_unfolding_all exact ⟨_, _, _, _, rfl, rfl, rfl⟩) (by omega) (by omega) ?_)) | (with_reducible refine lst (by with_unfolding_all rfl) (wp_loadC hs5 hx Tryz.underlying5 rfl (by with_unfolding_all exact ⟨_, rfl, rfl⟩) (by first | (simp; done) | (simp; omega) | omega) ?_)))
          go_roundg (k5 - (i + 1))
          case rel => exact ⟨i + 1, 10 * z + (x.toNat : Int) - 48, false, by omega, box rfl, rfl, rfl, by go_num, hzn.out.1, hzn.out.2, box (fun h => by cases h), box (fun _ hh => by have h9 := List.all_eq_true.1 hh.2 x hmem.out; unfold jDig at h9; rw [Bool.and_eq_true, decide_eq_true_eq, decide_eq_true_eq] at h9; omega), rfl⟩
          case measure => have := hkf.out; omega
        ·obtain rfl : k5 = i := by omega
         have hall : ss.take k5 = ss := List.take_of_length_le (by rw [hk5.out]; exact Nat.le_refl _)
         have hta2 := hta.out
         have htz2 := htz.out
         rw [hall] at hta2 htz2
         clear hall
         by_cases hbig : 9007199254740991 < z
         ·have d1 : decide ((9007199254740991 : Int) < z) = true := decide_eq_true hbig
          have hend : Box (jNumber b p = .error (p, 63)) := box (by rw [hjn.out, hjp.out, if_neg (by rintro ⟨_, _, h⟩; omega)])
          replace hbig := box hbig
          clear hta2 htz2 hN
          go_wp2_with fail
          refine (rfail_ok g A n c p' m (p, 63) _ (hF.blk (i := 1) rfl)).mono ?_
          rintro e w4 ⟨rfl, h4⟩
          have hF4 := hF.putF (i := 1) rfl h4
          simp only [List.set_cons_zero, List.set_cons_succ] at hF4
          go_wp2_with (first | (with_reducible refine lst (by with_unfolding_all rfl) (wp_fbuild Tryz.underlying51 (z := .agg (List.toArray vl0)) (by kernel_rfl) (pl := vlP) (by kernel_rfl) (cs := vl0) rfl (vs := []) (by with_unfolding_all rfl) (by with_unfolding_all rfl) ?_)) | ((with_reducible refine lst (by with_unfolding_all rfl) (wp_fstA0 hF4 (by with_unfolding_all exact ⟨_, _, rfl, rfl, rfl⟩) (by rw [vlL_len]; kernel_rfl) vlL_one vlL_fit vlL_spl ?_)); intro w5 hF5 hz5))
          exact bodyPost_ret (results_cellF rfl _ hF5 (i := 0) rfl rfl Tryz.underlying51 rfl (by rw [vlL_len]; kernel_rfl)) rfl (by
           unfold RVal jNumV
           rw [hend.out]
           exact ⟨_, [.rd none 1 0 [], .rd none 5 0 []], rfl, .null, _, _, VT.leaf, ((hF5.tail.pushNone 5).pushNone 1).perm ((List.Perm.swap _ _ _).cons _ |>.trans (List.Perm.swap _ _ _) |>.trans ((List.Perm.refl _)))⟩)
         ·have d1 : decide ((9007199254740991 : Int) < z) = false := decide_eq_false hbig
          have hend : Box (jNumber b p = .ok (z, p')) := box (by rw [hjn.out, hjp.out, if_pos ⟨hto.out, hta2, by omega⟩, htz2]; rfl)
          replace hbig := box hbig
          clear hta2 htz2 hN
          go_wp2_with (first | (with_reducible refine lst (by with_unfolding_all rfl) (wp_fbuild Tryz.underlying51 (z := .agg (List.toArray vl0)) (by kernel_rfl) (pl := vlP) (by kernel_rfl) (cs := (vlL 3 (z) ⟨#[]⟩ (.slice none 0 0) (.slice none 0 0))) rfl (vs := [(0, .int .i64 3), (1, .int .i64 (z))]) (by with_unfolding_all rfl) (by with_unfolding_all rfl) ?_)) | ((with_reducible refine lst (by with_unfolding_all rfl) (wp_fstA0 hF (by with_unfolding_all exact ⟨_, _, rfl, rfl, rfl⟩) (by rw [vlL_len]; kernel_rfl) vlL_one vlL_fit vlL_spl ?_)); intro w5 hF5 hz5))
          exact bodyPost_ret (results_cellF rfl _ hF5 (i := 0) rfl rfl Tryz.underlying51 rfl (by rw [vlL_len]; kernel_rfl)) rfl (by
           unfold RVal jNumV
           rw [hend.out]
           exact ⟨_, [.rd none 1 0 [], .rd none 5 0 []], rfl, VT.leaf, ((hF5.tail.pushNone 5).pushNone 1).perm ((List.Perm.swap _ _ _).cons _ |>.trans (List.Perm.swap _ _ _))⟩)
       | false =>
        have hend : Box (jNumber b p = .error (p, 63)) := box (by rw [hjn.out, hjp.out, if_neg (by rintro ⟨h1, h2, _⟩; exact hN.out rfl ⟨h1, h2⟩)])
        clear hT hN
        by_cases hlt : i < k5
        ·skip
         go_wp2_with fail
         refine (rfail_ok g A n c p' m (p, 63) _ (hF.blk (i := 1) rfl)).mono ?_
         rintro e w4 ⟨rfl, h4⟩
         have hF4 := hF.putF (i := 1) rfl h4
         simp only [List.set_cons_zero, List.set_cons_succ] at hF4
         go_wp2_with (first | (with_reducible refine lst (by with_unfolding_all rfl) (wp_fbuild Tryz.underlying51 (z := .agg (List.toArray vl0)) (by kernel_rfl) (pl := vlP) (by kernel_rfl) (cs := vl0) rfl (vs := []) (by with_unfolding_all rfl) (by with_unfolding_all rfl) ?_)) | ((with_reducible refine lst (by with_unfolding_all rfl) (wp_fstA0 hF4 (by with_unfolding_all exact ⟨_, _, rfl, rfl, rfl⟩) (by rw [vlL_len]; kernel_rfl) vlL_one vlL_fit vlL_spl ?_)); intro w5 hF5 hz5))
         exact bodyPost_ret (results_cellF rfl _ hF5 (i := 0) rfl rfl Tryz.underlying51 rfl (by rw [vlL_len]; kernel_rfl)) rfl (by
          unfold RVal jNumV
          rw [hend.out]
          exact ⟨_, [.rd none 1 0 [], .rd none 5 0 []], rfl, .null, _, _, VT.leaf, ((hF5.tail.pushNone 5).pushNone 1).perm ((List.Perm.swap _ _ _).cons _ |>.trans (List.Perm.swap _ _ _) |>.trans ((List.Perm.refl _)))⟩)
        ·skip
         go_wp2_with fail
         refine (rfail_ok g A n c p' m (p, 63) _ (hF.blk (i := 1) rfl)).mono ?_
         rintro e w4 ⟨rfl, h4⟩
         have hF4 := hF.putF (i := 1) rfl h4
         simp only [List.set_cons_zero, List.set_cons_succ] at hF4
         go_wp2_with (first | (with_reducible refine lst (by with_unfolding_all rfl) (wp_fbuild Tryz.underlying51 (z := .agg (List.toArray vl0)) (by kernel_rfl) (pl := vlP) (by kernel_rfl) (cs := vl0) rfl (vs := []) (by with_unfolding_all rfl) (by with_unfolding_all rfl) ?_)) | ((with_reducible refine lst (by with_unfolding_all rfl) (wp_fstA0 hF4 (by with_unfolding_all exact ⟨_, _, rfl, rfl, rfl⟩) (by rw [vlL_len]; kernel_rfl) vlL_one vlL_fit vlL_spl ?_)); intro w5 hF5 hz5))
         exact bodyPost_ret (results_cellF rfl _ hF5 (i := 0) rfl rfl Tryz.underlying51 rfl (by rw [vlL_len]; kernel_rfl)) rfl (by
          unfold RVal jNumV
          rw [hend.out]
          exact ⟨_, [.rd none 1 0 [], .rd none 5 0 []], rfl, .null, _, _, VT.leaf, ((hF5.tail.pushNone 5).pushNone 1).perm ((List.Perm.swap _ _ _).cons _ |>.trans (List.Perm.swap _ _ _) |>.trans ((List.Perm.refl _)))⟩)
end Go.Proofs.YtlhicfpmlncomaaGreatDoor

namespace Go.Proofs.YtlhicfpmlncomaaGreatDoor
open Go.RowKit
/-- A slice literal of one byte that was reckoned. -/
theorem wp_fb1 {P : Program} {o : Oper} {a : Act} {K : Act → World → Prop} {Q : Exit → Act → World → Prop} {X : List Nat} {w0 w : World} {es : List Ent} {sl e : TypeId} (T : SlT P sl e 1 1 (.int .u8 0)) (hF : Fr X w0 w es) {p : Operand} (ho : o.op = .buildSlice sl 1 #[(0, p)]) {z : Int} {c : UInt8} (hz : z = (c.toNat : Int)) (hv : a.eval p = .int .u8 z)
  (k : ∀ w' g, Fr X w0 w' (Ent.bytes w0.heap.size e (.slice (some ⟨g, 0, none⟩) 1 1) [c] :: es) → w'.heap.size = w.heap.size + 1 → K (a.put o.dst (.slice (some ⟨g, 0, none⟩) 1 1)) w') : o.wp P a w K Q := by
 subst hz
 exact wp_fbsl T hF ho (vs := [bv c]) (by simp [hv, parts, bv]) rfl (by decide) (by simp [bv, Value.cells]) k
end Go.Proofs.YtlhicfpmlncomaaGreatDoor

namespace Go.Proofs.YtlhicfpmlncomaaGreatDoor
open Go.RowKit
set_option linter.unusedSimpArgs false
theorem jUnit_go {b : List UInt8} {s k a p d : Nat} {x : UInt8} (hx : b[p]? = some x) (h : jHex x = some d) : jUnit b s (k + 1) a p = jUnit b s k (16 * a + d) (p + 1) := by rw [jUnit, hx]; simp only [h]
theorem jUnit_no {b : List UInt8} {s k a p : Nat} {x : UInt8} (hx : b[p]? = some x) (h : jHex x = none) : jUnit b s (k + 1) a p = .error (s, 62) := by rw [jUnit, hx]; simp only [h]
theorem jUnit_end {b : List UInt8} {s k a p : Nat} (hx : b[p]? = none) : jUnit b s (k + 1) a p = .error (b.length, 9) := by rw [jUnit, hx]
/-- What four digits tell. -/
def RDig (w : World) (g : Nat) (A : Option Addr) (n c p m : Nat) (J : JR Nat) (e : Ending) (w' : World) : Prop :=
 ∃ z : Int, e = .returned (.int .i64 z) ∧ match J with
   | .ok u => z = (u : Int) ∧ p + 4 ≤ n ∧ Fr [g] w w' [.blk g 146 (rrL A n c (p + 4) 0 0 m)]
   | .error x => ∃ p' m', Fr [g] w w' [.blk g 146 (rrL A n c p' x.2 x.1 m')]
set_option maxRecDepth 20000 in
set_option maxHeartbeats 12800000 in
theorem rdigits_ok (g : Nat) (A : Option Addr) (n c p m s B : Nat) (b : List UInt8) (w : World) (hh : w.heap[g]? = some (.cells (rrL A n c p 0 0 m).toArray 146 (0, 0))) (hg : B ≤ g) (hB : B ≤ w.heap.size) (hn : n ≤ 65536) (hp : p ≤ n) (hr : Rd w (· < B) A 1 n (b.map bv)) :
  Calls Tryz.prog 136 #[.pointer (some ⟨g, 0, none⟩), .int .i64 (s : Int)] w (RDig w g A n c p m (jUnit b s 4 0 p)) := by
 have hl := box hr.bytes_len
 have hF0 := Fr.one hh
 clear hh
 obtain ⟨J, hJ⟩ : ∃ J, J = jUnit b s 4 0 p := ⟨_, rfl⟩
 rw [← hJ]
 replace hJ := box hJ
 go_enter Tryz.func136, Tryz.ntmps136
 go_wp2_with fail
 go_loopg [5, 6] 4 (fun gk av iv wr => ∃ i : Nat, i ≤ 4 ∧ Box (gk = 4 - i) ∧ iv = .int .i64 (i : Int) ∧ ((∃ a p' : Nat, p' ≤ n ∧ p' = p + i ∧ av = .int .i64 (a : Int) ∧ Box (a < 16 ^ i) ∧ Box (J = jUnit b s (4 - i) a p') ∧ Fr [g] w wr [.blk g 146 (rrL A n c p' 0 0 m)]) ∨ (∃ (z : Int) (x : Nat × Nat) (p' m' : Nat), av = .int .i64 z ∧ Box (J = .error x) ∧ x.2 ≠ 0 ∧ Fr [g] w wr [.blk g 146 (rrL A n c p' x.2 x.1 m')])))
 case atStart => exact ⟨0, by omega, box rfl, rfl, .inl ⟨0, p, hp, rfl, rfl, box (by decide), hJ, hF0⟩⟩
 case round =>
  clear hF0
  obtain ⟨i, hi, hk, rfl, hst⟩ := hrel
  have hkf : Box (gk = 4 - i) := hk
  clear hk
  rcases hst with ⟨a, p', hp', hpi, rfl, hA, hJ', hF⟩ | ⟨z, x, p', m', rfl, hJx, hx2, hF⟩
  ·replace hpi := box hpi
   by_cases hlt : i < 4
   ·have ha : a ≤ 4095 := by
     have h := hA.out
     rcases (by omega : i = 0 ∨ i = 1 ∨ i = 2 ∨ i = 3) with h1 | h1 | h1 | h1 <;> (rw [h1] at h; omega)
    by_cases hpn : p' < n
    ·obtain ⟨x, hx'⟩ : ∃ x, b[p']? = some x := ⟨b[p']'(by rw [hl.out]; exact hpn), by simp⟩
     have hx := box hx'
     have hxl := x.toNat_lt
     have hwa := rwant_in hx' (hF.blk (i := 0) rfl) (hF.rdB hg hB hr)
     obtain ⟨C, hC⟩ : ∃ C, C = x.toNat := ⟨_, rfl⟩
     rw [← hC] at hwa hxl
     replace hC := box hC
     clear hx'
     go_wp2_with (first | (with_reducible refine lst (by with_unfolding_all rfl) (wp_fld0 hF Tryz.underlying3 rfl (by with_unfolding_all exact ⟨_, rfl, rfl⟩) rfl ?_)) | (with_reducible refine lst (by with_unfolding_all rfl) (wp_fld0 hF Tryz.underlying22 rfl (by with_unfolding_all exact ⟨_, rfl, rfl⟩) rfl ?_)))
     refine hwa.mono ?_
     rintro e w1 ⟨rfl, h1⟩
     have hF1 := hF.putF (i := 0) rfl h1
     simp only [List.set_cons_zero] at hF1
     clear hwa h1
     by_cases h47 : C ≤ 47
     ·skip
      have d48 : decide ((48 : Int) ≤ (C : Int)) = false := decide_eq_false (by omega)
      have e57 : decide ((C : Int) ≤ 57) = true := decide_eq_true (by omega)
      have d97 : decide ((97 : Int) ≤ (C : Int)) = false := decide_eq_false (by omega)
      have e102 : decide ((C : Int) ≤ 102) = true := decide_eq_true (by omega)
      have d65 : decide ((65 : Int) ≤ (C : Int)) = false := decide_eq_false (by omega)
      have e70 : decide ((C : Int) ≤ 70) = true := decide_eq_true (by omega)
      have hjx : jHex x = none := by unfold jHex; rw [if_neg (by have := hC.out; omega), if_neg (by have := hC.out; omega), if_neg (by have := hC.out; omega)]
      have hJn : Box (J = .error (s, 62)) := box (by rw [hJ'.out, show 4 - i = 4 - (i + 1) + 1 by omega, jUnit_no hx.out hjx])
      clear hjx
      go_wp2_with (first | (with_reducible refine lst (by with_unfolding_all rfl) (wp_fld0 hF1 Tryz.underlying3 rfl (by with_unfolding_all exact ⟨_, rfl, rfl⟩) rfl ?_)) | (with_reducible refine lst (by with_unfolding_all rfl) (wp_fld0 hF1 Tryz.underlying22 rfl (by with_unfolding_all exact ⟨_, rfl, rfl⟩) rfl ?_)))
      refine (rfail_ok g A n c p' m (s, 62) _ (hF1.blk (i := 0) rfl)).mono ?_
      rintro e w2 ⟨rfl, h2⟩
      have hF2 := hF1.putF (i := 0) rfl h2
      simp only [List.set_cons_zero] at hF2
      go_wp2_with (first | (with_reducible refine lst (by with_unfolding_all rfl) (wp_fld0 hF2 Tryz.underlying3 rfl (by with_unfolding_all exact ⟨_, rfl, rfl⟩) rfl ?_)) | (with_reducible refine lst (by with_unfolding_all rfl) (wp_fld0 hF2 Tryz.underlying22 rfl (by with_unfolding_all exact ⟨_, rfl, rfl⟩) rfl ?_)) | ((with_reducible refine lst (by with_unfolding_all rfl) (wp_fst0 hF2 (by with_unfolding_all exact ⟨_, _, rfl, rfl, rfl⟩) (by kernel_rfl) rfl rfl (by rw [rrL_len]; decide) (rrL_at (v := (p' : Int) + 1) (q := p' + 1) (by omega)) ?_)); intro w9 hF9 hz9))
      go_roundg (4 - (i + 1))
      case rel => exact ⟨i + 1, by omega, box rfl, by go_num, .inr ⟨_, _, _, _, rfl, hJn, Nat.succ_ne_zero _, hF9⟩⟩
      case measure => have := hkf.out; omega
     by_cases h57 : C ≤ 57
     ·skip
      have d48 : decide ((48 : Int) ≤ (C : Int)) = true := decide_eq_true (by omega)
      have e57 : decide ((C : Int) ≤ 57) = true := decide_eq_true (by omega)
      have d97 : decide ((97 : Int) ≤ (C : Int)) = false := decide_eq_false (by omega)
      have e102 : decide ((C : Int) ≤ 102) = true := decide_eq_true (by omega)
      have d65 : decide ((65 : Int) ≤ (C : Int)) = false := decide_eq_false (by omega)
      have e70 : decide ((C : Int) ≤ 70) = true := decide_eq_true (by omega)
      have e0 : decide ((C : Int) - 48 < 0) = false := decide_eq_false (by omega)
      have hjx : jHex x = some (C - 48) := by rw [hC.out]; unfold jHex; rw [if_pos (by have := hC.out; omega)]
      have hJn : Box (J = jUnit b s (4 - (i + 1)) (16 * a + (C - 48)) (p' + 1)) := box (by rw [hJ'.out, show 4 - i = 4 - (i + 1) + 1 by omega, jUnit_go hx.out hjx])
      clear hjx
      go_wp2_with (first | (with_reducible refine lst (by with_unfolding_all rfl) (wp_fld0 hF1 Tryz.underlying3 rfl (by with_unfolding_all exact ⟨_, rfl, rfl⟩) rfl ?_)) | (with_reducible refine lst (by with_unfolding_all rfl) (wp_fld0 hF1 Tryz.underlying22 rfl (by with_unfolding_all exact ⟨_, rfl, rfl⟩) rfl ?_)) | ((with_reducible refine lst (by with_unfolding_all rfl) (wp_fst0 hF1 (by with_unfolding_all exact ⟨_, _, rfl, rfl, rfl⟩) (by kernel_rfl) rfl rfl (by rw [rrL_len]; decide) (rrL_at (v := (p' : Int) + 1) (q := p' + 1) (by omega)) ?_)); intro w9 hF9 hz9))
      go_roundg (4 - (i + 1))
      case rel => exact ⟨i + 1, by omega, box rfl, by go_num, .inl ⟨16 * a + (C - 48), p' + 1, by omega, by have := hpi.out; omega, by congr 1; omega, box (by rw [Nat.pow_succ]; have := hA.out; omega), hJn, hF9⟩⟩
      case measure => have := hkf.out; omega
     by_cases h64 : C ≤ 64
     ·skip
      have d48 : decide ((48 : Int) ≤ (C : Int)) = true := decide_eq_true (by omega)
      have e57 : decide ((C : Int) ≤ 57) = false := decide_eq_false (by omega)
      have d97 : decide ((97 : Int) ≤ (C : Int)) = false := decide_eq_false (by omega)
      have e102 : decide ((C : Int) ≤ 102) = true := decide_eq_true (by omega)
      have d65 : decide ((65 : Int) ≤ (C : Int)) = false := decide_eq_false (by omega)
      have e70 : decide ((C : Int) ≤ 70) = true := decide_eq_true (by omega)
      have hjx : jHex x = none := by unfold jHex; rw [if_neg (by have := hC.out; omega), if_neg (by have := hC.out; omega), if_neg (by have := hC.out; omega)]
      have hJn : Box (J = .error (s, 62)) := box (by rw [hJ'.out, show 4 - i = 4 - (i + 1) + 1 by omega, jUnit_no hx.out hjx])
      clear hjx
      go_wp2_with (first | (with_reducible refine lst (by with_unfolding_all rfl) (wp_fld0 hF1 Tryz.underlying3 rfl (by with_unfolding_all exact ⟨_, rfl, rfl⟩) rfl ?_)) | (with_reducible refine lst (by with_unfolding_all rfl) (wp_fld0 hF1 Tryz.underlying22 rfl (by with_unfolding_all exact ⟨_, rfl, rfl⟩) rfl ?_)))
      refine (rfail_ok g A n c p' m (s, 62) _ (hF1.blk (i := 0) rfl)).mono ?_
      rintro e w2 ⟨rfl, h2⟩
      have hF2 := hF1.putF (i := 0) rfl h2
      simp only [List.set_cons_zero] at hF2
      go_wp2_with (first | (with_reducible refine lst (by with_unfolding_all rfl) (wp_fld0 hF2 Tryz.underlying3 rfl (by with_unfolding_all exact ⟨_, rfl, rfl⟩) rfl ?_)) | (with_reducible refine lst (by with_unfolding_all rfl) (wp_fld0 hF2 Tryz.underlying22 rfl (by with_unfolding_all exact ⟨_, rfl, rfl⟩) rfl ?_)) | ((with_reducible refine lst (by with_unfolding_all rfl) (wp_fst0 hF2 (by with_unfolding_all exact ⟨_, _, rfl, rfl, rfl⟩) (by kernel_rfl) rfl rfl (by rw [rrL_len]; decide) (rrL_at (v := (p' : Int) + 1) (q := p' + 1) (by omega)) ?_)); intro w9 hF9 hz9))
      go_roundg (4 - (i + 1))
      case rel => exact ⟨i + 1, by omega, box rfl, by go_num, .inr ⟨_, _, _, _, rfl, hJn, Nat.succ_ne_zero _, hF9⟩⟩
      case measure => have := hkf.out; omega
     by_cases h70 : C ≤ 70
     ·skip
      have d48 : decide ((48 : Int) ≤ (C : Int)) = true := decide_eq_true (by omega)
      have e57 : decide ((C : Int) ≤ 57) = false := decide_eq_false (by omega)
      have d97 : decide ((97 : Int) ≤ (C : Int)) = false := decide_eq_false (by omega)
      have e102 : decide ((C : Int) ≤ 102) = true := decide_eq_true (by omega)
      have d65 : decide ((65 : Int) ≤ (C : Int)) = true := decide_eq_true (by omega)
      have e70 : decide ((C : Int) ≤ 70) = true := decide_eq_true (by omega)
      have e0 : decide ((C : Int) - 65 + 10 < 0) = false := decide_eq_false (by omega)
      have hjx : jHex x = some (C - 55) := by rw [hC.out]; unfold jHex; rw [if_neg (by have := hC.out; omega), if_neg (by have := hC.out; omega), if_pos (by have := hC.out; omega)]
      have hJn : Box (J = jUnit b s (4 - (i + 1)) (16 * a + (C - 55)) (p' + 1)) := box (by rw [hJ'.out, show 4 - i = 4 - (i + 1) + 1 by omega, jUnit_go hx.out hjx])
      clear hjx
      go_wp2_with (first | (with_reducible refine lst (by with_unfolding_all rfl) (wp_fld0 hF1 Tryz.underlying3 rfl (by with_unfolding_all exact ⟨_, rfl, rfl⟩) rfl ?_)) | (with_reducible refine lst (by with_unfolding_all rfl) (wp_fld0 hF1 Tryz.underlying22 rfl (by with_unfolding_all exact ⟨_, rfl, rfl⟩) rfl ?_)) | ((with_reducible refine lst (by with_unfolding_all rfl) (wp_fst0 hF1 (by with_unfolding_all exact ⟨_, _, rfl, rfl, rfl⟩) (by kernel_rfl) rfl rfl (by rw [rrL_len]; decide) (rrL_at (v := (p' : Int) + 1) (q := p' + 1) (by omega)) ?_)); intro w9 hF9 hz9))
      go_roundg (4 - (i + 1))
      case rel => exact ⟨i + 1, by omega, box rfl, by go_num, .inl ⟨16 * a + (C - 55), p' + 1, by omega, by have := hpi.out; omega, by congr 1; omega, box (by rw [Nat.pow_succ]; have := hA.out; omega), hJn, hF9⟩⟩
      case measure => have := hkf.out; omega
     by_cases h96 : C ≤ 96
     ·skip
      have d48 : decide ((48 : Int) ≤ (C : Int)) = true := decide_eq_true (by omega)
      have e57 : decide ((C : Int) ≤ 57) = false := decide_eq_false (by omega)
      have d97 : decide ((97 : Int) ≤ (C : Int)) = false := decide_eq_false (by omega)
      have e102 : decide ((C : Int) ≤ 102) = true := decide_eq_true (by omega)
      have d65 : decide ((65 : Int) ≤ (C : Int)) = true := decide_eq_true (by omega)
      have e70 : decide ((C : Int) ≤ 70) = false := decide_eq_false (by omega)
      have hjx : jHex x = none := by unfold jHex; rw [if_neg (by have := hC.out; omega), if_neg (by have := hC.out; omega), if_neg (by have := hC.out; omega)]
      have hJn : Box (J = .error (s, 62)) := box (by rw [hJ'.out, show 4 - i = 4 - (i + 1) + 1 by omega, jUnit_no hx.out hjx])
      clear hjx
      go_wp2_with (first | (with_reducible refine lst (by with_unfolding_all rfl) (wp_fld0 hF1 Tryz.underlying3 rfl (by with_unfolding_all exact ⟨_, rfl, rfl⟩) rfl ?_)) | (with_reducible refine lst (by with_unfolding_all rfl) (wp_fld0 hF1 Tryz.underlying22 rfl (by with_unfolding_all exact ⟨_, rfl, rfl⟩) rfl ?_)))
      refine (rfail_ok g A n c p' m (s, 62) _ (hF1.blk (i := 0) rfl)).mono ?_
      rintro e w2 ⟨rfl, h2⟩
      have hF2 := hF1.putF (i := 0) rfl h2
      simp only [List.set_cons_zero] at hF2
      go_wp2_with (first | (with_reducible refine lst (by with_unfolding_all rfl) (wp_fld0 hF2 Tryz.underlying3 rfl (by with_unfolding_all exact ⟨_, rfl, rfl⟩) rfl ?_)) | (with_reducible refine lst (by with_unfolding_all rfl) (wp_fld0 hF2 Tryz.underlying22 rfl (by with_unfolding_all exact ⟨_, rfl, rfl⟩) rfl ?_)) | ((with_reducible refine lst (by with_unfolding_all rfl) (wp_fst0 hF2 (by with_unfolding_all exact ⟨_, _, rfl, rfl, rfl⟩) (by kernel_rfl) rfl rfl (by rw [rrL_len]; decide) (rrL_at (v := (p' : Int) + 1) (q := p' + 1) (by omega)) ?_)); intro w9 hF9 hz9))
      go_roundg (4 - (i + 1))
      case rel => exact ⟨i + 1, by omega, box rfl, by go_num, .inr ⟨_, _, _, _, rfl, hJn, Nat.succ_ne_zero _, hF9⟩⟩
      case measure => have := hkf.out; omega
     by_cases h102 : C ≤ 102
     ·skip
      have d48 : decide ((48 : Int) ≤ (C : Int)) = true := decide_eq_true (by omega)
      have e57 : decide ((C : Int) ≤ 57) = false := decide_eq_false (by omega)
      have d97 : decide ((97 : Int) ≤ (C : Int)) = true := decide_eq_true (by omega)
      have e102 : decide ((C : Int) ≤ 102) = true := decide_eq_true (by omega)
      have d65 : decide ((65 : Int) ≤ (C : Int)) = true := decide_eq_true (by omega)
      have e70 : decide ((C : Int) ≤ 70) = false := decide_eq_false (by omega)
      have e0 : decide ((C : Int) - 97 + 10 < 0) = false := decide_eq_false (by omega)
      have hjx : jHex x = some (C - 87) := by rw [hC.out]; unfold jHex; rw [if_neg (by have := hC.out; omega), if_pos (by have := hC.out; omega)]
      have hJn : Box (J = jUnit b s (4 - (i + 1)) (16 * a + (C - 87)) (p' + 1)) := box (by rw [hJ'.out, show 4 - i = 4 - (i + 1) + 1 by omega, jUnit_go hx.out hjx])
      clear hjx
      go_wp2_with (first | (with_reducible refine lst (by with_unfolding_all rfl) (wp_fld0 hF1 Tryz.underlying3 rfl (by with_unfolding_all exact ⟨_, rfl, rfl⟩) rfl ?_)) | (with_reducible refine lst (by with_unfolding_all rfl) (wp_fld0 hF1 Tryz.underlying22 rfl (by with_unfolding_all exact ⟨_, rfl, rfl⟩) rfl ?_)) | ((with_reducible refine lst (by with_unfolding_all rfl) (wp_fst0 hF1 (by with_unfolding_all exact ⟨_, _, rfl, rfl, rfl⟩) (by kernel_rfl) rfl rfl (by rw [rrL_len]; decide) (rrL_at (v := (p' : Int) + 1) (q := p' + 1) (by omega)) ?_)); intro w9 hF9 hz9))
      go_roundg (4 - (i + 1))
      case rel => exact ⟨i + 1, by omega, box rfl, by go_num, .inl ⟨16 * a + (C - 87), p' + 1, by omega, by have := hpi.out; omega, by congr 1; omega, box (by rw [Nat.pow_succ]; have := hA.out; omega), hJn, hF9⟩⟩
      case measure => have := hkf.out; omega
     have d48 : decide ((48 : Int) ≤ (C : Int)) = true := decide_eq_true (by omega)
     have e57 : decide ((C : Int) ≤ 57) = false := decide_eq_false (by omega)
     have d97 : decide ((97 : Int) ≤ (C : Int)) = true := decide_eq_true (by omega)
     have e102 : decide ((C : Int) ≤ 102) = false := decide_eq_false (by omega)
     have d65 : decide ((65 : Int) ≤ (C : Int)) = true := decide_eq_true (by omega)
     have e70 : decide ((C : Int) ≤ 70) = false := decide_eq_false (by omega)
     have hjx : jHex x = none := by unfold jHex; rw [if_neg (by have := hC.out; omega), if_neg (by have := hC.out; omega), if_neg (by have := hC.out; omega)]
     have hJn : Box (J = .error (s, 62)) := box (by rw [hJ'.out, show 4 - i = 4 - (i + 1) + 1 by omega, jUnit_no hx.out hjx])
     clear hjx
     go_wp2_with (first | (with_reducible refine lst (by with_unfolding_all rfl) (wp_fld0 hF1 Tryz.underlying3 rfl (by with_unfolding_all exact ⟨_, rfl, rfl⟩) rfl ?_)) | (with_reducible refine lst (by with_unfolding_all rfl) (wp_fld0 hF1 Tryz.underlying22 rfl (by with_unfolding_all exact ⟨_, rfl, rfl⟩) rfl ?_)))
     refine (rfail_ok g A n c p' m (s, 62) _ (hF1.blk (i := 0) rfl)).mono ?_
     rintro e w2 ⟨rfl, h2⟩
     have hF2 := hF1.putF (i := 0) rfl h2
     simp only [List.set_cons_zero] at hF2
     go_wp2_with (first | (with_reducible refine lst (by with_unfolding_all rfl) (wp_fld0 hF2 Tryz.underlying3 rfl (by with_unfolding_all exact ⟨_, rfl, rfl⟩) rfl ?_)) | (with_reducible refine lst (by with_unfolding_all rfl) (wp_fld0 hF2 Tryz.underlying22 rfl (by with_unfolding_all exact ⟨_, rfl, rfl⟩) rfl ?_)) | ((with_reducible refine lst (by with_unfolding_all rfl) (wp_fst0 hF2 (by with_unfolding_all exact ⟨_, _, rfl, rfl, rfl⟩) (by kernel_rfl) rfl rfl (by rw [rrL_len]; decide) (rrL_at (v := (p' : Int) + 1) (q := p' + 1) (by omega)) ?_)); intro w9 hF9 hz9))
     go_roundg (4 - (i + 1))
     case rel => exact ⟨i + 1, by omega, box rfl, by go_num, .inr ⟨_, _, _, _, rfl, hJn, Nat.succ_ne_zero _, hF9⟩⟩
     case measure => have := hkf.out; omega
    ·have hx : Box (b[p']? = none) := box (List.getElem?_eq_none (by rw [hl.out]; omega))
     have hJn : Box (J = .error (n, 9)) := box (by rw [hJ'.out, show 4 - i = 4 - (i + 1) + 1 by omega, jUnit_end hx.out, hl.out])
     go_wp2_with (first | (with_reducible refine lst (by with_unfolding_all rfl) (wp_fld0 hF Tryz.underlying3 rfl (by with_unfolding_all exact ⟨_, rfl, rfl⟩) rfl ?_)) | (with_reducible refine lst (by with_unfolding_all rfl) (wp_fld0 hF Tryz.underlying22 rfl (by with_unfolding_all exact ⟨_, rfl, rfl⟩) rfl ?_)))
     refine (rwant_end hx.out (hF.blk (i := 0) rfl) (hF.rdB hg hB hr)).mono ?_
     rintro e w1 ⟨rfl, h1⟩
     have hF1 := hF.putF (i := 0) rfl h1
     simp only [List.set_cons_zero] at hF1
     go_wp2_with (first | (with_reducible refine lst (by with_unfolding_all rfl) (wp_fld0 hF1 Tryz.underlying3 rfl (by with_unfolding_all exact ⟨_, rfl, rfl⟩) rfl ?_)) | (with_reducible refine lst (by with_unfolding_all rfl) (wp_fld0 hF1 Tryz.underlying22 rfl (by with_unfolding_all exact ⟨_, rfl, rfl⟩) rfl ?_)))
     refine (rfail_bad g A n c p' 9 n m _ _ _ (by decide) (hF1.blk (i := 0) rfl)).mono ?_
     rintro e w2 ⟨rfl, h2⟩
     have hF2 := hF1.putF (i := 0) rfl h2
     simp only [List.set_cons_zero] at hF2
     go_wp2_with (first | (with_reducible refine lst (by with_unfolding_all rfl) (wp_fld0 hF2 Tryz.underlying3 rfl (by with_unfolding_all exact ⟨_, rfl, rfl⟩) rfl ?_)) | (with_reducible refine lst (by with_unfolding_all rfl) (wp_fld0 hF2 Tryz.underlying22 rfl (by with_unfolding_all exact ⟨_, rfl, rfl⟩) rfl ?_)) | ((with_reducible refine lst (by with_unfolding_all rfl) (wp_fst0 hF2 (by with_unfolding_all exact ⟨_, _, rfl, rfl, rfl⟩) (by kernel_rfl) rfl rfl (by rw [rrL_len]; decide) (rrL_at (v := (p' : Int) + 1) (q := p' + 1) (by omega)) ?_)); intro w9 hF9 hz9))
     go_roundg (4 - (i + 1))
     case rel => exact ⟨i + 1, by omega, box rfl, by go_num, .inr ⟨_, _, _, _, rfl, hJn, Nat.succ_ne_zero _, hF9⟩⟩
     case measure => have := hkf.out; omega
   ·obtain rfl : 4 = i := by omega
    have hJe : Box (J = .ok a) := box (by rw [hJ'.out]; rfl)
    have hpe := hpi.out
    go_wp2_with (first | (with_reducible refine lst (by with_unfolding_all rfl) (wp_fld0 hF Tryz.underlying3 rfl (by with_unfolding_all exact ⟨_, rfl, rfl⟩) rfl ?_)) | (with_reducible refine lst (by with_unfolding_all rfl) (wp_fld0 hF Tryz.underlying22 rfl (by with_unfolding_all exact ⟨_, rfl, rfl⟩) rfl ?_)))
    go_ret
    unfold RDig
    rw [hJe.out]
    refine ⟨_, rfl, ?_⟩
    exact ⟨rfl, by omega, by rw [← hpe]; exact hF⟩
  ·have hf0 : ((x.2 : Int) == 0) = false := by rw [beq_eq_false_iff_ne]; omega
   replace hx2 := box hx2
   by_cases hlt : i < 4
   ·go_wp2_with (first | (with_reducible refine lst (by with_unfolding_all rfl) (wp_fld0 hF Tryz.underlying3 rfl (by with_unfolding_all exact ⟨_, rfl, rfl⟩) rfl ?_)) | (with_reducible refine lst (by with_unfolding_all rfl) (wp_fld0 hF Tryz.underlying22 rfl (by with_unfolding_all exact ⟨_, rfl, rfl⟩) rfl ?_)))
    go_ret
    unfold RDig
    rw [hJx.out]
    exact ⟨_, rfl, _, _, hF⟩
   ·go_wp2_with (first | (with_reducible refine lst (by with_unfolding_all rfl) (wp_fld0 hF Tryz.underlying3 rfl (by with_unfolding_all exact ⟨_, rfl, rfl⟩) rfl ?_)) | (with_reducible refine lst (by with_unfolding_all rfl) (wp_fld0 hF Tryz.underlying22 rfl (by with_unfolding_all exact ⟨_, rfl, rfl⟩) rfl ?_)))
    go_ret
    unfold RDig
    rw [hJx.out]
    exact ⟨_, rfl, _, _, hF⟩
end Go.Proofs.YtlhicfpmlncomaaGreatDoor
