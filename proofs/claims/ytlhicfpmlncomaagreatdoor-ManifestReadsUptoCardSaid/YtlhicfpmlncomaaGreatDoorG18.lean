/-
 Layer 6: the document's reader: a text.
 Layer 6: the document's reader: its methods, before a fault and behind one.
-/
import Derived.Test.YtlhicfpmlncomaaGreatDoorG17
import Derived.Test.YtlhicfpmlncomaaGreatDoorG02
import Derived.Test.YtlhicfpmlncomaaGreatDoorG04
import Derived.Test.YtlhicfpmlncomaaGreatDoorG06
namespace Go.Proofs.YtlhicfpmlncomaaGreatDoor
open Go.RowKit
set_option linter.unusedSimpArgs false
/-- The reading of a text stands so: it is what the rest of the text says; or a fault stands in the reader. -/
def TxI (J : JR (List UInt8 × Nat)) (b : List UInt8) (n m p f wh m' : Nat) (out : List UInt8) : Prop :=
 (0 = f ∧ 0 = wh ∧ m = m' ∧ p ≤ n ∧ out.length ≤ 4 * p ∧ J = jTextL b (n + 1 - p) p out) ∨ (f ≠ 0 ∧ J = .error (wh, f))
def txM (f n p : Nat) : Nat := if f = 0 then n + 2 - p else 0
theorem txM_ok {n p : Nat} : txM 0 n p = n + 2 - p := by unfold txM; rw [if_pos rfl]
theorem txM_bad {f n p : Nat} (h : f ≠ 0) : txM f n p = 0 := by unfold txM; rw [if_neg h]
/-- What a text tells. -/
def RTxt (w : World) (g : Nat) (A : Option Addr) (n c m : Nat) (J : JR (List UInt8 × Nat)) (e : Ending) (w' : World) : Prop :=
 match J with
 | .ok r => e = .returned (.string ⟨r.1.toArray⟩) ∧ Fr [g] w w' [.blk g 146 (rrL A n c r.2 0 0 m)]
 | .error x => ∃ s p' m', e = .returned (.string s) ∧ Fr [g] w w' [.blk g 146 (rrL A n c p' x.2 x.1 m')]
theorem rescape_any (g : Nat) (A : Option Addr) (n c p m B : Nat) (b : List UInt8) (w : World) (hh : w.heap[g]? = some (.cells (rrL A n c p 0 0 m).toArray 146 (0, 0))) (hg : B ≤ g) (hB : B ≤ w.heap.size) (hn : n ≤ 65536) (hp : p ≤ n) (hr : Rd w (· < B) A 1 n (b.map bv)) :
  Calls Tryz.prog 123 #[.pointer (some ⟨g, 0, none⟩)] w (REsc w g A n c m (jEscape b p)) := by
 cases hx : b[p + 1]? with
 | none => exact rescape_end g A n c p m B b w hx hh hg hB hn hp hr
 | some x => exact rescape_in g A n c p m B b x w hx hh hg hB hn hr
theorem rtext_start {g : Nat} {A : Option Addr} {n c p m : Nat} {b : List UInt8} {w w1 : World} (hl : b.length = n) (h : RSt w g A n c m (jWord b [34] p) w1) : ∃ p' f wh m', Box (TxI (jText b p) b n m p' f wh m' []) ∧ Fr [g] w w1 [.blk g 146 (rrL A n c p' f wh m')] := by
 have hT : jText b p = match jWord b [34] p with
  | .error x => .error x
  | .ok q => jTextL b (b.length + 1 - q) q [] := rfl
 cases hW : jWord b [34] p with
 | error z =>
  rw [hW] at hT h
  obtain ⟨p', m', hF⟩ := h
  exact ⟨p', z.2, z.1, m', box (.inr ⟨jWord_er _ _ _ _ hW, hT⟩), hF⟩
 | ok q =>
  rw [hW] at hT h
  have hq := (jWord_le hW).2.resolve_left (by simp)
  rw [hl] at hq hT
  exact ⟨q, 0, 0, m, box (.inl ⟨rfl, rfl, rfl, hq, by simp, hT⟩), h⟩
set_option maxRecDepth 20000 in
set_option maxHeartbeats 12800000 in
theorem rtext_ok (g : Nat) (A : Option Addr) (n c p m B : Nat) (b : List UInt8) (w : World) (hh : w.heap[g]? = some (.cells (rrL A n c p 0 0 m).toArray 146 (0, 0))) (hg : B ≤ g) (hB : B ≤ w.heap.size) (hn : n ≤ 65536) (hnc : n ≤ c) (hp : p ≤ n) (hr : Rd w (· < B) A 1 n (b.map bv)) :
  Calls Tryz.prog 102 #[.pointer (some ⟨g, 0, none⟩)] w (RTxt w g A n c m (jText b p)) := by
 have hl := box hr.bytes_len
 have hF0 := Fr.one hh
 have hwd := box (rword_ok g A n c p m B b ⟨#[34]⟩ w hh hg hB (by omega) hp (by decide) hr)
 rw [show ((⟨#[34]⟩ : ByteArray).data.toList) = [34] from rfl] at hwd
 have hs := box (fun w1 h => rtext_start (g := g) (A := A) (c := c) (p := p) (m := m) (w := w) (w1 := w1) hl.out h)
 obtain ⟨J, hJ⟩ : ∃ J, J = jText b p := ⟨_, rfl⟩
 rw [← hJ] at hs ⊢
 clear hh hJ
 go_enter Tryz.func102, Tryz.ntmps102
 go_wp2_with fail
 refine hwd.out.mono ?_
 rintro e w1 ⟨rfl, hw1⟩
 obtain ⟨p1, f1, wh1, m1, hI1, hF1⟩ := hs.out _ hw1
 clear hwd hs hw1 hF0
 go_wp2_with fail
 go_loopg [3] (txM f1 n p1) (fun k v wr => ∃ (out : List UInt8) (p' f wh m' : Nat), Box (k = txM f n p') ∧ Box (TxI J b n m p' f wh m' out) ∧ Fr [g] w wr [Ent.bytes w.heap.size 5 v out, .blk g 146 (rrL A n c p' f wh m')])
 case atStart => exact ⟨[], p1, f1, wh1, m1, box rfl, hI1, hF1.pushNil _⟩
 case round =>
  clear hF1 hI1
  obtain ⟨out, p', f, wh, m', hk, hI, hF⟩ := hrel
  obtain ⟨Ao, co, rfl, hco, hro⟩ := (hF.own (i := 0) rfl).arg
  rcases hI.out with ⟨rfl, rfl, rfl, hpn, hol, hJ⟩ | ⟨hf, hJ⟩
  rotate_left
  ·have hf0 : ((f : Int) == 0) = false := by rw [beq_eq_false_iff_ne]; omega
   replace hf := box hf
   replace hJ := box hJ
   go_wp2_with (first | (with_reducible refine lst (by with_unfolding_all rfl) (wp_fld1 hF Tryz.underlying3 rfl (by with_unfolding_all exact ⟨_, rfl, rfl⟩) rfl ?_)) | (with_reducible refine lst (by with_unfolding_all rfl) (wp_fld1 hF Tryz.underlying22 rfl (by with_unfolding_all exact ⟨_, rfl, rfl⟩) rfl ?_)) | (with_reducible refine lst (by with_unfolding_all rfl) (wp_b2s T_u8 Tryz.underlying5 Tryz.underlying9 (hF.rdOwn (i := 0) rfl) (by with_unfolding_all exact ⟨_, rfl, rfl⟩) ?_)))
   go_ret
   unfold RTxt
   rw [hJ.out]
   exact ⟨_, _, _, rfl, hF.tail⟩
  replace hJ := box hJ
  replace hol := box hol
  have hkg : Box (gk = n + 2 - p') := box (by rw [hk.out, txM_ok])
  clear hk hI
  cases hx : b[p']? with
  | none =>
   have hend : Box (J = .error (n, 9)) := box (by
    rw [hJ.out]
    have := List.getElem?_eq_none_iff.1 hx
    rw [hl.out] at this
    rw [show n + 1 - p' = 0 + 1 by omega, jTextL, hx, hl.out])
   have hx := box hx
   go_wp2_with (first | (with_reducible refine lst (by with_unfolding_all rfl) (wp_fld1 hF Tryz.underlying3 rfl (by with_unfolding_all exact ⟨_, rfl, rfl⟩) rfl ?_)) | (with_reducible refine lst (by with_unfolding_all rfl) (wp_fld1 hF Tryz.underlying22 rfl (by with_unfolding_all exact ⟨_, rfl, rfl⟩) rfl ?_)))
   refine (rwant_end hx.out (hF.blk (i := 1) rfl) (hF.rdB hg hB hr)).mono ?_
   rintro e w2 ⟨rfl, h2⟩
   have hF2 := hF.putF (i := 1) rfl h2
   simp only [List.set_cons_zero, List.set_cons_succ] at hF2
   go_wp2_with (first | (with_reducible refine lst (by with_unfolding_all rfl) (wp_b2s T_u8 Tryz.underlying5 Tryz.underlying9 (hF2.rdOwn (i := 0) rfl) (by with_unfolding_all exact ⟨_, rfl, rfl⟩) ?_)))
   go_ret
   unfold RTxt
   rw [hend.out]
   exact ⟨_, _, _, rfl, hF2.tail⟩
  | some x =>
   have hxb := x.toNat_lt
   have hplt := (List.getElem?_eq_some_iff.1 hx).1
   have hstep := jText_step (out := out) hplt
   rw [hx] at hstep
   rw [hl.out] at hplt hstep
   simp only [] at hstep
   replace hx := box hx
   by_cases h34 : x = 34
   ·subst h34
    rw [if_pos rfl] at hstep
    have hend := box (hJ.out.trans hstep)
    clear hstep
    go_wp2_with (first | (with_reducible refine lst (by with_unfolding_all rfl) (wp_fld1 hF Tryz.underlying3 rfl (by with_unfolding_all exact ⟨_, rfl, rfl⟩) rfl ?_)) | (with_reducible refine lst (by with_unfolding_all rfl) (wp_fld1 hF Tryz.underlying22 rfl (by with_unfolding_all exact ⟨_, rfl, rfl⟩) rfl ?_)))
    refine (rwant_in hx.out (hF.blk (i := 1) rfl) (hF.rdB hg hB hr)).mono ?_
    rintro e w2 ⟨rfl, h2⟩
    have hF2 := hF.putF (i := 1) rfl h2
    simp only [List.set_cons_zero, List.set_cons_succ] at hF2
    go_wp2_with (first | (with_reducible refine lst (by with_unfolding_all rfl) (wp_fld1 hF2 Tryz.underlying3 rfl (by with_unfolding_all exact ⟨_, rfl, rfl⟩) rfl ?_)) | (with_reducible refine lst (by with_unfolding_all rfl) (wp_fld1 hF2 Tryz.underlying22 rfl (by with_unfolding_all exact ⟨_, rfl, rfl⟩) rfl ?_)) | ((with_reducible refine lst (by with_unfolding_all rfl) (wp_fst1 hF2 (by with_unfolding_all exact ⟨_, _, rfl, rfl, rfl⟩) (by kernel_rfl) rfl rfl (by rw [rrL_len]; decide) (rrL_at (v := (p' : Int) + 1) (q := p' + 1) (by omega)) ?_)); intro w3 hF3 hz3) | (with_reducible refine lst (by with_unfolding_all rfl) (wp_b2s T_u8 Tryz.underlying5 Tryz.underlying9 (hF3.rdOwn (i := 0) rfl) (by with_unfolding_all exact ⟨_, rfl, rfl⟩) ?_)))
    go_ret
    unfold RTxt
    rw [hend.out]
    exact ⟨rfl, hF3.tail⟩
   have n34 : ((x.toNat : Int) == 34) = false := u8_ne h34
   rw [if_neg h34] at hstep
   by_cases h92 : x = 92
   ·subst h92
    rw [if_pos rfl] at hstep
    have hes := box (fun w' (hF : Fr [g] w w' [Ent.bytes w.heap.size 5 (.slice Ao out.length co) out, .blk g 146 (rrL A n c p' 0 0 m)]) => rescape_any g A n c p' m B b w' (hF.blk (i := 1) rfl) hg (Nat.le_trans hB hF.size) hn hpn (hF.rdB hg hB hr))
    have her := jEscape_er b p'
    cases he : jEscape b p' with
    | error z =>
     rw [he] at hstep hes
     have hend := box (hJ.out.trans hstep)
     have hz2 := box (her _ he)
     unfold REsc at hes
     simp only [] at hes hend
     clear hstep her he
     go_wp2_with (first | (with_reducible refine lst (by with_unfolding_all rfl) (wp_fld1 hF Tryz.underlying3 rfl (by with_unfolding_all exact ⟨_, rfl, rfl⟩) rfl ?_)) | (with_reducible refine lst (by with_unfolding_all rfl) (wp_fld1 hF Tryz.underlying22 rfl (by with_unfolding_all exact ⟨_, rfl, rfl⟩) rfl ?_)))
     refine (rwant_in hx.out (hF.blk (i := 1) rfl) (hF.rdB hg hB hr)).mono ?_
     rintro e w2 ⟨rfl, h2⟩
     have hF2 := hF.putF (i := 1) rfl h2
     simp only [List.set_cons_zero, List.set_cons_succ] at hF2
     go_wp2_with fail
     refine (hes.out _ hF2).mono ?_
     rintro e w3 ⟨he3, p3, m3, h3⟩
     obtain ⟨mz, Az, cz, hmz, hAz⟩ : ∃ (mz : Nat) (Az : Option Addr) (cz : Nat), mz = 0 ∧ Value.slice none 0 0 = .slice Az mz cz := ⟨_, _, _, rfl, rfl⟩
     rw [hAz] at he3
     subst he3
     clear hAz
     have hF3 := hF2.putF (i := 1) rfl h3
     simp only [List.set_cons_zero, List.set_cons_succ] at hF3
     have hrn := box (fun w => (hmz ▸ Rd.nil w (fun _ => True) Az 1 : Rd w (fun _ => True) Az 1 mz (([] : List UInt8).map bv)))
     have room : out.length + mz ≤ 140737488355328 := by have := hol.out; omega
     replace hmz := box hmz
     go_wp2_with (first | ((with_reducible refine lst (by with_unfolding_all rfl) (wp_fapp0 T_u8 hF3 (Nat.le_refl _) (hrn.out w3) (by with_unfolding_all exact ⟨_, _, rfl, rfl, rfl⟩) room ?_)); intro v4 w4 hF4 hz4))
     go_roundg (txM z.2 n p3)
     case rel => exact ⟨out, p3, z.2, z.1, m3, box rfl, box (.inr ⟨hz2.out, hend.out⟩), by rw [List.append_nil] at hF4; exact hF4⟩
     case measure => have := hkg.out; rw [txM_bad hz2.out]; omega
    | ok r =>
     obtain ⟨e, q'⟩ := r
     obtain ⟨he1, he2, he3⟩ := jEscape_len he
     rw [he] at hstep hes
     have hgo := box (hJ.out.trans hstep)
     unfold REsc at hes
     simp only [] at hes hgo
     rw [hl.out] at he3
     have hol2 := hol.out
     have room : out.length + e.length ≤ 140737488355328 := by omega
     clear hstep her he
     go_wp2_with (first | (with_reducible refine lst (by with_unfolding_all rfl) (wp_fld1 hF Tryz.underlying3 rfl (by with_unfolding_all exact ⟨_, rfl, rfl⟩) rfl ?_)) | (with_reducible refine lst (by with_unfolding_all rfl) (wp_fld1 hF Tryz.underlying22 rfl (by with_unfolding_all exact ⟨_, rfl, rfl⟩) rfl ?_)))
     refine (rwant_in hx.out (hF.blk (i := 1) rfl) (hF.rdB hg hB hr)).mono ?_
     rintro e w2 ⟨rfl, h2⟩
     have hF2 := hF.putF (i := 1) rfl h2
     simp only [List.set_cons_zero, List.set_cons_succ] at hF2
     go_wp2_with fail
     refine (hes.out _ hF2).mono ?_
     rintro e w3 ⟨v3, bb, rfl, h3⟩
     obtain ⟨A3, c3, rfl, _, _⟩ := (h3.own (i := 0) rfl).arg
     have hF3 := (hF2.putG (i := 1) rfl (h3.perm (List.Perm.swap _ _ _))).perm List.perm_append_comm
     simp only [List.set_cons_zero, List.set_cons_succ, List.cons_append, List.nil_append] at hF3
     go_wp2_with (first | ((with_reducible refine lst (by with_unfolding_all rfl) (wp_fapp1 T_u8 hF3 (Nat.le_refl _) (hF3.rdOwn (i := 0) rfl) (by with_unfolding_all exact ⟨_, _, rfl, rfl, rfl⟩) room ?_)); intro v4 w4 hF4 hz4))
     go_roundg (txM 0 n q')
     case rel => exact ⟨_, q', 0, 0, m, box rfl, box (.inl ⟨rfl, rfl, rfl, he3, by rw [List.length_append]; omega, hgo.out⟩), hF4.tail⟩
     case measure => have := hkg.out; rw [txM_ok]; omega
   have n92 : ((x.toNat : Int) == 92) = false := u8_ne h92
   rw [if_neg h92] at hstep
   by_cases h32 : x.toNat < 32
   ·rw [if_pos h32] at hstep
    have hend := box (hJ.out.trans hstep)
    have hd : decide ((x.toNat : Int) < 32) = true := decide_eq_true (by omega)
    clear hstep h34 h92 h32
    go_wp2_with (first | (with_reducible refine lst (by with_unfolding_all rfl) (wp_fld1 hF Tryz.underlying3 rfl (by with_unfolding_all exact ⟨_, rfl, rfl⟩) rfl ?_)) | (with_reducible refine lst (by with_unfolding_all rfl) (wp_fld1 hF Tryz.underlying22 rfl (by with_unfolding_all exact ⟨_, rfl, rfl⟩) rfl ?_)))
    refine (rwant_in hx.out (hF.blk (i := 1) rfl) (hF.rdB hg hB hr)).mono ?_
    rintro e w2 ⟨rfl, h2⟩
    have hF2 := hF.putF (i := 1) rfl h2
    simp only [List.set_cons_zero, List.set_cons_succ] at hF2
    go_wp2_with (first | (with_reducible refine lst (by with_unfolding_all rfl) (wp_fld1 hF2 Tryz.underlying3 rfl (by with_unfolding_all exact ⟨_, rfl, rfl⟩) rfl ?_)) | (with_reducible refine lst (by with_unfolding_all rfl) (wp_fld1 hF2 Tryz.underlying22 rfl (by with_unfolding_all exact ⟨_, rfl, rfl⟩) rfl ?_)))
    refine (rfail_ok g A n c p' m (p', 60) _ (hF2.blk (i := 1) rfl)).mono ?_
    rintro e w3 ⟨rfl, h3⟩
    have hF3 := hF2.putF (i := 1) rfl h3
    simp only [List.set_cons_zero, List.set_cons_succ] at hF3
    go_wp2_with (first | (with_reducible refine lst (by with_unfolding_all rfl) (wp_b2s T_u8 Tryz.underlying5 Tryz.underlying9 (hF3.rdOwn (i := 0) rfl) (by with_unfolding_all exact ⟨_, rfl, rfl⟩) ?_)))
    go_ret
    unfold RTxt
    rw [hend.out]
    exact ⟨_, _, _, rfl, hF3.tail⟩
   rw [if_neg h32] at hstep
   have hd : decide ((x.toNat : Int) < 32) = false := decide_eq_false (by omega)
   have hbl : (b.drop p').length = n - p' := by rw [List.length_drop, hl.out]
   obtain ⟨hs1, hs2⟩ := jSize_le (b.drop p')
   have htl : ((b.drop p').take (jSize (b.drop p'))).length = jSize (b.drop p') := by rw [List.length_take]; omega
   have hrc := box (fun w' (hF : Fr [g] w w' [Ent.bytes w.heap.size 5 (.slice Ao out.length co) out, .blk g 146 (rrL A n c p' 0 0 m)]) => by
    have h := cut_rd (m := c) (hF.rdB hg hB hr) (show p' ≤ n by omega) (Nat.le_refl n) hnc
    rw [List.take_of_length_le (by have := hl.out; omega)] at h
    exact (rsize_any (cutA A p' c) (n - p') (c - p') (b.drop p') w' _ (by omega) h).mono (fun e w2 h2 => (⟨h2.1, h2.2 ▸ Below.refl _ _⟩ : e = .returned (.int .i64 (jSize (b.drop p') : Int)) ∧ Below w'.heap.size w' w2)))
   rw [hbl] at hs1
   generalize hsz : jSize (b.drop p') = sz at *
   replace hstep := box (hJ.out.trans hstep)
   replace hbl := box hbl
   clear h34 h92 h32 hJ
   go_wp2_with (first | (with_reducible refine lst (by with_unfolding_all rfl) (wp_fld1 hF Tryz.underlying3 rfl (by with_unfolding_all exact ⟨_, rfl, rfl⟩) rfl ?_)) | (with_reducible refine lst (by with_unfolding_all rfl) (wp_fld1 hF Tryz.underlying22 rfl (by with_unfolding_all exact ⟨_, rfl, rfl⟩) rfl ?_)))
   refine (rwant_in hx.out (hF.blk (i := 1) rfl) (hF.rdB hg hB hr)).mono ?_
   rintro e w2 ⟨rfl, h2⟩
   have hF2 := hF.putF (i := 1) rfl h2
   simp only [List.set_cons_zero, List.set_cons_succ] at hF2
   have hrk := box (fun w' (hF : Fr [g] w w' [Ent.bytes w.heap.size 5 (.slice Ao out.length co) out, .blk g 146 (rrL A n c p' 0 0 m)]) => hF.rdB hg hB hr)
   clear hF
   go_upto_region 12 with fail
   have hFd := hF2.drew
   clear hF2
   refine wp_region_held (S := fun w' => w'.heap[g]? = some (.cells (List.toArray (rrL A n c p' 0 0 m)) 146 (0, 0))) (by kernel_rfl) ?_
   change wpAnyH _ _ _ _ _ _ _ _ (World.drew _)
   refine tkp 0 (hFd.blk (i := 1) rfl) ?_
   (try simp only [Act.put, List.setIfInBounds_toArray, List.set_cons_zero, List.set_cons_succ])
   refine tkp 1 (hFd.blk (i := 1) rfl) ?_
   (try simp only [Act.put, List.setIfInBounds_toArray, List.set_cons_zero, List.set_cons_succ])
   refine tkp 2 (hFd.blk (i := 1) rfl) ?_
   (try simp only [Act.put, List.setIfInBounds_toArray, List.set_cons_zero, List.set_cons_succ])
   refine tky 3 (y := yi_fld (by with_unfolding_all rfl) (fun _ h => h) Tryz.underlying22 rfl (by with_unfolding_all exact ⟨_, rfl, rfl⟩) rfl) (s := (hFd.blk (i := 1) rfl)) (h := ?_)
   (try simp only [Act.put, List.setIfInBounds_toArray, List.set_cons_zero, List.set_cons_succ])
   refine tkp 4 (hFd.blk (i := 1) rfl) ?_
   (try simp only [Act.put, List.setIfInBounds_toArray, List.set_cons_zero, List.set_cons_succ])
   refine tkp 5 (hFd.blk (i := 1) rfl) ?_
   (try simp only [Act.put, List.setIfInBounds_toArray, List.set_cons_zero, List.set_cons_succ])
   refine tkp 6 (hFd.blk (i := 1) rfl) ?_
   (try simp only [Act.put, List.setIfInBounds_toArray, List.set_cons_zero, List.set_cons_succ])
   refine tky 7 (y := yi_fld (by with_unfolding_all rfl) (fun _ h => h) Tryz.underlying3 rfl (by with_unfolding_all exact ⟨_, rfl, rfl⟩) rfl) (s := (hFd.blk (i := 1) rfl)) (h := ?_)
   (try simp only [Act.put, List.setIfInBounds_toArray, List.set_cons_zero, List.set_cons_succ])
   refine tky 8 (y := yi_cut (by with_unfolding_all rfl) T_u8 (lo := some (p' : Int)) (hi := none) (mx := none) (l := p') (h := n) (m := c) (by with_unfolding_all exact ⟨_, _, _, _, .i64, .i64, .i64, rfl, rfl, rfl, rfl, rfl⟩) (by simp; done) (by simp; done) (by simp; done) (by simp) (by omega) (by omega) (by omega) (by omega)) (s := (hFd.blk (i := 1) rfl)) (h := ?_)
   (try simp only [Act.put, List.setIfInBounds_toArray, List.set_cons_zero, List.set_cons_succ])
   refine rdy1 9 (fun K hK => ?_)
   refine stp (by with_unfolding_all rfl) (wp_call Tryz.func104 rfl (by with_unfolding_all rfl) (by with_unfolding_all rfl) (by with_unfolding_all rfl) (hrc.out _ hFd) ?_)
   rintro e w21 ⟨rfl, hb21⟩
   refine ⟨_, rfl, ?_⟩
   have hF21 := hFd.call hb21
   refine hK.out _ _ ((hF21.blk (i := 1) rfl)) (fun _ => ?_)
   clear hK K
   (try simp only [Act.put, List.setIfInBounds_toArray, List.set_cons_zero, List.set_cons_succ])
   refine tkp 10 (hF21.blk (i := 1) rfl) ?_
   (try simp only [Act.put, List.setIfInBounds_toArray, List.set_cons_zero])
   refine wpAnyH_done (by kernel_rfl) ?_ _
   by_cases hz : sz = 0
   ·have hst := hstep.out
    rw [if_pos hz] at hst
    have hend := box hst
    have hz0 : ((sz : Int) == 0) = true := by rw [hz]; rfl
    have hd0 : decide (0 < sz) = false := decide_eq_false (by omega)
    have hps : p' + sz ≤ n := by omega
    clear hst hrc htl
    replace hz := box hz
    go_wp2_with (first | (with_reducible refine lst (by with_unfolding_all rfl) (wp_fld1 hF21 Tryz.underlying3 rfl (by with_unfolding_all exact ⟨_, rfl, rfl⟩) rfl ?_)) | (with_reducible refine lst (by with_unfolding_all rfl) (wp_fld1 hF21 Tryz.underlying22 rfl (by with_unfolding_all exact ⟨_, rfl, rfl⟩) rfl ?_)))
    refine (rfail_ok g A n c p' m (p', 61) _ (hF21.blk (i := 1) rfl)).mono ?_
    rintro e w40 ⟨rfl, h40⟩
    have hF40 := hF21.putF (i := 1) rfl h40
    simp only [List.set_cons_zero, List.set_cons_succ] at hF40
    go_wp2_with fail
    go_loopg [3, 6] 0 (fun k v i wr => v = .slice Ao out.length co ∧ i = .int .i64 0 ∧ wr = w40)
    case atStart => exact ⟨rfl, rfl, rfl⟩
    case round =>
     obtain ⟨rfl, rfl, rfl⟩ := hrel
     go_wp2_with (first | (with_reducible refine lst (by with_unfolding_all rfl) (wp_fld1 hF40 Tryz.underlying3 rfl (by with_unfolding_all exact ⟨_, rfl, rfl⟩) rfl ?_)) | (with_reducible refine lst (by with_unfolding_all rfl) (wp_fld1 hF40 Tryz.underlying22 rfl (by with_unfolding_all exact ⟨_, rfl, rfl⟩) rfl ?_)) | ((with_reducible refine lst (by with_unfolding_all rfl) (wp_fst1 hF40 (by with_unfolding_all exact ⟨_, _, rfl, rfl, rfl⟩) (by kernel_rfl) rfl rfl (by rw [rrL_len]; decide) (rrL_at (v := (p' : Int) + (sz : Int)) (q := p' + sz) (by omega)) ?_)); intro w41 hF41 hz41))
     go_roundg (txM 61 n (p' + sz))
     case rel => exact ⟨out, p' + sz, 61, p', m, box rfl, box (.inr ⟨by decide, hend.out⟩), hF41⟩
     case measure => have := hkg.out; rw [txM_bad (by decide)]; omega
   have hst := hstep.out
   rw [if_neg hz] at hst
   have hgo := box hst
   have hz0 : ((sz : Int) == 0) = false := by rw [beq_eq_false_iff_ne]; omega
   have hps : p' + sz ≤ n := by omega
   have hol2 := hol.out
   clear hst hrc
   replace hz := box hz
   go_wp2_with fail
   go_loopg [3, 6] sz (fun k v i wr => ∃ (j : Nat) (L : List UInt8), j ≤ sz ∧ Box (k = sz - j) ∧ i = .int .i64 (j : Int) ∧ L.length ≤ out.length + j ∧ Box (L = out ++ (b.drop p').take j) ∧ Fr [g] w wr [Ent.bytes w.heap.size 5 v L, .blk g 146 (rrL A n c p' 0 0 m)])
   case atStart => exact ⟨0, out, by omega, box rfl, rfl, by omega, box (by rw [List.take_zero, List.append_nil]), hF21⟩
   case round =>
    clear hF21
    obtain ⟨j, L, hj, hkj, rfl, hjl, hLe, hF⟩ := hrel
    have hkk : Box (_ = sz - j) := hkj
    clear hkj
    obtain ⟨Aj, cj, rfl, hcj, hrj⟩ := (hF.own (i := 0) rfl).arg
    by_cases hlt : j < sz
    ·obtain ⟨y, hy⟩ : ∃ y, b[p' + j]? = some y := ⟨b[p' + j]'(by rw [hl.out]; omega), by simp⟩
     have hyv : Box ((b.map bv)[(p' + j) * 1]? = some (bv y)) := box (by rw [Nat.mul_one, List.getElem?_map, hy]; rfl)
     have hta : Box ((b.drop p').take j ++ [y] = (b.drop p').take (j + 1)) := box (by rw [List.take_add_one, List.getElem?_drop, hy]; rfl)
     have hw1 : IntKind.i64.wrap ((p' : Int) + (j : Int)) = (p' : Int) + (j : Int) := IntWalk.i64_in _ (by omega)
     have hpj : p' + j < n := by omega
     clear hy
     go_upto_region 18 with fail
     have hFe := hF.drew
     clear hF
     refine wp_region_held (S := fun w' => w'.heap[g]? = some (.cells (List.toArray (rrL A n c p' 0 0 m)) 146 (0, 0)) ∧ Rd w' (· < B) A 1 n (b.map bv)) (by kernel_rfl) ?_
     change wpAnyH _ _ _ _ _ _ _ _ (World.drew _)
     refine tkp 0 ⟨hFe.blk (i := 1) rfl, hFe.rdB hg hB hr⟩ ?_
     (try simp only [Act.put, List.setIfInBounds_toArray, List.set_cons_zero, List.set_cons_succ])
     refine tkp 1 ⟨hFe.blk (i := 1) rfl, hFe.rdB hg hB hr⟩ ?_
     (try simp only [Act.put, List.setIfInBounds_toArray, List.set_cons_zero, List.set_cons_succ])
     refine tkp 2 ⟨hFe.blk (i := 1) rfl, hFe.rdB hg hB hr⟩ ?_
     (try simp only [Act.put, List.setIfInBounds_toArray, List.set_cons_zero, List.set_cons_succ])
     refine tkp 3 ⟨hFe.blk (i := 1) rfl, hFe.rdB hg hB hr⟩ ?_
     (try simp only [Act.put, List.setIfInBounds_toArray, List.set_cons_zero, List.set_cons_succ])
     refine tky 4 (y := yi_fld (by with_unfolding_all rfl) (fun _ h => h.1) Tryz.underlying22 rfl (by with_unfolding_all exact ⟨_, rfl, rfl⟩) rfl) (s := ⟨hFe.blk (i := 1) rfl, hFe.rdB hg hB hr⟩) (h := ?_)
     (try simp only [Act.put, List.setIfInBounds_toArray, List.set_cons_zero, List.set_cons_succ])
     refine tkp 5 ⟨hFe.blk (i := 1) rfl, hFe.rdB hg hB hr⟩ ?_
     (try simp only [Act.put, List.setIfInBounds_toArray, List.set_cons_zero, List.set_cons_succ])
     refine tkp 6 ⟨hFe.blk (i := 1) rfl, hFe.rdB hg hB hr⟩ ?_
     (try simp only [Act.put, List.setIfInBounds_toArray, List.set_cons_zero, List.set_cons_succ])
     refine tkp 7 ⟨hFe.blk (i := 1) rfl, hFe.rdB hg hB hr⟩ ?_
     (try simp only [Act.put, List.setIfInBounds_toArray, List.set_cons_zero, List.set_cons_succ])
     refine tky 8 (y := yi_fld (by with_unfolding_all rfl) (fun _ h => h.1) Tryz.underlying3 rfl (by with_unfolding_all exact ⟨_, rfl, rfl⟩) rfl) (s := ⟨hFe.blk (i := 1) rfl, hFe.rdB hg hB hr⟩) (h := ?_)
     (try simp only [Act.put, List.setIfInBounds_toArray, List.set_cons_zero, List.set_cons_succ])
     refine tkp 9 ⟨hFe.blk (i := 1) rfl, hFe.rdB hg hB hr⟩ ?_
     (try simp only [Act.put, List.setIfInBounds_toArray, List.set_cons_zero, List.set_cons_succ])
     refine tkp 10 ⟨hFe.blk (i := 1) rfl, hFe.rdB hg hB hr⟩ ?_
     (try simp only [Act.put, List.setIfInBounds_toArray, List.set_cons_zero, List.set_cons_succ])
     refine tky 11 (y := yi_ix (by with_unfolding_all rfl) T_u8 (fun h => hr.some_ h) (k := p' + j) (by with_unfolding_all exact ⟨_, _, _, _, rfl, rfl, rfl⟩) (by first | rfl | omega) (by omega)) (s := ⟨hFe.blk (i := 1) rfl, hFe.rdB hg hB hr⟩) (h := ?_)
     (try simp only [Act.put, List.setIfInBounds_toArray, List.set_cons_zero, List.set_cons_succ])
     refine tky 12 (y := yi_ld (by with_unfolding_all rfl) (j := (p' + j) * 1) (fun _ h => h.2) Tryz.underlying5 rfl (by with_unfolding_all exact ⟨_, rfl, rfl⟩) hyv.out) (s := ⟨hFe.blk (i := 1) rfl, hFe.rdB hg hB hr⟩) (h := ?_)
     (try simp only [Act.put, List.setIfInBounds_toArray, List.set_cons_zero, List.set_cons_succ])
     refine rdy1 13 (fun K hK => ?_)
     refine stp (by with_unfolding_all rfl) (wp_fbsl T_u8 hFe (vs := [bv y]) (by with_unfolding_all rfl) (by with_unfolding_all rfl) (by with_unfolding_all rfl) (by decide) (by simp [bv, Value.cells]) ?_)
     intro w61 g61 hF61 hz61
     replace hF61 : Fr _ _ w61 (Ent.bytes _ 5 (.slice (some ⟨g61, 0, none⟩) 1 1) [y] :: _) := hF61
     refine hK.out _ _ (⟨hF61.blk (i := 2) rfl, hF61.rdB hg hB hr⟩) (fun _ => ?_)
     clear hK K
     (try simp only [Act.put, List.setIfInBounds_toArray, List.set_cons_zero, List.set_cons_succ])
     refine rdy1 14 (fun K hK => ?_)
     refine stp (by with_unfolding_all rfl) (wp_fapp T_u8 hF61 (i := 1) (l := L) rfl (Nat.le_refl _) (hF61.rdOwn (i := 0) rfl) (by with_unfolding_all exact ⟨_, _, rfl, rfl, rfl⟩) (by omega) ?_)
     intro v62 w62 hF62 hz62
     refine hK.out _ _ (⟨hF62.blk (i := 2) rfl, hF62.rdB hg hB hr⟩) (fun _ => ?_)
     clear hK K
     (try simp only [Act.put, List.setIfInBounds_toArray, List.set_cons_zero, List.set_cons_succ])
     refine tkp 15 ⟨hF62.blk (i := 2) rfl, hF62.rdB hg hB hr⟩ ?_
     (try simp only [Act.put, List.setIfInBounds_toArray, List.set_cons_zero])
     refine wpAnyH_done (by kernel_rfl) ?_ _
     go_wp2_with fail
     go_roundg (sz - (j + 1))
     case rel => exact ⟨j + 1, L ++ [y], by omega, box rfl, by go_num, by rw [List.length_append]; simp only [List.length_cons, List.length_nil]; omega, box (by rw [hLe.out, List.append_assoc, hta.out]), hF62.tail⟩
     case measure => have := hkk.out; omega
    ·obtain rfl : sz = j := by omega
     go_wp2_with (first | (with_reducible refine lst (by with_unfolding_all rfl) (wp_fld1 hF Tryz.underlying3 rfl (by with_unfolding_all exact ⟨_, rfl, rfl⟩) rfl ?_)) | (with_reducible refine lst (by with_unfolding_all rfl) (wp_fld1 hF Tryz.underlying22 rfl (by with_unfolding_all exact ⟨_, rfl, rfl⟩) rfl ?_)) | ((with_reducible refine lst (by with_unfolding_all rfl) (wp_fst1 hF (by with_unfolding_all exact ⟨_, _, rfl, rfl, rfl⟩) (by kernel_rfl) rfl rfl (by rw [rrL_len]; decide) (rrL_at (v := (p' : Int) + (sz : Int)) (q := p' + sz) (by omega)) ?_)); intro w41 hF41 hz41))
     go_roundg (txM 0 n (p' + sz))
     case rel => exact ⟨L, p' + sz, 0, 0, m, box rfl, box (.inl ⟨rfl, rfl, rfl, by omega, by omega, by rw [hLe.out]; exact hgo.out⟩), hF41⟩
     case measure => have := hkg.out; have := hz.out; rw [txM_ok]; omega
end Go.Proofs.YtlhicfpmlncomaaGreatDoor

namespace Go.Proofs.YtlhicfpmlncomaaGreatDoor
open Go.RowKit
set_option linter.unusedSimpArgs false
set_option linter.unusedVariables false
/-- A reading stands so: it is K; or a fault stands in the reader. -/
def JS {α : Type} (J : JR α) (f wh : Nat) (K : JR α) : Prop := (0 = f ∧ 0 = wh ∧ J = K) ∨ (f ≠ 0 ∧ J = .error (wh, f))
/-- One reading behind the other. -/
def jb {α β : Type} (r : JR α) (k : α → JR β) : JR β := match r with
 | .ok a => k a
 | .error x => .error x
/-- What a method reads: nothing behind a fault. -/
def jr {α : Type} (f wh : Nat) (r : JR α) : JR α := if f = 0 then r else .error (wh, f)
theorem jr_ok {α : Type} {wh : Nat} {r : JR α} : jr 0 wh r = r := if_pos rfl
theorem jr_bad {α : Type} {f wh : Nat} {r : JR α} (h : f ≠ 0) : jr f wh r = .error (wh, f) := if_neg h
theorem JS.step {α β : Type} {J : JR β} {f wh f' wh' : Nat} {r : JR α} {k : α → JR β} {a : α} (h : JS J f wh (jb r k)) (h' : JS (jr f wh r) f' wh' (.ok a)) : JS J f' wh' (k a) := by
 rcases h with ⟨rfl, rfl, hJ⟩ | ⟨hf, hJ⟩
 ·rw [jr_ok] at h'
  rcases h' with ⟨rfl, rfl, hr⟩ | ⟨hf', hr⟩
  ·exact .inl ⟨rfl, rfl, by rw [hJ, hr]; rfl⟩
  ·exact .inr ⟨hf', by rw [hJ, hr]; rfl⟩
 ·rw [jr_bad hf] at h'
  rcases h' with ⟨_, _, hr⟩ | ⟨hf', hr⟩
  ·cases hr
  ·injection hr with hr
   injection hr with h1 h2
   subst h1 h2
   exact .inr ⟨hf, hJ⟩
theorem JS.bad {α β : Type} {J : JR β} {f wh f' wh' : Nat} {r : JR α} {k : α → JR β} (h : JS J f wh (jb r k)) (hf : f' ≠ 0) (h' : jr f wh r = .error (wh', f')) (K : JR β) : JS J f' wh' K := by
 rcases h with ⟨rfl, rfl, hJ⟩ | ⟨hf2, hJ⟩
 ·rw [jr_ok] at h'
  exact .inr ⟨hf, by rw [hJ, h']; rfl⟩
 ·rw [jr_bad hf2] at h'
  injection h' with h'
  injection h' with h1 h2
  subst h1 h2
  exact .inr ⟨hf2, hJ⟩
theorem JS.wh0 {α : Type} {J : JR α} {f wh : Nat} {K : JR α} (h : JS J f wh K) (hf : f = 0) : wh = 0 := by
 rcases h with ⟨_, h, _⟩ | ⟨h, _⟩
 ·exact h.symm
 ·exact absurd hf h
theorem JS.eq {α : Type} {J : JR α} {f wh : Nat} {K : JR α} (h : JS J f wh K) (hf : f = 0) : J = K := by
 rcases h with ⟨_, _, h⟩ | ⟨h, _⟩
 ·exact h
 ·exact absurd hf h
theorem JS.err {α : Type} {J : JR α} {f wh : Nat} {K : JR α} (h : JS J f wh K) (hf : f ≠ 0) : J = .error (wh, f) := by
 rcases h with ⟨h, _, _⟩ | ⟨_, h⟩
 ·exact absurd h.symm hf
 ·exact h
theorem JS.congr {α : Type} {J : JR α} {f wh : Nat} {K K' : JR α} (h : JS J f wh K) (hk : f = 0 → K = K') : JS J f wh K' := by
 rcases h with ⟨h1, h2, h⟩ | ⟨h1, h⟩
 ·exact .inl ⟨h1, h2, by rw [h, hk h1.symm]⟩
 ·exact .inr ⟨h1, h⟩
/-- jName, one reading behind the other. -/
theorem jName_jb (b : List UInt8) (names : List (List UInt8)) (p : Nat) : jName b names p = jb (jText b p) fun x => jb (if x.1 ∈ names then (.error (p, 7) : JR Unit) else .ok ()) fun _ => jb (jWord b [58] (jBlanks b x.2)) fun r => .ok (x.1, jBlanks b r) := by
 unfold jName jb
 cases jText b p with
 | error x => rfl
 | ok x =>
  obtain ⟨s, q⟩ := x
  simp only []
  split
  ·rfl
  ·cases jWord b [58] (jBlanks b q) <;> rfl
/-- What stands in a list or an object behind a name. -/
def jC (b : List UInt8) (kind : Int) (fin : UInt8) (val : Nat → Nat → JR (JV × Nat × Nat)) (f q m : Nat) (names : List (List UInt8)) (kids : List JV) : JR (JV × Nat × Nat) :=
 jb (val q m) fun x => jb (jNext b (jBlanks b x.2.1)) fun c =>
  if c = fin then .ok (.mk kind 0 [] names (kids ++ [x.1]), jBlanks b x.2.1 + 1, x.2.2)
  else jb (jWord b [44] (jBlanks b x.2.1)) fun t => jManyL b kind fin val f (jBlanks b t) x.2.2 names (kids ++ [x.1])
theorem jC_eq (b : List UInt8) (kind : Int) (fin : UInt8) (val : Nat → Nat → JR (JV × Nat × Nat)) (f q m : Nat) (names : List (List UInt8)) (kids : List JV) : jC b kind fin val f q m names kids = match val q m with
      | .error x => .error x
      | .ok (v, r, m') =>
        match jNext b (jBlanks b r) with
        | .error x => .error x
        | .ok c =>
          if c = fin then .ok (.mk kind 0 [] names (kids ++ [v]), jBlanks b r + 1, m')
          else match jWord b [44] (jBlanks b r) with
            | .error x => .error x
            | .ok t => jManyL b kind fin val f (jBlanks b t) m' names (kids ++ [v]) := by
 unfold jC jb
 cases val q m with
 | error x => rfl
 | ok x =>
  obtain ⟨v, r, m'⟩ := x
  simp only []
  cases jNext b (jBlanks b r) with
  | error x => rfl
  | ok c =>
   simp only []
   split
   ·rfl
   ·cases jWord b [44] (jBlanks b r) <;> rfl
theorem jManyL_5 (b : List UInt8) (fin : UInt8) (val : Nat → Nat → JR (JV × Nat × Nat)) (f p m : Nat) (names : List (List UInt8)) (kids : List JV) : jManyL b 5 fin val (f + 1) p m names kids = jC b 5 fin val f p m names kids := by
 rw [jC_eq, jManyL_go (s := []) (q := p) (by rw [if_neg (by decide)]), if_neg (by decide)]
 rfl
theorem jManyL_6 (b : List UInt8) (fin : UInt8) (val : Nat → Nat → JR (JV × Nat × Nat)) (f p m : Nat) (names : List (List UInt8)) (kids : List JV) : jManyL b 6 fin val (f + 1) p m names kids = jb (jName b names p) fun x => jC b 6 fin val f x.2 m (names ++ [x.1]) kids := by
 cases h : jName b names p with
 | error x => exact jManyL_bad (by rw [if_pos rfl, h])
 | ok x => rw [jManyL_go (s := x.1) (q := x.2) (by rw [if_pos rfl, h]), if_pos rfl]; show _ = jC b 6 fin val f x.2 m (names ++ [x.1]) kids; rw [jC_eq]; rfl
theorem jManyL_none {b : List UInt8} {kind : Int} {fin : UInt8} {d f p m : Nat} {names : List (List UInt8)} {kids : List JV} (hk : kind = 5 ∨ kind = 6) (hx : b[p]? = none) : jManyL b kind fin (jValue b d) (f + 1) p m names kids = .error (b.length, 9) := by
 rcases hk with rfl | rfl
 ·rw [jManyL_5]
  have hv : jValue b d p m = .error (b.length, 9) := by
   cases d with
   | zero => rw [jValue]; unfold jValueW; rw [hx]
   | succ d => rw [jValue]; unfold jValueW; rw [hx]
  unfold jC
  rw [hv]
  rfl
 ·rw [jManyL_6, jName_jb]
  have ht : jText b p = .error (b.length, 9) := by
   unfold jText
   rw [jWord_end hx]
  rw [ht]
  rfl
/-- How a list or an object begins. -/
def mK (b : List UInt8) (kind : Int) (fin : UInt8) (val : Nat → Nat → JR (JV × Nat × Nat)) (mb : Bool) (f p m : Nat) (names : List (List UInt8)) (kids : List JV) : JR (JV × Nat × Nat) :=
 if mb = true then jManyL b kind fin val f p m names kids
 else jb (jNext b p) fun c => if c = fin then .ok (.mk kind 0 [] [] [], p + 1, m) else jManyL b kind fin val f p m names kids
theorem jMany_mK (b : List UInt8) (kind : Int) (fin : UInt8) (val : Nat → Nat → JR (JV × Nat × Nat)) (p m : Nat) : jMany b kind fin (some val) p m = mK b kind fin val false (b.length + 1 - (p + 1)) (jBlanks b (p + 1)) m [] [] := by
 unfold jMany mK jb
 rw [if_neg (by decide)]
 cases jNext b (jBlanks b (p + 1)) <;> rfl
theorem mK_none {b : List UInt8} {kind : Int} {fin : UInt8} {d f p m : Nat} {mb : Bool} {names : List (List UInt8)} {kids : List JV} (hk : kind = 5 ∨ kind = 6) (hx : b[p]? = none) : mK b kind fin (jValue b d) mb (f + 1) p m names kids = .error (b.length, 9) := by
 unfold mK
 split
 ·exact jManyL_none hk hx
 ·unfold jNext
  rw [hx]
  rfl
theorem mK_in {b : List UInt8} {kind : Int} {fin x : UInt8} {val : Nat → Nat → JR (JV × Nat × Nat)} {f p m : Nat} {mb : Bool} {names : List (List UInt8)} {kids : List JV} (hx : b[p]? = some x) (h : mb = true ∨ x ≠ fin) : mK b kind fin val mb f p m names kids = jManyL b kind fin val f p m names kids := by
 unfold mK
 split
 ·rfl
 ·rename_i hm
  unfold jNext
  rw [hx]
  show (if x = fin then _ else _) = _
  rw [if_neg (h.resolve_left hm)]
theorem mK_end {b : List UInt8} {kind : Int} {fin : UInt8} {val : Nat → Nat → JR (JV × Nat × Nat)} {f p m : Nat} {names : List (List UInt8)} {kids : List JV} (hx : b[p]? = some fin) : mK b kind fin val false f p m names kids = .ok (.mk kind 0 [] [] [], p + 1, m) := by
 unfold mK jNext
 rw [if_neg (by decide), hx]
 show (if fin = fin then _ else _) = _
 rw [if_pos rfl]
theorem RSt.u {w w' : World} {g : Nat} {A : Option Addr} {n c m : Nat} {J : JR Nat} (h : RSt w g A n c m J w') (he : JEr J) : ∃ p' f' wh' m', Fr [g] w w' [.blk g 146 (rrL A n c p' f' wh' m')] ∧ JS J f' wh' (.ok p') ∧ (f' = 0 → m = m') := by
 cases J with
 | ok q => exact ⟨q, 0, 0, m, h, .inl ⟨rfl, rfl, rfl⟩, fun _ => rfl⟩
 | error x =>
  obtain ⟨p', m', hF⟩ := h
  exact ⟨p', x.2, x.1, m', hF, .inr ⟨he x rfl, rfl⟩, fun h => absurd h (he x rfl)⟩
theorem rblanks_u {w : World} {g : Nat} {A : Option Addr} {n c p f wh m B : Nat} {b : List UInt8} (hh : w.heap[g]? = some (.cells (rrL A n c p f wh m).toArray 146 (0, 0))) (hg : B ≤ g) (hB : B ≤ w.heap.size) (hn : n ≤ 65536) (hp : f = 0 → p ≤ n) (hr : Rd w (· < B) A 1 n (b.map bv)) :
  Calls Tryz.prog 71 #[.pointer (some ⟨g, 0, none⟩)] w fun e w' => e = .returned (.tuple #[]) ∧ ∃ p', Fr [g] w w' [.blk g 146 (rrL A n c p' f wh m)] ∧ (f = 0 → p' = jBlanks b p) := by
 by_cases hf : f = 0
 ·subst hf
  exact (rblanks_ok g A n c p wh m B b w hh hg hB (by omega) (hp rfl) hr).mono fun e w' h => ⟨h.1, _, h.2, fun _ => rfl⟩
 ·exact (rblanks_bad g A n c p f wh m B b w hf hh hr).mono fun e w' h => ⟨h.1, _, h.2, fun h => absurd h hf⟩
theorem rword_u {w : World} {g : Nat} {A : Option Addr} {n c p f wh m B : Nat} {b : List UInt8} (s : ByteArray) (hs : s.size ≤ 1000) (hw : f = 0 → wh = 0) (hh : w.heap[g]? = some (.cells (rrL A n c p f wh m).toArray 146 (0, 0))) (hg : B ≤ g) (hB : B ≤ w.heap.size) (hn : n ≤ 65536) (hp : f = 0 → p ≤ n) (hr : Rd w (· < B) A 1 n (b.map bv)) :
  Calls Tryz.prog 100 #[.pointer (some ⟨g, 0, none⟩), .string s] w fun e w' => e = .returned (.tuple #[]) ∧ ∃ p' f' wh' m', Fr [g] w w' [.blk g 146 (rrL A n c p' f' wh' m')] ∧ JS (jr f wh (jWord b s.data.toList p)) f' wh' (.ok p') ∧ (f' = 0 → m = m') := by
 by_cases hf : f = 0
 ·subst hf
  obtain rfl := hw rfl
  exact (rword_ok g A n c p m B b s w hh hg hB (by omega) (hp rfl) hs hr).mono fun e w' h => ⟨h.1, by rw [jr_ok]; exact h.2.u (jWord_er _ _ _)⟩
 ·exact (rword_bad g A n c p f wh m s w hf hh).mono fun e w' h => ⟨h.1, _, _, _, _, h.2, .inr ⟨hf, jr_bad hf⟩, fun _ => rfl⟩
theorem rwant_u {w : World} {g : Nat} {A : Option Addr} {n c p f wh m B : Nat} {b : List UInt8} (hw : f = 0 → wh = 0) (hh : w.heap[g]? = some (.cells (rrL A n c p f wh m).toArray 146 (0, 0))) (hg : B ≤ g) (hB : B ≤ w.heap.size) (hn : n ≤ 65536) (hp : f = 0 → p ≤ n) (hr : Rd w (· < B) A 1 n (b.map bv)) :
  Calls Tryz.prog 99 #[.pointer (some ⟨g, 0, none⟩)] w fun e w' => ∃ (y f' wh' : Nat), e = .returned (.int .i64 (y : Int)) ∧ Fr [g] w w' [.blk g 146 (rrL A n c p f' wh' m)] ∧ ((∃ x : UInt8, b[p]? = some x ∧ y = x.toNat ∧ 0 = f' ∧ 0 = wh' ∧ JS (jr f wh (jNext b p)) f' wh' (.ok x)) ∨ (y = 256 ∧ f' ≠ 0 ∧ jr f wh (jNext b p) = .error (wh', f'))) := by
 by_cases hf : f = 0
 ·subst hf
  obtain rfl := hw rfl
  cases hx : b[p]? with
  | some x => exact (rwant_in hx hh hr).mono fun e w' h => ⟨_, _, _, h.1, h.2, .inl ⟨x, rfl, rfl, rfl, rfl, .inl ⟨rfl, rfl, by rw [jr_ok]; unfold jNext; rw [hx]⟩⟩⟩
  | none => exact (rwant_end hx hh hr).mono fun e w' h => ⟨256, 9, n, h.1, h.2, .inr ⟨rfl, by decide, by rw [jr_ok]; unfold jNext; rw [hx, hr.bytes_len]⟩⟩
 ·exact (rwant_bad hf hh hr).mono fun e w' h => ⟨256, f, wh, h.1, h.2, .inr ⟨rfl, hf, jr_bad hf⟩⟩
theorem rfail_u {w : World} {g : Nat} {A : Option Addr} {n c p f wh m : Nat} (x : Nat × Nat) (hx : x.2 ≠ 0) (hw : f = 0 → wh = 0) (hh : w.heap[g]? = some (.cells (rrL A n c p f wh m).toArray 146 (0, 0))) :
  Calls Tryz.prog 73 #[.pointer (some ⟨g, 0, none⟩), .int .i64 (x.1 : Int), .int .i64 (x.2 : Int)] w fun e w' => e = .returned (.tuple #[]) ∧ ∃ f' wh', f' ≠ 0 ∧ Fr [g] w w' [.blk g 146 (rrL A n c p f' wh' m)] ∧ ∀ α, (jr f wh (.error x) : JR α) = .error (wh', f') := by
 by_cases hf : f = 0
 ·subst hf
  obtain rfl := hw rfl
  exact (rfail_ok g A n c p m x w hh).mono fun e w' h => ⟨h.1, _, _, hx, h.2, fun _ => jr_ok⟩
 ·exact (rfail_bad g A n c p f wh m x.1 x.2 w hf hh).mono fun e w' h => ⟨h.1, _, _, hf, h.2, fun _ => jr_bad hf⟩
theorem rtext_u {w : World} {g : Nat} {A : Option Addr} {n c p m B : Nat} {b : List UInt8} (hh : w.heap[g]? = some (.cells (rrL A n c p 0 0 m).toArray 146 (0, 0))) (hg : B ≤ g) (hB : B ≤ w.heap.size) (hn : n ≤ 65536) (hnc : n ≤ c) (hp : p ≤ n) (hr : Rd w (· < B) A 1 n (b.map bv)) :
  Calls Tryz.prog 102 #[.pointer (some ⟨g, 0, none⟩)] w fun e w' => ∃ (s : List UInt8) (p' f' wh' m' : Nat), e = .returned (.string ⟨s.toArray⟩) ∧ Fr [g] w w' [.blk g 146 (rrL A n c p' f' wh' m')] ∧ JS (jText b p) f' wh' (.ok (s, p')) ∧ (f' = 0 → m = m') := by
 refine (rtext_ok g A n c p m B b w hh hg hB hn hnc hp hr).mono fun e w' h => ?_
 have her := jText_er b p
 unfold RTxt at h
 cases hT : jText b p with
 | ok r =>
  rw [hT] at h
  exact ⟨r.1, r.2, 0, 0, m, h.1, h.2, .inl ⟨rfl, rfl, rfl⟩, fun _ => rfl⟩
 | error x =>
  rw [hT] at h
  obtain ⟨s, p', m', he, hF⟩ := h
  exact ⟨s.data.toList, p', x.2, x.1, m', he, hF, .inr ⟨her x hT, rfl⟩, fun h => absurd h (her x hT)⟩
/-- A value is told, before a fault or behind one. -/
def RValU (w : World) (g : Nat) (A : Option Addr) (n c : Nat) (J : JR (JV × Nat × Nat)) (e : Ending) (w' : World) : Prop :=
 ∃ cs es v p' f' wh' m', e = .returned (.agg cs.toArray) ∧ VT v cs es ∧ Fr [g] w w' (.blk g 146 (rrL A n c p' f' wh' m') :: es) ∧ JS J f' wh' (.ok (v, p', m'))
theorem RVal.u {w w' : World} {g : Nat} {A : Option Addr} {n c : Nat} {J : JR (JV × Nat × Nat)} {e : Ending} (h : RVal w g A n c J e w') (he : JEr J) : RValU w g A n c J e w' := by
 obtain ⟨cs, es, rfl, h⟩ := h
 cases J with
 | ok x =>
  obtain ⟨v, q, m'⟩ := x
  exact ⟨cs, es, v, q, 0, 0, m', rfl, h.1, h.2, .inl ⟨rfl, rfl, rfl⟩⟩
 | error x =>
  obtain ⟨v, p', m', hv, hF⟩ := h
  exact ⟨cs, es, v, p', x.2, x.1, m', rfl, hv, hF, .inr ⟨he x rfl, rfl⟩⟩
theorem RVal.of {w w' : World} {g : Nat} {A : Option Addr} {n c p f wh m : Nat} {J : JR (JV × Nat × Nat)} {v : JV} {cs : List Value} {es : List Ent} (hv : VT v cs es) (hF : Fr [g] w w' (.blk g 146 (rrL A n c p f wh m) :: es)) (h : JS J f wh (.ok (v, p, m))) : RVal w g A n c J (.returned (.agg cs.toArray)) w' := by
 rcases h with ⟨rfl, rfl, rfl⟩ | ⟨hf, rfl⟩
 ·exact ⟨cs, es, rfl, hv, hF⟩
 ·exact ⟨cs, es, rfl, v, p, m, hv, hF⟩
/-- The reader of values keeps its word at a depth. -/
def RValueOk (d deep : Nat) : Prop := ∀ (w : World) (g : Nat) (A : Option Addr) (n c p f wh m B : Nat) (b : List UInt8), w.heap[g]? = some (.cells (rrL A n c p f wh m).toArray 146 (0, 0)) → B ≤ g → B ≤ w.heap.size → n ≤ 65536 → n ≤ c → (f = 0 → wh = 0) → (f = 0 → p ≤ n) → (f = 0 → m ≤ 4096) → Rd w (· < B) A 1 n (b.map bv) →
 Calls Tryz.prog 72 #[.pointer (some ⟨g, 0, none⟩), .int .i64 (deep : Int)] w (RValU w g A n c (jr f wh (jValue b d p m)))
end Go.Proofs.YtlhicfpmlncomaaGreatDoor
