/-
 Layer 6: the walk of the program's reader of texts.
 A cheap look at a region's order: the look that the kit's quiet walk asks for, out of a list of numbers. No program is named here.
 Layer 6 in plain words: numbers, and the library's Itoa and Atoi. No program is named here.
-/
import Derived.Test.YtlhicfpmlncomaaGreatDoorQ05
import Derived.Test.YtlhicfpmlncomaaGreatDoorQ03
import Derived.Deep.Quiet
import Derived.BigQuiet
import Derived.Test.YtlhicfpmlncomaaGreatDoorQ01
import Derived.Lib.ItoaNum
import Derived.Lib.AtoiAll
namespace Go.Proofs.YtlhicfpmlncomaaGreatDoor
open Go.RowKit
set_option linter.unusedSimpArgs false
/-- The library's variables that lie below B hold what they were laid with. -/
structure LibsAt (B : Nat) (w : World) : Prop where
 u8 : ∀ w', Below B w w' → U8Tabs w'
 pow : Lib.TabBelow Tryz.prog B w "internal/strconv.uint64pow10" .u64 Lib.pow10Tab
 syn : ∃ tp p, ∀ w', Below B w w' → w'.var? Tryz.prog "strconv.ErrSyntax" = some #[.iface tp p]
 rng : ∃ tp p, ∀ w', Below B w w' → w'.var? Tryz.prog "strconv.ErrRange" = some #[.iface tp p]
theorem LibsAt.on {B : Nat} {w w' : World} (h : LibsAt B w) (hb : Below B w w') : LibsAt B w' :=
 ⟨fun w'' h2 => h.u8 w'' (hb.trans h2), h.pow.on hb, h.syn.imp fun _ h => h.imp fun _ h w'' h2 => h w'' (hb.trans h2), h.rng.imp fun _ h => h.imp fun _ h w'' h2 => h w'' (hb.trans h2)⟩
theorem LibsAt.tabs {B : Nat} {w : World} (h : LibsAt B w) : U8Tabs w := h.u8 w (Below.refl _ _)
theorem Fr.belowG {w w' : World} {g B : Nat} {es : List Ent} (hF : Fr [g] w w' es) (hg : B ≤ g) (hB : B ≤ w.heap.size) : Below B w w' :=
 ⟨hF.os, hF.tape, hF.output, hF.size, fun k hk => hF.block k (by omega) (by simp; omega)⟩
/-- A text is told, and the reader's place. -/
def ToldS (w : World) (g : Nat) (A : Option Addr) (n c m : Nat) (x : List UInt8 × Nat) (e : Ending) (w' : World) : Prop :=
 e = .returned (.string ⟨x.1.toArray⟩) ∧ Fr [g] w w' [.blk g 127 (rdrL A n c x.2 m)]
set_option maxRecDepth 20000 in
set_option maxHeartbeats 6400000 in
theorem text_any (g : Nat) (A : Option Addr) (n c p m B : Nat) (b : List UInt8) (w : World) (hL : LibsAt B w) (hh : w.heap[g]? = some (.cells (rdrL A n c p m).toArray 127 (0, 0))) (hg : B ≤ g) (hB : B ≤ w.heap.size) (hn : n ≤ 65536) (hnc : n ≤ c) (hp : p ≤ n) (hr : Rd w (· < B) A 1 n (b.map bv)) :
  Calls Tryz.prog 88 #[.pointer (some ⟨g, 0, none⟩)] w (JEndP w g (jText b p) (ToldS w g A n c m)) := by
 have hl := box hr.bytes_len
 have hF0 := Fr.one hh
 have hwd := box (word_any g A n c p m B b ⟨#[34]⟩ w hh hg hB (by omega) hp (by decide) hr)
 clear hh
 have hT : jText b p = match jWord b [34] p with
  | .error x => .error x
  | .ok q => jTextL b (b.length + 1 - q) q [] := rfl
 cases hW : jWord b [34] p with
 | error z =>
  rw [hW] at hT
  have hwd' := hwd.out
  rw [show ((⟨#[34]⟩ : ByteArray).data.toList) = [34] from rfl, hW] at hwd'
  unfold JPost at hwd'
  simp only [] at hT hwd'
  replace hT := box hT
  replace hwd' := box hwd'
  clear hwd
  go_enter Tryz.func88, Tryz.ntmps88
  go_wp2_with fail
  refine hwd'.out.mono ?_
  rintro e w1 ⟨rfl, hg1⟩
  dsimp only [flt]
  go_wp2
  exact ⟨rfl, by unfold JEndP; rw [hT.out]; exact ⟨rfl, hg1⟩⟩
 | ok q =>
  rw [hW] at hT
  have hwd' := hwd.out
  rw [show ((⟨#[34]⟩ : ByteArray).data.toList) = [34] from rfl, hW] at hwd'
  unfold JPost at hwd'
  simp only [] at hT hwd'
  have hq := (jWord_le hW).2.resolve_left (by simp)
  rw [hl.out] at hq hT
  replace hT := box hT
  replace hwd' := box hwd'
  clear hwd hW
  go_enter Tryz.func88, Tryz.ntmps88
  go_wp2_with fail
  refine hwd'.out.mono ?_
  rintro e w1 ⟨rfl, hF1⟩
  clear hwd'
  go_wp2_with fail
  go_loopg [3] (n + 1 - q) (fun k v wr => ∃ (out : List UInt8) (p' : Nat), p' ≤ n ∧ k = n + 1 - p' ∧ Box (out.length ≤ 4 * p') ∧ Box (jText b p = jTextL b (n + 1 - p') p' out) ∧ Fr [g] w wr [Ent.bytes w.heap.size 5 v out, .blk g 127 (rdrL A n c p' m)])
  case atStart => exact ⟨[], q, hq, rfl, box (by simp), hT, hF1.pushNil _⟩
  case round =>
   clear hF0 hF1 hT
   obtain ⟨out, p', hpn, hk, hol, hJ, hF⟩ := hrel
   obtain ⟨Ao, co, rfl, hco, hro⟩ := (hF.own (i := 0) rfl).arg
   cases hx : b[p']? with
   | none =>
    have hend : Box (jText b p = .error (n, 9)) := box (by
     rw [hJ.out]
     have := List.getElem?_eq_none_iff.1 hx
     rw [hl.out] at this
     rw [show n + 1 - p' = 0 + 1 by omega, jTextL, hx, hl.out])
    have hnx := box (next_x hx (hF.blk (i := 1) rfl) (hF.rdB hg hB hr))
    rw [hl.out] at hnx
    clear hx
    go_wp2_with fail
    refine (hnx.out).mono ?_
    rintro e w2 ⟨rfl, hb2⟩
    have hF2 := hF.call hb2
    dsimp only [flt]
    go_wp2
    exact ⟨rfl, by unfold JEndP; rw [hend.out]; exact ⟨rfl, hF2.grown⟩⟩
   | some x =>
    have hxb := x.toNat_lt
    have hplt := (List.getElem?_eq_some_iff.1 hx).1
    have hstep := jText_step (out := out) hplt
    rw [hx] at hstep
    rw [hl.out] at hplt hstep
    simp only [] at hstep
    have hnx := box (next_q hx (hF.blk (i := 1) rfl) (hF.rdB hg hB hr) 0)
    by_cases h34 : x = 34
    ·subst h34
     rw [if_pos rfl] at hstep
     have hend := box (hJ.out.trans hstep)
     clear hstep hx
     go_wp2_with fail
     refine (hnx.out).mono ?_
     rintro e w2 ⟨rfl, q2, rfl⟩
     have hF2 := hF.drewN q2
     have h2 := rdr_p (hF2.blk (i := 1) rfl)
     go_wp2_with (first | ((with_reducible refine lst (by with_unfolding_all rfl) (wp_fst1 hF2 (by with_unfolding_all exact ⟨_, _, rfl, rfl, rfl⟩) (by kernel_rfl) rfl rfl (by rw [rdrL_len]; decide) (rdrL_at (q := p' + 1) (by omega)) ?_)); intro w3 hF3 hz3) | (with_reducible refine lst (by with_unfolding_all rfl) (wp_b2s T_u8 Tryz.underlying5 Tryz.underlying9 (hF3.rdOwn (i := 0) rfl) (by with_unfolding_all exact ⟨_, rfl, rfl⟩) ?_)))
     go_ret
     unfold JEndP
     rw [hend.out]
     exact ⟨rfl, hF3.tail⟩
    ·have n34 : ((x.toNat : Int) == 34) = false := u8_ne h34
     rw [if_neg h34] at hstep
     by_cases h92 : x = 92
     ·subst h92
      rw [if_pos rfl] at hstep
      have hes := box (fun w' (hF : Fr [g] w w' [Ent.bytes w.heap.size 5 (.slice Ao out.length co) out, .blk g 127 (rdrL A n c p' m)]) => escape_any rune_ok g A n c p' m B b w' (hF.blk (i := 1) rfl) hg (Nat.le_trans hB hF.size) (by omega) hplt (hF.rdB hg hB hr))
      cases he : jEscape b p' with
      | error z =>
       rw [he] at hstep hes
       have hend := box (hJ.out.trans hstep)
       unfold JEndP at hes
       simp only [] at hes hend
       clear hstep hx
       go_wp2_with fail
       refine (hnx.out).mono ?_
       rintro e w2 ⟨rfl, q2, rfl⟩
       have hF2 := hF.drewN q2
       go_wp2_with fail
       refine (hes.out _ hF2).mono ?_
       rintro e w3 ⟨rfl, hg3⟩
       dsimp only [flt]
       go_wp2
       exact ⟨rfl, by unfold JEndP; rw [hend.out]; exact ⟨rfl, grown_trans hF2.grown hg3⟩⟩
      | ok r =>
       obtain ⟨e, q'⟩ := r
       obtain ⟨he1, he2, he3⟩ := jEscape_len he
       rw [he] at hstep hes
       have hgo := box (hJ.out.trans hstep)
       unfold JEndP ToldB at hes
       simp only [] at hes hgo
       rw [hl.out] at he3
       have hol2 := hol.out
       have room : out.length + e.length ≤ 140737488355328 := by omega
       clear hstep hx he
       replace hk := box hk
       go_wp2_with fail
       refine (hnx.out).mono ?_
       rintro e w2 ⟨rfl, q2, rfl⟩
       have hF2 := hF.drewN q2
       go_wp2_with fail
       refine (hes.out _ hF2).mono ?_
       rintro e w3 ⟨v3, rfl, h3⟩
       obtain ⟨A3, c3, rfl, _, _⟩ := (h3.own (i := 0) rfl).arg
       have hF3 := hF2.putB (i := 1) rfl h3
       go_wp2_with (first | ((with_reducible refine lst (by with_unfolding_all rfl) (wp_fapp1 T_u8 hF3 (Nat.le_refl _) (hF3.rdOwn (i := 0) rfl) (by with_unfolding_all exact ⟨_, _, rfl, rfl, rfl⟩) room ?_)); intro v4 w4 hF4 hz4))
       go_roundg (n + 1 - q')
       case rel => exact ⟨_, q', he3, rfl, box (by rw [List.length_append]; omega), hgo, hF4.tail⟩
       case measure => have := hk.out; omega
     ·have n92 : ((x.toNat : Int) == 92) = false := u8_ne h92
      rw [if_neg h92] at hstep
      by_cases h32 : x.toNat < 32
      ·rw [if_pos h32] at hstep
       have hend := box (hJ.out.trans hstep)
       have hfl := box (fun v w => fail_any v p' 60 w)
       clear hstep hx h34 h92
       go_wp2_with fail
       refine (hnx.out).mono ?_
       rintro e w2 ⟨rfl, q2, rfl⟩
       have hF2 := hF.drewN q2
       have h2 := rdr_p (hF2.blk (i := 1) rfl)
       go_wp2_with fail
       refine (hfl.out _ _).mono ?_
       rintro e w3 ⟨rfl, rfl⟩
       dsimp only [flt]
       go_wp2
       exact ⟨rfl, by unfold JEndP; rw [hend.out]; exact ⟨rfl, hF2.grown⟩⟩
      ·rw [if_neg h32] at hstep
       have hbl : (b.drop p').length = n - p' := by rw [List.length_drop, hl.out]
       obtain ⟨hs1, hs2⟩ := jSize_le (b.drop p')
       have htl : ((b.drop p').take (jSize (b.drop p'))).length = jSize (b.drop p') := by rw [List.length_take]; omega
       have hrc := box (fun w' (hF : Fr [g] w w' [Ent.bytes w.heap.size 5 (.slice Ao out.length co) out, .blk g 127 (rdrL A n c p' m)]) => by
        have h := cut_rd (m := c) (hF.rdB hg hB hr) (show p' ≤ n by omega) (Nat.le_refl n) hnc
        rw [List.take_of_length_le (by have := hl.out; omega)] at h
        exact decode_ok (cutA A p' c) (n - p') (c - p') (b.drop p') w' _ (hL.on (hF.belowG hg hB)).tabs (by omega) h)
       have hrk := box (fun (k : Nat) (hk : p' + k ≤ n) w' (hF : Fr [g] w w' [Ent.bytes w.heap.size 5 (.slice Ao out.length co) out, .blk g 127 (rdrL A n c p' m)]) => by
        have h := cut_rd (l := p') (h := p' + k) (m := c) (hF.rdB hg hB hr) (by omega) (by omega) (by omega)
        rw [show (b.take (p' + k)).drop p' = (b.drop p').take k by rw [List.drop_take, Nat.add_sub_cancel_left]] at h
        exact h)
       have hpc : p' < c := by omega
       have hol2 := hol.out
       rw [hbl] at hs1
       generalize hsz : jSize (b.drop p') = sz at *
       clear hsz hx h34 h92
       replace hstep := box (hJ.out.trans hstep)
       replace hbl := box hbl
       replace hk := box hk
       go_wp2_with fail
       refine (hnx.out).mono ?_
       rintro e w2 ⟨rfl, q2, rfl⟩
       have hF2 := hF.drewN q2
       go_upto_region 4 with (fail)
       go_cut [5, 6] (fun s5 s6 wx => ∃ r k : Nat, s5 = .int .i32 (r : Int) ∧ s6 = .int .i64 (k : Int) ∧ Box (r = 65533 ∧ k < 2 ↔ sz = 0) ∧ Box (sz ≠ 0 → k = sz) ∧ Fr [g] w wx [Ent.bytes w.heap.size 5 (.slice Ao out.length co) out, .blk g 127 (rdrL A n c p' m)])
       case first =>
        have hFd := hF2.drew
        clear hF2 hF hro
        refine wp_region_held (S := fun w' => w'.heap[g]? = some (.cells (List.toArray (rdrL A n c p' m)) 127 (0, 0))) (by kernel_rfl) ?_
        change wpAnyH _ _ _ _ _ _ _ _ (World.drew _)
        refine tkp 0 (hFd.blk (i := 1) rfl) ?_
        (try simp only [Act.put, List.setIfInBounds_toArray, List.set_cons_zero, List.set_cons_succ])
        refine tkp 1 (hFd.blk (i := 1) rfl) ?_
        (try simp only [Act.put, List.setIfInBounds_toArray, List.set_cons_zero, List.set_cons_succ])
        refine tkp 2 (hFd.blk (i := 1) rfl) ?_
        (try simp only [Act.put, List.setIfInBounds_toArray, List.set_cons_zero, List.set_cons_succ])
        refine tky 3 (y := yi_fld (by with_unfolding_all rfl) (fun _ h => h) Tryz.underlying22 rfl (by with_unfolding_all exact ⟨_, rfl, rfl⟩) rfl) (s := (hFd.blk (i := 1) rfl)) (h := ?_)
        (try simp only [Act.put, List.setIfInBounds_toArray, List.set_cons_zero, List.set_cons_succ])
        refine tkp 4 (hFd.blk (i := 1) rfl) ?_
        (try simp only [Act.put, List.setIfInBounds_toArray, List.set_cons_zero, List.set_cons_succ])
        refine tkp 5 (hFd.blk (i := 1) rfl) ?_
        (try simp only [Act.put, List.setIfInBounds_toArray, List.set_cons_zero, List.set_cons_succ])
        refine tkp 6 (hFd.blk (i := 1) rfl) ?_
        (try simp only [Act.put, List.setIfInBounds_toArray, List.set_cons_zero, List.set_cons_succ])
        refine tky 7 (y := yi_fld (by with_unfolding_all rfl) (fun _ h => h) Tryz.underlying3 rfl (by with_unfolding_all exact ⟨_, rfl, rfl⟩) rfl) (s := (hFd.blk (i := 1) rfl)) (h := ?_)
        (try simp only [Act.put, List.setIfInBounds_toArray, List.set_cons_zero, List.set_cons_succ])
        refine tky 8 (y := yi_cut (by with_unfolding_all rfl) T_u8 (lo := some (p' : Int)) (hi := none) (mx := none) (l := p') (h := n) (m := c) (by with_unfolding_all exact ⟨_, _, _, _, .i64, .i64, .i64, rfl, rfl, rfl, rfl, rfl⟩) (by simp; done) (by simp; done) (by simp; done) (by simp) (by omega) (by omega) (by omega) (by omega)) (s := (hFd.blk (i := 1) rfl)) (h := ?_)
        (try simp only [Act.put, List.setIfInBounds_toArray, List.set_cons_zero, List.set_cons_succ])
        refine rdy1 9 (fun K hK => ?_)
        refine stp (by with_unfolding_all rfl) (wp_call Tryz.func120 rfl (by with_unfolding_all rfl) (by with_unfolding_all rfl) (by with_unfolding_all rfl) (hrc.out _ hFd) ?_)
        rintro e w11 ⟨r11, k11, rfl, hb11, hka11, hkb11⟩
        refine ⟨_, rfl, ?_⟩
        have hF11 := hFd.call hb11
        refine hK.out _ _ ((hF11.blk (i := 1) rfl)) (fun _ => ?_)
        clear hK K
        (try simp only [Act.put, List.setIfInBounds_toArray, List.set_cons_zero, List.set_cons_succ])
        refine tkp 10 (hF11.blk (i := 1) rfl) ?_
        (try simp only [Act.put, List.setIfInBounds_toArray, List.set_cons_zero, List.set_cons_succ])
        refine tkp 11 (hF11.blk (i := 1) rfl) ?_
        (try simp only [Act.put, List.setIfInBounds_toArray, List.set_cons_zero, List.set_cons_succ])
        refine tkp 12 (hF11.blk (i := 1) rfl) ?_
        (try simp only [Act.put, List.setIfInBounds_toArray, List.set_cons_zero, List.set_cons_succ])
        refine tkp 13 (hF11.blk (i := 1) rfl) ?_
        (try simp only [Act.put, List.setIfInBounds_toArray, List.set_cons_zero])
        refine tkp 14 (hF11.blk (i := 1) rfl) ?_
        (try simp only [Act.put, List.setIfInBounds_toArray, List.set_cons_zero])
        refine wpAnyH_done (by kernel_rfl) ?_ _
        go_wp2_with fail
        go_meet
        exact ⟨_, _, rfl, rfl, box hka11, box hkb11, hF11⟩
       case rest =>
        obtain ⟨r, k, rfl, rfl, hka, hkb, hF3⟩ := hcut
        clear hF2 hF
        go_upto_region 5 with (fail)
        go_cut [29] (fun s29 wx => ∃ b29 : Bool, s29 = .bool b29 ∧ Box (b29 = decide (sz = 0)) ∧ wx = wc)
        case first =>
         by_cases hz : sz = 0
         ·obtain ⟨rfl, hk2⟩ := hka.out.2 hz
          have hk3 : (k : Int) < 2 := by omega
          go_wp2
          go_meet
          exact ⟨true, by simp [hk3], box (by simp [hz]), rfl⟩
         ·have hkz := hkb.out hz
          by_cases hr5 : r = 65533
          ·subst hr5
           have hk2 : ¬ (k : Int) < 2 := fun h => hz (hka.out.1 ⟨rfl, by omega⟩)
           clear hkz
           replace hz := box hz
           go_wp2
           go_meet
           exact ⟨false, rfl, box (by simp [hz.out]), rfl⟩
          ·have hr6 : ((r : Int) == 65533) = false := by rw [beq_eq_false_iff_ne]; omega
           clear hkz
           replace hz := box hz
           replace hr5 := box hr5
           go_wp2
           go_meet
           exact ⟨false, rfl, box (by simp [hz.out]), rfl⟩
        case rest =>
         obtain ⟨b29, rfl, hb29, rfl⟩ := hcut
         by_cases hz : sz = 0
         ·obtain rfl : b29 = true := by rw [hb29.out]; simp [hz]
          have hst := hstep.out
          rw [if_pos hz] at hst
          have hend := box hst
          have hfl := box (fun v w => fail_any v p' 61 w)
          have h3 := rdr_p (hF3.blk (i := 1) rfl)
          clear hst hrc hrk htl
          replace hz := box hz
          go_wp2_with fail
          refine (hfl.out _ _).mono ?_
          rintro e w4 ⟨rfl, rfl⟩
          dsimp only [flt]
          go_wp2
          exact ⟨rfl, by unfold JEndP; rw [hend.out]; exact ⟨rfl, hF3.grown⟩⟩
         ·obtain rfl : b29 = false := by rw [hb29.out]; simp [hz]
          obtain rfl : k = sz := hkb.out hz
          have hst := hstep.out
          rw [if_neg hz] at hst
          have hgo := box hst
          clear hst hrc hka hkb
          replace hz := box hz
          have hpk : p' + k ≤ n := by omega
          have hrk' := box (fun w' (hF : Fr [g] w w' [Ent.bytes w.heap.size 5 (.slice Ao out.length co) out, .blk g 127 (rdrL A n c p' m)]) => hrk.out k hpk w' hF)
          have hw1 : IntKind.i64.wrap ((p' : Int) + (k : Int)) = (p' : Int) + (k : Int) := IntWalk.i64_in _ (by omega)
          clear hrk
          go_upto_region 7 with (fail)
          go_cut [3] (fun s3 wx => ∃ v, s3 = v ∧ Fr [g] w wx [Ent.bytes w.heap.size 5 v (out ++ (b.drop p').take k), .blk g 127 (rdrL A n c p' m)])
          case first =>
           have hFd := hF3.drew
           clear hF3
           refine wp_region_held (S := fun w' => w'.heap[g]? = some (.cells (List.toArray (rdrL A n c p' m)) 127 (0, 0))) (by kernel_rfl) ?_
           change wpAnyH _ _ _ _ _ _ _ _ (World.drew _)
           refine tkp 0 (hFd.blk (i := 1) rfl) ?_
           (try simp only [Act.put, List.setIfInBounds_toArray, List.set_cons_zero, List.set_cons_succ])
           refine tkp 1 (hFd.blk (i := 1) rfl) ?_
           (try simp only [Act.put, List.setIfInBounds_toArray, List.set_cons_zero, List.set_cons_succ])
           refine tkp 2 (hFd.blk (i := 1) rfl) ?_
           (try simp only [Act.put, List.setIfInBounds_toArray, List.set_cons_zero, List.set_cons_succ])
           refine tkp 3 (hFd.blk (i := 1) rfl) ?_
           (try simp only [Act.put, List.setIfInBounds_toArray, List.set_cons_zero, List.set_cons_succ])
           refine tky 4 (y := yi_fld (by with_unfolding_all rfl) (fun _ h => h) Tryz.underlying22 rfl (by with_unfolding_all exact ⟨_, rfl, rfl⟩) rfl) (s := (hFd.blk (i := 1) rfl)) (h := ?_)
           (try simp only [Act.put, List.setIfInBounds_toArray, List.set_cons_zero, List.set_cons_succ])
           refine tkp 5 (hFd.blk (i := 1) rfl) ?_
           (try simp only [Act.put, List.setIfInBounds_toArray, List.set_cons_zero, List.set_cons_succ])
           refine tkp 6 (hFd.blk (i := 1) rfl) ?_
           (try simp only [Act.put, List.setIfInBounds_toArray, List.set_cons_zero, List.set_cons_succ])
           refine tkp 7 (hFd.blk (i := 1) rfl) ?_
           (try simp only [Act.put, List.setIfInBounds_toArray, List.set_cons_zero, List.set_cons_succ])
           refine tky 8 (y := yi_fld (by with_unfolding_all rfl) (fun _ h => h) Tryz.underlying3 rfl (by with_unfolding_all exact ⟨_, rfl, rfl⟩) rfl) (s := (hFd.blk (i := 1) rfl)) (h := ?_)
           (try simp only [Act.put, List.setIfInBounds_toArray, List.set_cons_zero, List.set_cons_succ])
           refine tkp 9 (hFd.blk (i := 1) rfl) ?_
           (try simp only [Act.put, List.setIfInBounds_toArray, List.set_cons_zero, List.set_cons_succ])
           refine tkp 10 (hFd.blk (i := 1) rfl) ?_
           (try simp only [Act.put, List.setIfInBounds_toArray, List.set_cons_zero, List.set_cons_succ])
           refine tkp 11 (hFd.blk (i := 1) rfl) ?_
           (try simp only [Act.put, List.setIfInBounds_toArray, List.set_cons_zero, List.set_cons_succ])
           refine tky 12 (y := yi_fld (by with_unfolding_all rfl) (fun _ h => h) Tryz.underlying3 rfl (by with_unfolding_all exact ⟨_, rfl, rfl⟩) rfl) (s := (hFd.blk (i := 1) rfl)) (h := ?_)
           (try simp only [Act.put, List.setIfInBounds_toArray, List.set_cons_zero, List.set_cons_succ])
           refine tkp 13 (hFd.blk (i := 1) rfl) ?_
           (try simp only [Act.put, List.setIfInBounds_toArray, List.set_cons_zero, List.set_cons_succ])
           refine tkp 14 (hFd.blk (i := 1) rfl) ?_
           (try simp only [Act.put, List.setIfInBounds_toArray, List.set_cons_zero, List.set_cons_succ])
           refine tky 15 (y := yi_cut (by with_unfolding_all rfl) T_u8 (lo := some (p' : Int)) (hi := some ((p' : Int) + (k : Int))) (mx := none) (l := p') (h := p' + k) (m := c) (by with_unfolding_all exact ⟨_, _, _, _, .i64, .i64, .i64, rfl, rfl, rfl, rfl, rfl⟩) (by simp; done) (by simp; done) (by simp; done) (by simp) (by omega) (by omega) (by omega) (by omega)) (s := (hFd.blk (i := 1) rfl)) (h := ?_)
           (try simp only [Act.put, List.setIfInBounds_toArray, List.set_cons_zero, List.set_cons_succ])
           refine rdy1 16 (fun K hK => ?_)
           refine stp (by with_unfolding_all rfl) (wp_fapp T_u8 hFd (i := 0) (l := out) rfl (Nat.le_refl _) (hrk'.out _ hFd) (by with_unfolding_all exact ⟨_, _, rfl, rfl, rfl⟩) (by omega) ?_)
           intro v11 w11 hF11 hz11
           (try simp only [List.set_cons_zero, List.set_cons_succ] at hF11)
           refine hK.out _ _ ((hF11.blk (i := 1) rfl)) (fun _ => ?_)
           clear hK K
           (try simp only [Act.put, List.setIfInBounds_toArray, List.set_cons_zero, List.set_cons_succ])
           refine tkp 17 (hF11.blk (i := 1) rfl) ?_
           (try simp only [Act.put, List.setIfInBounds_toArray, List.set_cons_zero])
           refine wpAnyH_done (by kernel_rfl) ?_ _
           go_wp2_with fail
           go_meet
           exact ⟨_, rfl, hF11⟩
          case rest =>
           obtain ⟨v4, rfl, hF4⟩ := hcut
           have h4 := rdr_p (hF4.blk (i := 1) rfl)
           go_wp2_with (first | ((with_reducible refine lst (by with_unfolding_all rfl) (wp_fst1 hF4 (by with_unfolding_all exact ⟨_, _, rfl, rfl, rfl⟩) (by kernel_rfl) rfl rfl (by rw [rdrL_len]; decide) (rdrL_at (q := p' + k) (by omega)) ?_)); intro w5 hF5 hz5))
           go_roundg (n + 1 - (p' + k))
           case rel => exact ⟨_, p' + k, by omega, rfl, box (by rw [List.length_append, htl]; omega), hgo, hF5⟩
           case measure => have := hk.out; have := hz.out; omega
end Go.Proofs.YtlhicfpmlncomaaGreatDoor

namespace Go.Proofs.YtlhicfpmlncomaaGreatDoor
/-- What an operation waits for, where it writes, what it looks at. -/
abbrev LexS := List Nat × Option Nat × List Nat
def lexSum (ops : Array Oper) (o : Oper) : LexS := ((o.after.toList.filter (Region.binds .any)).map (·.on), o.dst, o.looksAt ops)
def lexApart (x y : LexS) : Bool :=
 (match x.2.1 with
   | some d => !y.2.2.contains d && y.2.1 != some d
   | none => true) &&
 (match y.2.1 with
   | some d => !x.2.2.contains d
   | none => true)
def lexTail (k : Nat) (x : LexS) : List LexS → Bool
 | [] => true
 | y :: l => (y.1.contains k || lexApart x y) && lexTail k x l
def lexChk : Nat → List LexS → Bool
 | _, [] => true
 | k, x :: l => x.1.all (fun i => decide (i < k)) && lexTail k x l && lexChk (k + 1) l
theorem lexApart_spec {ops : Array Oper} {x y : Oper} (h : lexApart (lexSum ops x) (lexSum ops y) = true) : x.apart ops y = true := h
theorem lexTail_spec {k : Nat} {x y : LexS} : ∀ {l : List LexS}, lexTail k x l = true → y ∈ l → y.1.contains k = true ∨ lexApart x y = true
 | z :: l, h, hm => by
  simp only [lexTail, Bool.and_eq_true, Bool.or_eq_true] at h
  rcases List.mem_cons.1 hm with rfl | hm
  ·exact h.1
  ·exact lexTail_spec h.2 hm
theorem lexFrom_of {l : List Oper} : ∀ (f k : Nat) (listed : Array Bool), f + k = l.length → (∀ j, j < l.length → listed[j]? = some (decide (j < k))) → lexChk k ((l.map (lexSum l.toArray)).drop k) = true → Region.lexFrom .any l.toArray f k listed = true
 | 0, k, listed, hk, hL, _ => by
  simp only [Region.lexFrom, Region.ready, List.isEmpty_iff, List.filter_eq_nil_iff, List.mem_range]
  intro i hi
  have hi' : i < l.length := by simpa using hi
  have := hL i hi'
  simp [this, show i < k by omega]
 | f + 1, k, listed, hk, hL, hc => by
  have hkl : k < l.length := by omega
  rw [List.drop_eq_getElem_cons (by simpa using hkl)] at hc
  simp only [lexChk, Bool.and_eq_true, List.all_eq_true, decide_eq_true_eq, List.getElem_map] at hc
  obtain ⟨⟨h1, h2⟩, h3⟩ := hc
  have hop : l.toArray[k]? = some l[k] := by simp [hkl]
  simp only [Region.lexFrom, Bool.and_eq_true]
  refine ⟨⟨?_, ?_⟩, ?_⟩
  ·simp only [List.contains_iff_mem, Region.ready, List.mem_filter, List.mem_range, Bool.and_eq_true]
   refine ⟨by simpa using hkl, ?_, ?_⟩
   ·simp [hL k hkl]
   ·rw [hop]
    simp only [Option.map_some, Option.getD_some, Array.all_eq_true_iff_forall_mem]
    intro e he
    cases hb : Region.binds .any e with
    | false => rfl
    | true =>
     have hlt := h1 e.on (by
      simp only [lexSum, List.mem_map, List.mem_filter]
      exact ⟨e, ⟨by simpa using he, hb⟩, rfl⟩)
     simp [hL e.on (by omega), hlt]
  ·unfold Region.free
   rw [hop]
   simp only [List.all_eq_true, List.mem_range]
   intro j hj
   have hj' : j < l.length := by simpa using hj
   rcases Nat.lt_trichotomy j k with hjk | hjk | hjk
   ·simp [hL j hj', hjk]
   ·simp [hjk]
   ·have hoj : l.toArray[j]? = some l[j] := by simp [hj']
    rw [hoj]
    simp only [Bool.or_eq_true]
    right
    have hm : lexSum l.toArray l[j] ∈ (l.map (lexSum l.toArray)).drop (k + 1) := by
     rw [List.mem_iff_getElem?]
     refine ⟨j - (k + 1), ?_⟩
     rw [List.getElem?_drop, show k + 1 + (j - (k + 1)) = j by omega, List.getElem?_map, List.getElem?_eq_getElem hj']
     rfl
    rcases lexTail_spec h2 hm with h4 | h4
    ·left
     simp only [lexSum, List.contains_iff_mem, List.mem_map, List.mem_filter] at h4
     obtain ⟨e, ⟨he, hb⟩, hon⟩ := h4
     rw [Array.any_eq_true']
     exact ⟨e, by simpa using he, by simp [hb, hon]⟩
    ·exact .inr (lexApart_spec h4)
  ·refine lexFrom_of f (k + 1) _ (by omega) (fun j hj => ?_) h3
   rw [Array.getElem?_setIfInBounds]
   have hs : k < listed.size := (Array.getElem?_eq_some_iff.1 (hL k hkl)).1
   by_cases hkj : k = j
   ·rw [if_pos hkj, if_pos hs]; simp [hkj]
   ·rw [if_neg hkj, hL j hj]
    congr 1
    by_cases hlt : j < k
    ·simp [hlt]; omega
    ·simp [hlt]; omega
theorem lex_of {l : List Oper} (S : List LexS) (hs : Region.noSelect l.toArray = true) (h : l.map (lexSum l.toArray) = S) (hc : lexChk 0 S = true) : Region.lexB .any l.toArray = true := by
 unfold Region.lexB
 rw [hs, Bool.true_and]
 refine lexFrom_of _ 0 _ (by simp) (fun j hj => ?_) (by rw [h]; exact hc)
 simp [hj]
end Go.Proofs.YtlhicfpmlncomaaGreatDoor

namespace Go.Proofs.YtlhicfpmlncomaaGreatDoor
open Go.Lib
theorem jDigs_snoc (l : List UInt8) (c : UInt8) : jDigs (l ++ [c]) = 10 * jDigs l + (c.toNat - 48) := by simp [jDigs]
theorem dig_of (d : Nat) (h : d < 10) : (UInt8.ofNat (48 + d)).toNat = 48 + d := by simp; omega
theorem decDigits_small {u : Nat} (h : u < 10) : decDigits u = [UInt8.ofNat (48 + u)] := by rw [decDigits, dif_pos h]
theorem decDigits_big {u : Nat} (h : ¬ u < 10) : decDigits u = decDigits (u / 10) ++ [UInt8.ofNat (48 + u % 10)] := by rw [decDigits, dif_neg h]
theorem decDigits_ne : ∀ u, decDigits u ≠ [] := fun u => by
 by_cases h : u < 10
 ·rw [decDigits_small h]; simp
 ·rw [decDigits_big h]; simp
theorem decDigits_val : ∀ u, jDigs (decDigits u) = u
 | u => by
  by_cases h : u < 10
  ·rw [decDigits_small h]
   show 10 * 0 + ((UInt8.ofNat (48 + u)).toNat - 48) = u
   rw [dig_of u h]; omega
  ·rw [decDigits_big h, jDigs_snoc, decDigits_val (u / 10), dig_of _ (Nat.mod_lt _ (by decide))]
   omega
termination_by u => u
decreasing_by omega
theorem decDigits_dig : ∀ u, (decDigits u).all jDig = true
 | u => by
  by_cases h : u < 10
  ·rw [decDigits_small h]
   simp only [List.all_cons, List.all_nil, Bool.and_true, jDig, dig_of u h]
   simp; omega
  ·rw [decDigits_big h, List.all_append, decDigits_dig (u / 10)]
   simp only [List.all_cons, List.all_nil, Bool.and_true, jDig, dig_of _ (Nat.mod_lt u (show 0 < 10 by decide))]
   simp; omega
termination_by u => u
decreasing_by omega
theorem decDigits_head : ∀ u, 0 < u → (decDigits u).head? ≠ some 48
 | u, hu => by
  by_cases h : u < 10
  ·rw [decDigits_small h]
   intro e
   have e1 : UInt8.ofNat (48 + u) = 48 := by simpa using e
   have e2 := congrArg UInt8.toNat e1
   rw [dig_of u h] at e2
   have e3 : (48 : UInt8).toNat = 48 := rfl
   omega
  ·rw [decDigits_big h]
   have ih := decDigits_head (u / 10) (by omega)
   have hne := decDigits_ne (u / 10)
   cases hd : decDigits (u / 10) with
   | nil => exact absurd hd hne
   | cons c l => rw [hd] at ih; simpa using ih
termination_by u => u
decreasing_by omega
theorem decDigits_len : ∀ (k u : Nat), u < 10 ^ (k + 1) → (decDigits u).length ≤ k + 1
 | 0, u, h => by rw [decDigits_small (by simpa using h)]; simp
 | k + 1, u, h => by
  by_cases h10 : u < 10
  ·rw [decDigits_small h10]; simp
  ·rw [decDigits_big h10, List.length_append]
   have := decDigits_len k (u / 10) (by rw [Nat.pow_succ] at h; omega)
   simp; omega
/-- Digits without a zero at their head are their number's. -/
theorem dig_char {c : UInt8} (h : jDig c = true) : 48 ≤ c.toNat ∧ c.toNat ≤ 57 := by simpa [jDig] using h
theorem jDigs_pos : ∀ (l : List UInt8), l ≠ [] → l.all jDig = true → l.head? ≠ some 48 → 0 < jDigs l := by
 intro l
 cases l with
 | nil => intro h; exact absurd rfl h
 | cons c l =>
  intro _ ha hh
  simp only [List.all_cons, Bool.and_eq_true] at ha
  have hc := dig_char ha.1
  have hc48 : c.toNat ≠ 48 := fun h => hh (by simp; exact UInt8.toNat_inj.1 (by have e : (48 : UInt8).toNat = 48 := rfl; omega))
  have key : ∀ (l : List UInt8) (a : Nat), 0 < a → 0 < l.foldl (fun n c => 10 * n + (c.toNat - 48)) a := by
   intro l
   induction l with
   | nil => intro a h; exact h
   | cons x l ih => intro a h; exact ih _ (by show 0 < 10 * a + _; omega)
  exact key l _ (by show 0 < 10 * 0 + (c.toNat - 48); omega)
theorem decDigits_of : ∀ (n : Nat) (l : List UInt8), l.length = n → l ≠ [] → l.all jDig = true → (l.head? ≠ some 48 ∨ l.length = 1) → decDigits (jDigs l) = l
 | 0, l, hn, hne, _, _ => absurd (List.eq_nil_of_length_eq_zero hn) hne
 | n + 1, l, hn, hne, ha, hh => by
  obtain ⟨t, c, rfl⟩ : ∃ t c, l = t ++ [c] := ⟨l.dropLast, l.getLast hne, (List.dropLast_concat_getLast hne).symm⟩
  simp only [List.all_append, List.all_cons, List.all_nil, Bool.and_true, Bool.and_eq_true] at ha
  have hc := dig_char ha.2
  rw [jDigs_snoc]
  cases t with
  | nil =>
   show decDigits (10 * 0 + (c.toNat - 48)) = [c]
   rw [decDigits_small (by omega)]
   congr 1
   exact UInt8.toNat_inj.1 (by rw [dig_of _ (by omega)]; omega)
  | cons x t =>
   have hh2 : (x :: t).head? ≠ some 48 := by
    rcases hh with h | h
    ·simpa using h
    ·simp at h
   have hpos := jDigs_pos (x :: t) (by simp) ha.1 hh2
   have ih := decDigits_of n (x :: t) (by simpa using hn) (by simp) ha.1 (.inl hh2)
   rw [decDigits_big (by omega), show (10 * jDigs (x :: t) + (c.toNat - 48)) / 10 = jDigs (x :: t) by omega, ih]
   congr 2
   exact UInt8.toNat_inj.1 (by rw [dig_of _ (Nat.mod_lt _ (by decide))]; omega)
theorem parseUint10_ok : ∀ (l : List UInt8) (acc : Nat), l.all jDig = true → l.foldl (fun n c => 10 * n + (c.toNat - 48)) acc < 18446744073709551616 → parseUint10 acc l = .ok (l.foldl (fun n c => 10 * n + (c.toNat - 48)) acc)
 | [], acc, _, _ => rfl
 | c :: l, acc, ha, hlt => by
  simp only [List.all_cons, Bool.and_eq_true] at ha
  have hc := dig_char ha.1
  have mono : ∀ (l : List UInt8) (a : Nat), a ≤ l.foldl (fun n c => 10 * n + (c.toNat - 48)) a := by
   intro l
   induction l with
   | nil => intro a; exact Nat.le_refl _
   | cons x l ih => intro a; exact Nat.le_trans (by show a ≤ 10 * a + _; omega) (ih _)
  rw [List.foldl_cons] at hlt ⊢
  have hm := mono l (10 * acc + (c.toNat - 48))
  rw [parseUint10, if_pos hc, if_neg (by omega), if_neg (by omega), show acc * 10 + (c.toNat - 48) = 10 * acc + (c.toNat - 48) by omega]
  exact parseUint10_ok l _ ha.2 hlt
theorem jNum_lib {s : List UInt8} {v : Int} (h : jNum s = some v) : itoa v = s ∧ atoiAll s = .ok v ∧ -9007199254740991 ≤ v ∧ v ≤ 9007199254740991 := by
 unfold jNum at h
 cases s with
 | nil => simp at h
 | cons c r =>
  by_cases hc : c = 45
  ·subst hc
   simp only [List.head?_cons, beq_self_eq_true, if_true, List.tail_cons] at h
   split at h
   ·rename_i hh
    obtain ⟨h1, h2, h3, h4, h5⟩ := hh
    injection h with h
    have h3' : r.head? ≠ some 48 := by
     rcases h3 with h3 | ⟨_, h3⟩
     ·exact h3
     ·cases h3
    have hpos := jDigs_pos r h1 h4 h3'
    have hd := decDigits_of r.length r rfl h1 h4 (.inl h3')
    subst h
    refine ⟨?_, ?_, by omega, by omega⟩
    ·unfold itoa
     rw [if_pos (by omega), Int.natAbs_neg, Int.natAbs_natCast, hd]
    ·unfold atoiAll
     have e45 : (45 : UInt8).toNat = 45 := rfl
     simp only [e45]
     rw [if_pos (by simp)]
     unfold parseMag
     rw [if_neg h1, parseUint10_ok r 0 h4 (by show jDigs r < _; omega)]
     simp only []
     rw [if_neg (by simp), if_neg (by show ¬ (True ∧ _ < jDigs r); omega)]
     simp [jDigs]
   ·cases h
  ·have hn : ((c :: r).head? == some 45) = false := by simpa using hc
   simp only [hn, Bool.false_eq_true, if_false] at h
   split at h
   ·rename_i hh
    obtain ⟨h1, h2, h3, h4, h5⟩ := hh
    injection h with h
    have h3' : (c :: r).head? ≠ some 48 ∨ (c :: r).length = 1 := by
     rcases h3 with h3 | ⟨h3, _⟩
     ·exact .inl h3
     ·exact .inr h3
    have hd := decDigits_of (c :: r).length (c :: r) rfl h1 h4 h3'
    have hcd := dig_char (show jDig c = true by simp only [List.all_cons, Bool.and_eq_true] at h4; exact h4.1)
    subst h
    refine ⟨?_, ?_, by omega, by omega⟩
    ·unfold itoa
     rw [if_neg (by omega), Int.toNat_natCast, hd]
    ·unfold atoiAll
     simp only []
     rw [if_neg (by omega)]
     unfold parseMag
     rw [if_neg h1, parseUint10_ok (c :: r) 0 h4 (by show jDigs (c :: r) < _; omega)]
     simp only []
     have hc45 : ¬ c.toNat = 45 := by omega
     rw [if_neg (by show ¬ (_ ∧ _ ≤ jDigs (c :: r)); omega), if_neg (fun hx => hc45 hx.1), if_neg hc45]
     rfl
   ·cases h
theorem jNum_itoa {v : Int} (h0 : -9007199254740991 ≤ v) (h1 : v ≤ 9007199254740991) : jNum (itoa v) = some v := by
 unfold itoa
 by_cases hn : v < 0
 ·rw [if_pos hn]
  unfold jNum
  simp only [List.head?_cons, beq_self_eq_true, if_true, List.tail_cons]
  have hl := decDigits_len 15 v.natAbs (by omega)
  rw [if_pos ⟨decDigits_ne _, hl, .inl (decDigits_head _ (by omega)), decDigits_dig _, by rw [decDigits_val]; omega⟩, decDigits_val]
  congr 1
  omega
 ·rw [if_neg hn]
  unfold jNum
  have hd := decDigits_dig v.toNat
  have hne := decDigits_ne v.toNat
  have h45 : ((decDigits v.toNat).head? == some 45) = false := by
   cases hdd : decDigits v.toNat with
   | nil => exact absurd hdd hne
   | cons c l =>
    rw [hdd] at hd
    simp only [List.all_cons, Bool.and_eq_true] at hd
    have := dig_char hd.1
    simp
    intro e
    rw [e] at this
    have : (45 : UInt8).toNat = 45 := rfl
    omega
  simp only [h45, Bool.false_eq_true, if_false]
  have hl := decDigits_len 15 v.toNat (by omega)
  have h3 : (decDigits v.toNat).head? ≠ some 48 ∨ (decDigits v.toNat).length = 1 ∧ False = False := by
   by_cases hz : v.toNat = 0
   ·right; rw [hz, decDigits_small (by decide)]; simp
   ·exact .inl (decDigits_head _ (by omega))
  rw [if_pos ⟨hne, hl, by rcases h3 with h | ⟨h, _⟩; exact .inl h; exact .inr ⟨h, trivial⟩, hd, by rw [decDigits_val]; omega⟩, decDigits_val]
  congr 1
  omega
end Go.Proofs.YtlhicfpmlncomaaGreatDoor
