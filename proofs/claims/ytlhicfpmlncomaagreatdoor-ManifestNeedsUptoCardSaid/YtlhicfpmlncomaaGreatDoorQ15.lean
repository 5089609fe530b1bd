/-
 Layer 8: the program's member, walked.
-/
import Derived.Test.YtlhicfpmlncomaaGreatDoorQ14
import Derived.Test.YtlhicfpmlncomaaGreatDoorQ03
namespace Go.Proofs.YtlhicfpmlncomaaGreatDoor
open Go.RowKit
set_option linter.unusedSimpArgs false
set_option linter.unusedVariables false
/-- The library's variable holds a number, whatever is made above a place. -/
def MaxAt (B : Nat) (w : World) : Prop := ∀ w', Below B w w' → MaxW w'
theorem MaxAt.on {B : Nat} {w w' : World} (h : MaxAt B w) (hb : Below B w w') : MaxAt B w' := fun w'' h2 => h w'' (hb.trans h2)
theorem MaxAt.now {B : Nat} {w : World} (h : MaxAt B w) : MaxW w := h w (Below.refl _ _)
theorem VRd.onB {w w' : World} {B : Nat} {v : JV} {cs : List Value} (h : VRd w (· < B) v cs) (hb : Below B w w') (hB : B ≤ w'.heap.size) : VRd w' (· < w'.heap.size) v cs :=
 VRd.keep (fun _ hk => Nat.lt_of_lt_of_le hk hB) (fun k hk => hb.block k hk) v h
/-- What a member counts for. -/
def gotB (s : List UInt8) : Int := if s = kVersion then 1 else if s = kMedia then 2 else if s = kConfig then 4 else if s = kLayers then 8 else if s = kManifests then 16 else 0
def gotI (h : MGot) : Int := (if h.v = true then 1 else 0) + (if h.m = true then 2 else 0) + (if h.c = true then 4 else 0) + (if h.l = true then 8 else 0) + (if h.i = true then 16 else 0)
theorem got_or (h : MGot) (s : List UInt8) : bits BinOp.or IntKind.i64 (gotI h) (gotB s) = gotI (h.one s) := by
 unfold gotB
 obtain ⟨a, b, c, d, e⟩ := h
 by_cases h1 : s = kVersion
 ·subst h1; rw [if_pos rfl]; cases a <;> cases b <;> cases c <;> cases d <;> cases e <;> rfl
 rw [if_neg h1]
 by_cases h2 : s = kMedia
 ·subst h2; rw [if_pos rfl]; cases a <;> cases b <;> cases c <;> cases d <;> cases e <;> rfl
 rw [if_neg h2]
 by_cases h3 : s = kConfig
 ·subst h3; rw [if_pos rfl]; cases a <;> cases b <;> cases c <;> cases d <;> cases e <;> rfl
 rw [if_neg h3]
 by_cases h4 : s = kLayers
 ·subst h4; rw [if_pos rfl]; cases a <;> cases b <;> cases c <;> cases d <;> cases e <;> rfl
 rw [if_neg h4]
 by_cases h5 : s = kManifests
 ·subst h5; rw [if_pos rfl]; cases a <;> cases b <;> cases c <;> cases d <;> cases e <;> rfl
 rw [if_neg h5]
 unfold MGot.one
 simp only [h1, h2, h3, h4, h5, decide_false, Bool.or_false]
 cases a <;> cases b <;> cases c <;> cases d <;> cases e <;> rfl
theorem rStep_v1 {d : MDoc} {s : List UInt8} {v : JV} (h0 : s = kVersion) (h : v.kind = 3 ∧ v.num = 2) : rStep d s v = .ok d := by unfold rStep mStep; rw [if_pos h0, if_pos h]
theorem rStep_v0 {d : MDoc} {s : List UInt8} {v : JV} (h0 : s = kVersion) (h : ¬ (v.kind = 3 ∧ v.num = 2)) : rStep d s v = .error 80 := by unfold rStep mStep; rw [if_pos h0, if_neg h]
theorem rStep_m2 {d : MDoc} {s : List UInt8} {v : JV} (h0 : ¬ s = kVersion) (h1 : s = kMedia) (h : v.kind = 4) (hh : v.text = sImage ∨ v.text = sIndex) : rStep d s v = .ok { d with media := v.text } := by unfold rStep mStep; rw [if_neg h0, if_pos h1, if_pos h, if_pos hh]
theorem rStep_m1 {d : MDoc} {s : List UInt8} {v : JV} (h0 : ¬ s = kVersion) (h1 : s = kMedia) (h : v.kind = 4) (hh : ¬ (v.text = sImage ∨ v.text = sIndex)) : rStep d s v = .error 72 := by unfold rStep mStep; rw [if_neg h0, if_pos h1, if_pos h, if_neg hh]
theorem rStep_m0 {d : MDoc} {s : List UInt8} {v : JV} (h0 : ¬ s = kVersion) (h1 : s = kMedia) (h : ¬ v.kind = 4) : rStep d s v = .error 80 := by unfold rStep mStep; rw [if_neg h0, if_pos h1, if_neg h]
/-- A member is taken in. -/
def MMem (w : World) (g : Nat) (s : List UInt8) (es0 : List Ent) (r : MR MDoc) (e : Ending) (w' : World) : Prop :=
 ∃ cs' es b, e = .returned (.tuple #[.int .i64 b, mErr r]) ∧ cs'.length = 75 ∧ (∀ u ∈ cs', u.oneCell' = true) ∧ Fr [g] w w' (.blk g 31 cs' :: es) ∧ ∀ d', r = .ok d' → b = gotB s ∧ VDoc d' cs' (es0 ++ es)
set_option maxRecDepth 20000 in
set_option maxHeartbeats 12800000 in
theorem mmember_any (g B : Nat) (d : MDoc) (cf : List Value) (eg : Value) (sj : List Value) (nt : Value) (es0 : List Ent) (s : List UInt8) (v : JV) (cs : List Value) (w : World)
  (hh : w.heap[g]? = some (.cells (docL d.media d.type cf eg sj d.has nt).toArray 31 (0, 0))) (hg : B ≤ g) (hB : B ≤ w.heap.size) (hC : VD d.config cf es0) (hE : VE d.edges eg es0) (hS : VD d.subject sj es0) (hN : VN d.notes nt es0)
  (hM : MaxAt B w) (hv : VRd w (· < B) v cs) (hob : JOb v) :
  Calls Tryz.prog 66 #[.pointer (some ⟨g, 0, none⟩), .string ⟨s.toArray⟩, .agg cs.toArray] w (MMem w g s es0 (rStep d s v)) := by
 have hF0 := Fr.one hh
 have hcl := hC.len
 have hsl := hS.len
 have hco := hC.ones
 have hso := hS.ones
 have hsz := hob.small.1
 clear hh
 obtain ⟨k, n, t, ns, ks⟩ := v
 have hv0 := hv
 rw [VRd] at hv
 obtain ⟨An, nn, cn, Ak, nk, ck, xs, hcn, hck, rfl, hrn, hrk, hvk⟩ := hv
 clear hrn hrk hvk
 by_cases h0 : s = kVersion
 ·skip
  have hrA : Box (k = 3 ∧ n = 2 → rStep d s (.mk k n t ns ks) = .ok d) := box (fun h => rStep_v1 (v := .mk k n t ns ks) h0 h)
  have hrB : Box (¬ (k = 3 ∧ n = 2) → rStep d s (.mk k n t ns ks) = .error 80) := box (fun h => rStep_v0 (v := .mk k n t ns ks) h0 h)
  have hsq : s = [115, 99, 104, 101, 109, 97, 86, 101, 114, 115, 105, 111, 110] := h0
  subst hsq
  clear h0
  by_cases hk3 : k = 3
  ·have hq3 : ((k : Int) != 3) = false := by rw [hk3]; rfl
   by_cases hn2 : n = 2
   ·have hr := box (hrA.out ⟨hk3, hn2⟩)
    have hq2 : ((n : Int) != 2) = false := by rw [hn2]; rfl
    replace hk3 := box hk3
    replace hn2 := box hn2
    go_enter Tryz.func66, Tryz.ntmps66
    go_wp2_with (first | ((with_reducible refine lst (by with_unfolding_all rfl) (wp_fbox hF0 (cs := (vlL k n ⟨t.toArray⟩ (.slice An nn cn) (.slice Ak nk ck))) rfl (by with_unfolding_all rfl) (by with_unfolding_all rfl) ?_)); intro w1 g1 hF1 hz1) | (with_reducible refine lst (by with_unfolding_all rfl) (wp_fld0 hF1 Tryz.underlying3 rfl (by with_unfolding_all exact ⟨_, rfl, rfl⟩) rfl ?_)) | (with_reducible refine lst (by with_unfolding_all rfl) (wp_fldA0 hF1 Tryz.underlying76 rfl (by with_unfolding_all exact ⟨_, rfl, rfl⟩) (ds := (vlL k n ⟨t.toArray⟩ (.slice An nn cn) (.slice Ak nk ck))) (by rw [vlL_len]; kernel_rfl) (take_all _) ?_)))
    go_ret2
    unfold MMem
    rw [hr.out]
    exact ⟨_, [], _, rfl, docL_len hcl hsl, docL_one hco hso hE.one hN.one, hF1.tail, fun d' h => by injection h with h; subst h; exact ⟨rfl, ⟨cf, eg, sj, nt, hC.mono (fun _ h => List.mem_append_left _ h), hE.mono (fun _ h => List.mem_append_left _ h), hS.mono (fun _ h => List.mem_append_left _ h), hN.mono (fun _ h => List.mem_append_left _ h), rfl⟩⟩⟩
   ·have hr := box (hrB.out (fun h => hn2 h.2))
    have hq2 : ((n : Int) != 2) = true := by rw [bne_iff_ne]; exact hn2
    replace hk3 := box hk3
    replace hn2 := box hn2
    go_enter Tryz.func66, Tryz.ntmps66
    go_wp2_with (first | ((with_reducible refine lst (by with_unfolding_all rfl) (wp_fbox hF0 (cs := (vlL k n ⟨t.toArray⟩ (.slice An nn cn) (.slice Ak nk ck))) rfl (by with_unfolding_all rfl) (by with_unfolding_all rfl) ?_)); intro w1 g1 hF1 hz1) | (with_reducible refine lst (by with_unfolding_all rfl) (wp_fld0 hF1 Tryz.underlying3 rfl (by with_unfolding_all exact ⟨_, rfl, rfl⟩) rfl ?_)) | (with_reducible refine lst (by with_unfolding_all rfl) (wp_fldA0 hF1 Tryz.underlying76 rfl (by with_unfolding_all exact ⟨_, rfl, rfl⟩) (ds := (vlL k n ⟨t.toArray⟩ (.slice An nn cn) (.slice Ak nk ck))) (by rw [vlL_len]; kernel_rfl) (take_all _) ?_)))
    go_ret2
    unfold MMem
    rw [hr.out]
    exact ⟨_, [], _, rfl, docL_len hcl hsl, docL_one hco hso hE.one hN.one, hF1.tail, fun d' h => by cases h⟩
  ·have hr := box (hrB.out (fun h => hk3 h.1))
   have hq3 : ((k : Int) != 3) = true := by rw [bne_iff_ne]; exact hk3
   replace hk3 := box hk3
   go_enter Tryz.func66, Tryz.ntmps66
   go_wp2_with (first | ((with_reducible refine lst (by with_unfolding_all rfl) (wp_fbox hF0 (cs := (vlL k n ⟨t.toArray⟩ (.slice An nn cn) (.slice Ak nk ck))) rfl (by with_unfolding_all rfl) (by with_unfolding_all rfl) ?_)); intro w1 g1 hF1 hz1) | (with_reducible refine lst (by with_unfolding_all rfl) (wp_fld0 hF1 Tryz.underlying3 rfl (by with_unfolding_all exact ⟨_, rfl, rfl⟩) rfl ?_)) | (with_reducible refine lst (by with_unfolding_all rfl) (wp_fldA0 hF1 Tryz.underlying76 rfl (by with_unfolding_all exact ⟨_, rfl, rfl⟩) (ds := (vlL k n ⟨t.toArray⟩ (.slice An nn cn) (.slice Ak nk ck))) (by rw [vlL_len]; kernel_rfl) (take_all _) ?_)))
   go_ret2
   unfold MMem
   rw [hr.out]
   exact ⟨_, [], _, rfl, docL_len hcl hsl, docL_one hco hso hE.one hN.one, hF1.tail, fun d' h => by cases h⟩
 have n0 : (s == [115, 99, 104, 101, 109, 97, 86, 101, 114, 115, 105, 111, 110]) = false := by rw [beq_eq_false_iff_ne]; exact h0
 by_cases h1 : s = kMedia
 ·skip
  have hrA : Box (k = 4 → (t = sImage ∨ t = sIndex) → rStep d s (.mk k n t ns ks) = .ok { d with media := t }) := box (fun h hh => rStep_m2 (v := .mk k n t ns ks) h0 h1 h hh)
  have hrB : Box (k = 4 → ¬ (t = sImage ∨ t = sIndex) → rStep d s (.mk k n t ns ks) = .error 72) := box (fun h hh => rStep_m1 (v := .mk k n t ns ks) h0 h1 h hh)
  have hrC : Box (¬ k = 4 → rStep d s (.mk k n t ns ks) = .error 80) := box (fun h => rStep_m0 (v := .mk k n t ns ks) h0 h1 h)
  have hsq : s = [109, 101, 100, 105, 97, 84, 121, 112, 101] := h1
  subst hsq
  clear h0 h1 n0
  have htx := box (fun w' hb hB' => mtext_any (.mk k n t ns ks) _ w' _ (hv0.onB (w' := w') hb hB'))
  by_cases hk4 : k = 4
  ·rw [show mText (.mk k n t ns ks) = .ok t from if_pos hk4] at htx
   by_cases hi : t = sImage
   ·have hr := box (hrA.out hk4 (.inl hi))
    have e1 : (t == [97, 112, 112, 108, 105, 99, 97, 116, 105, 111, 110, 47, 118, 110, 100, 46, 111, 99, 105, 46, 105, 109, 97, 103, 101, 46, 109, 97, 110, 105, 102, 101, 115, 116, 46, 118, 49, 43, 106, 115, 111, 110]) = true := by rw [beq_iff_eq]; exact hi
    have e2 : (t != [97, 112, 112, 108, 105, 99, 97, 116, 105, 111, 110, 47, 118, 110, 100, 46, 111, 99, 105, 46, 105, 109, 97, 103, 101, 46, 109, 97, 110, 105, 102, 101, 115, 116, 46, 118, 49, 43, 106, 115, 111, 110]) = false := by rw [bne, e1]; rfl
    have e3 : (t == [97, 112, 112, 108, 105, 99, 97, 116, 105, 111, 110, 47, 118, 110, 100, 46, 111, 99, 105, 46, 105, 109, 97, 103, 101, 46, 105, 110, 100, 101, 120, 46, 118, 49, 43, 106, 115, 111, 110]) = false := by rw [beq_eq_false_iff_ne]; exact (fun h => sImage_ne (hi.symm.trans h))
    have e4 : (t != [97, 112, 112, 108, 105, 99, 97, 116, 105, 111, 110, 47, 118, 110, 100, 46, 111, 99, 105, 46, 105, 109, 97, 103, 101, 46, 105, 110, 100, 101, 120, 46, 118, 49, 43, 106, 115, 111, 110]) = true := by rw [bne, e3]; rfl
    replace hi := box hi
    replace hk4 := box hk4
    go_enter Tryz.func66, Tryz.ntmps66
    go_wp2_with (first | ((with_reducible refine lst (by with_unfolding_all rfl) (wp_fbox hF0 (cs := (vlL k n ⟨t.toArray⟩ (.slice An nn cn) (.slice Ak nk ck))) rfl (by with_unfolding_all rfl) (by with_unfolding_all rfl) ?_)); intro w1 g1 hF1 hz1) | (with_reducible refine lst (by with_unfolding_all rfl) (wp_fld0 hF1 Tryz.underlying3 rfl (by with_unfolding_all exact ⟨_, rfl, rfl⟩) rfl ?_)) | (with_reducible refine lst (by with_unfolding_all rfl) (wp_fldA0 hF1 Tryz.underlying76 rfl (by with_unfolding_all exact ⟨_, rfl, rfl⟩) (ds := (vlL k n ⟨t.toArray⟩ (.slice An nn cn) (.slice Ak nk ck))) (by rw [vlL_len]; kernel_rfl) (take_all _) ?_)))
    refine (htx.out _ (hF1.belowG hg hB) (Nat.le_trans hB hF1.size)).mono ?_
    rintro e w2 ⟨rfl, hb2⟩
    have hF2 := hF1.call hb2
    simp only [mStr, mErr, strv]
    go_wp2_with (first | ((with_reducible refine lst (by with_unfolding_all rfl) (wp_fst1 hF2 (by with_unfolding_all exact ⟨_, _, rfl, rfl, rfl⟩) (by kernel_rfl) rfl rfl (by rw [docL_len hcl hsl]; decide) (docL_0s (m' := t)) ?_)); intro w3 hF3 hz3) | (with_reducible refine lst (by with_unfolding_all rfl) (wp_fld1 hF3 Tryz.underlying9 rfl (by with_unfolding_all exact ⟨_, rfl, rfl⟩) docL_m0 ?_)))
    go_ret2
    unfold MMem
    rw [hr.out]
    exact ⟨_, [], _, rfl, docL_len hcl hsl, docL_one hco hso hE.one hN.one, hF3.tail, fun d' h => by injection h with h; subst h; exact ⟨rfl, ⟨cf, eg, sj, nt, hC.mono (fun _ h => List.mem_append_left _ h), hE.mono (fun _ h => List.mem_append_left _ h), hS.mono (fun _ h => List.mem_append_left _ h), hN.mono (fun _ h => List.mem_append_left _ h), rfl⟩⟩⟩
   by_cases hx : t = sIndex
   ·have hr := box (hrA.out hk4 (.inr hx))
    have e1 : (t == [97, 112, 112, 108, 105, 99, 97, 116, 105, 111, 110, 47, 118, 110, 100, 46, 111, 99, 105, 46, 105, 109, 97, 103, 101, 46, 105, 110, 100, 101, 120, 46, 118, 49, 43, 106, 115, 111, 110]) = true := by rw [beq_iff_eq]; exact hx
    have e2 : (t != [97, 112, 112, 108, 105, 99, 97, 116, 105, 111, 110, 47, 118, 110, 100, 46, 111, 99, 105, 46, 105, 109, 97, 103, 101, 46, 105, 110, 100, 101, 120, 46, 118, 49, 43, 106, 115, 111, 110]) = false := by rw [bne, e1]; rfl
    have e3 : (t == [97, 112, 112, 108, 105, 99, 97, 116, 105, 111, 110, 47, 118, 110, 100, 46, 111, 99, 105, 46, 105, 109, 97, 103, 101, 46, 109, 97, 110, 105, 102, 101, 115, 116, 46, 118, 49, 43, 106, 115, 111, 110]) = false := by rw [beq_eq_false_iff_ne]; exact hi
    have e4 : (t != [97, 112, 112, 108, 105, 99, 97, 116, 105, 111, 110, 47, 118, 110, 100, 46, 111, 99, 105, 46, 105, 109, 97, 103, 101, 46, 109, 97, 110, 105, 102, 101, 115, 116, 46, 118, 49, 43, 106, 115, 111, 110]) = true := by rw [bne, e3]; rfl
    replace hi := box hi
    replace hx := box hx
    replace hk4 := box hk4
    go_enter Tryz.func66, Tryz.ntmps66
    go_wp2_with (first | ((with_reducible refine lst (by with_unfolding_all rfl) (wp_fbox hF0 (cs := (vlL k n ⟨t.toArray⟩ (.slice An nn cn) (.slice Ak nk ck))) rfl (by with_unfolding_all rfl) (by with_unfolding_all rfl) ?_)); intro w1 g1 hF1 hz1) | (with_reducible refine lst (by with_unfolding_all rfl) (wp_fld0 hF1 Tryz.underlying3 rfl (by with_unfolding_all exact ⟨_, rfl, rfl⟩) rfl ?_)) | (with_reducible refine lst (by with_unfolding_all rfl) (wp_fldA0 hF1 Tryz.underlying76 rfl (by with_unfolding_all exact ⟨_, rfl, rfl⟩) (ds := (vlL k n ⟨t.toArray⟩ (.slice An nn cn) (.slice Ak nk ck))) (by rw [vlL_len]; kernel_rfl) (take_all _) ?_)))
    refine (htx.out _ (hF1.belowG hg hB) (Nat.le_trans hB hF1.size)).mono ?_
    rintro e w2 ⟨rfl, hb2⟩
    have hF2 := hF1.call hb2
    simp only [mStr, mErr, strv]
    go_wp2_with (first | ((with_reducible refine lst (by with_unfolding_all rfl) (wp_fst1 hF2 (by with_unfolding_all exact ⟨_, _, rfl, rfl, rfl⟩) (by kernel_rfl) rfl rfl (by rw [docL_len hcl hsl]; decide) (docL_0s (m' := t)) ?_)); intro w3 hF3 hz3) | (with_reducible refine lst (by with_unfolding_all rfl) (wp_fld1 hF3 Tryz.underlying9 rfl (by with_unfolding_all exact ⟨_, rfl, rfl⟩) docL_m0 ?_)))
    go_ret2
    unfold MMem
    rw [hr.out]
    exact ⟨_, [], _, rfl, docL_len hcl hsl, docL_one hco hso hE.one hN.one, hF3.tail, fun d' h => by injection h with h; subst h; exact ⟨rfl, ⟨cf, eg, sj, nt, hC.mono (fun _ h => List.mem_append_left _ h), hE.mono (fun _ h => List.mem_append_left _ h), hS.mono (fun _ h => List.mem_append_left _ h), hN.mono (fun _ h => List.mem_append_left _ h), rfl⟩⟩⟩
   ·have hr := box (hrB.out hk4 (by rintro (h | h); exact hi h; exact hx h))
    have e3 : (t == [97, 112, 112, 108, 105, 99, 97, 116, 105, 111, 110, 47, 118, 110, 100, 46, 111, 99, 105, 46, 105, 109, 97, 103, 101, 46, 109, 97, 110, 105, 102, 101, 115, 116, 46, 118, 49, 43, 106, 115, 111, 110]) = false := by rw [beq_eq_false_iff_ne]; exact hi
    have e4 : (t != [97, 112, 112, 108, 105, 99, 97, 116, 105, 111, 110, 47, 118, 110, 100, 46, 111, 99, 105, 46, 105, 109, 97, 103, 101, 46, 109, 97, 110, 105, 102, 101, 115, 116, 46, 118, 49, 43, 106, 115, 111, 110]) = true := by rw [bne, e3]; rfl
    have e5 : (t == [97, 112, 112, 108, 105, 99, 97, 116, 105, 111, 110, 47, 118, 110, 100, 46, 111, 99, 105, 46, 105, 109, 97, 103, 101, 46, 105, 110, 100, 101, 120, 46, 118, 49, 43, 106, 115, 111, 110]) = false := by rw [beq_eq_false_iff_ne]; exact hx
    have e6 : (t != [97, 112, 112, 108, 105, 99, 97, 116, 105, 111, 110, 47, 118, 110, 100, 46, 111, 99, 105, 46, 105, 109, 97, 103, 101, 46, 105, 110, 100, 101, 120, 46, 118, 49, 43, 106, 115, 111, 110]) = true := by rw [bne, e5]; rfl
    replace hi := box hi
    replace hx := box hx
    replace hk4 := box hk4
    go_enter Tryz.func66, Tryz.ntmps66
    go_wp2_with (first | ((with_reducible refine lst (by with_unfolding_all rfl) (wp_fbox hF0 (cs := (vlL k n ⟨t.toArray⟩ (.slice An nn cn) (.slice Ak nk ck))) rfl (by with_unfolding_all rfl) (by with_unfolding_all rfl) ?_)); intro w1 g1 hF1 hz1) | (with_reducible refine lst (by with_unfolding_all rfl) (wp_fld0 hF1 Tryz.underlying3 rfl (by with_unfolding_all exact ⟨_, rfl, rfl⟩) rfl ?_)) | (with_reducible refine lst (by with_unfolding_all rfl) (wp_fldA0 hF1 Tryz.underlying76 rfl (by with_unfolding_all exact ⟨_, rfl, rfl⟩) (ds := (vlL k n ⟨t.toArray⟩ (.slice An nn cn) (.slice Ak nk ck))) (by rw [vlL_len]; kernel_rfl) (take_all _) ?_)))
    refine (htx.out _ (hF1.belowG hg hB) (Nat.le_trans hB hF1.size)).mono ?_
    rintro e w2 ⟨rfl, hb2⟩
    have hF2 := hF1.call hb2
    simp only [mStr, mErr, strv]
    go_wp2_with (first | ((with_reducible refine lst (by with_unfolding_all rfl) (wp_fst1 hF2 (by with_unfolding_all exact ⟨_, _, rfl, rfl, rfl⟩) (by kernel_rfl) rfl rfl (by rw [docL_len hcl hsl]; decide) (docL_0s (m' := t)) ?_)); intro w3 hF3 hz3) | (with_reducible refine lst (by with_unfolding_all rfl) (wp_fld1 hF3 Tryz.underlying9 rfl (by with_unfolding_all exact ⟨_, rfl, rfl⟩) docL_m0 ?_)))
    go_ret2
    unfold MMem
    rw [hr.out]
    exact ⟨_, [], _, rfl, docL_len hcl hsl, docL_one hco hso hE.one hN.one, hF3.tail, fun d' h => by cases h⟩
  ·have hr := box (hrC.out hk4)
   rw [show mText (.mk k n t ns ks) = .error 80 from if_neg hk4] at htx
   replace hk4 := box hk4
   go_enter Tryz.func66, Tryz.ntmps66
   go_wp2_with (first | ((with_reducible refine lst (by with_unfolding_all rfl) (wp_fbox hF0 (cs := (vlL k n ⟨t.toArray⟩ (.slice An nn cn) (.slice Ak nk ck))) rfl (by with_unfolding_all rfl) (by with_unfolding_all rfl) ?_)); intro w1 g1 hF1 hz1) | (with_reducible refine lst (by with_unfolding_all rfl) (wp_fld0 hF1 Tryz.underlying3 rfl (by with_unfolding_all exact ⟨_, rfl, rfl⟩) rfl ?_)) | (with_reducible refine lst (by with_unfolding_all rfl) (wp_fldA0 hF1 Tryz.underlying76 rfl (by with_unfolding_all exact ⟨_, rfl, rfl⟩) (ds := (vlL k n ⟨t.toArray⟩ (.slice An nn cn) (.slice Ak nk ck))) (by rw [vlL_len]; kernel_rfl) (take_all _) ?_)))
   refine (htx.out _ (hF1.belowG hg hB) (Nat.le_trans hB hF1.size)).mono ?_
   rintro e w2 ⟨rfl, hb2⟩
   have hF2 := hF1.call hb2
   simp only [mStr, mErr, strv]
   go_wp2_with (first | ((with_reducible refine lst (by with_unfolding_all rfl) (wp_fst1 hF2 (by with_unfolding_all exact ⟨_, _, rfl, rfl, rfl⟩) (by kernel_rfl) rfl rfl (by rw [docL_len hcl hsl]; decide) (docL_0s (m' := [])) ?_)); intro w3 hF3 hz3) | (with_reducible refine lst (by with_unfolding_all rfl) (wp_fld1 hF3 Tryz.underlying9 rfl (by with_unfolding_all exact ⟨_, rfl, rfl⟩) docL_m0 ?_)))
   go_ret2
   unfold MMem
   rw [hr.out]
   exact ⟨_, [], _, rfl, docL_len hcl hsl, docL_one hco hso hE.one hN.one, hF3.tail, fun d' h => by cases h⟩
 have n1 : (s == [109, 101, 100, 105, 97, 84, 121, 112, 101]) = false := by rw [beq_eq_false_iff_ne]; exact h1
 by_cases h2 : s = kType
 ·skip
  have hr : Box (rStep d s (.mk k n t ns ks) = match (match mMedia (.mk k n t ns ks) with | .ok x => (.ok (({ d with type := x } : MDoc), (⟨false, false, false, false, false⟩ : MGot)) : MR (MDoc × MGot)) | .error e => .error e) with | .ok x => .ok x.1 | .error e => .error e) := box (by unfold rStep mStep; rw [if_neg h0, if_neg h1, if_pos h2]; rfl)
  have hsq : s = [97, 114, 116, 105, 102, 97, 99, 116, 84, 121, 112, 101] := h2
  subst hsq
  clear h0 h1 h2 n0 n1
  have htx := box (fun w' hb hB' => mmedia_any (.mk k n t ns ks) _ w' ((hM.on hb).now) (hv0.onB (w' := w') hb hB') hsz)
  cases hm : mMedia (.mk k n t ns ks) with
  | ok x =>
   rw [hm] at hr htx
   go_enter Tryz.func66, Tryz.ntmps66
   go_wp2_with (first | ((with_reducible refine lst (by with_unfolding_all rfl) (wp_fbox hF0 (cs := (vlL k n ⟨t.toArray⟩ (.slice An nn cn) (.slice Ak nk ck))) rfl (by with_unfolding_all rfl) (by with_unfolding_all rfl) ?_)); intro w1 g1 hF1 hz1) | (with_reducible refine lst (by with_unfolding_all rfl) (wp_fld0 hF1 Tryz.underlying3 rfl (by with_unfolding_all exact ⟨_, rfl, rfl⟩) rfl ?_)) | (with_reducible refine lst (by with_unfolding_all rfl) (wp_fldA0 hF1 Tryz.underlying76 rfl (by with_unfolding_all exact ⟨_, rfl, rfl⟩) (ds := (vlL k n ⟨t.toArray⟩ (.slice An nn cn) (.slice Ak nk ck))) (by rw [vlL_len]; kernel_rfl) (take_all _) ?_)))
   refine (htx.out _ (hF1.belowG hg hB) (Nat.le_trans hB hF1.size)).mono ?_
   rintro e w2 ⟨rfl, hb2⟩
   have hF2 := hF1.call hb2
   simp only [mStr, mErr, strv]
   go_wp2_with (first | ((with_reducible refine lst (by with_unfolding_all rfl) (wp_fst1 hF2 (by with_unfolding_all exact ⟨_, _, rfl, rfl, rfl⟩) (by kernel_rfl) rfl rfl (by rw [docL_len hcl hsl]; decide) (docL_1s (t' := x)) ?_)); intro w3 hF3 hz3))
   go_ret2
   unfold MMem
   rw [hr.out]
   exact ⟨_, [], _, rfl, docL_len hcl hsl, docL_one hco hso hE.one hN.one, hF3.tail, fun d' h => by injection h with h; subst h; exact ⟨rfl, ⟨cf, eg, sj, nt, hC.mono (fun _ h => List.mem_append_left _ h), hE.mono (fun _ h => List.mem_append_left _ h), hS.mono (fun _ h => List.mem_append_left _ h), hN.mono (fun _ h => List.mem_append_left _ h), rfl⟩⟩⟩
  | error ee =>
   rw [hm] at hr htx
   go_enter Tryz.func66, Tryz.ntmps66
   go_wp2_with (first | ((with_reducible refine lst (by with_unfolding_all rfl) (wp_fbox hF0 (cs := (vlL k n ⟨t.toArray⟩ (.slice An nn cn) (.slice Ak nk ck))) rfl (by with_unfolding_all rfl) (by with_unfolding_all rfl) ?_)); intro w1 g1 hF1 hz1) | (with_reducible refine lst (by with_unfolding_all rfl) (wp_fld0 hF1 Tryz.underlying3 rfl (by with_unfolding_all exact ⟨_, rfl, rfl⟩) rfl ?_)) | (with_reducible refine lst (by with_unfolding_all rfl) (wp_fldA0 hF1 Tryz.underlying76 rfl (by with_unfolding_all exact ⟨_, rfl, rfl⟩) (ds := (vlL k n ⟨t.toArray⟩ (.slice An nn cn) (.slice Ak nk ck))) (by rw [vlL_len]; kernel_rfl) (take_all _) ?_)))
   refine (htx.out _ (hF1.belowG hg hB) (Nat.le_trans hB hF1.size)).mono ?_
   rintro e w2 ⟨rfl, hb2⟩
   have hF2 := hF1.call hb2
   simp only [mStr, mErr, strv]
   go_wp2_with (first | ((with_reducible refine lst (by with_unfolding_all rfl) (wp_fst1 hF2 (by with_unfolding_all exact ⟨_, _, rfl, rfl, rfl⟩) (by kernel_rfl) rfl rfl (by rw [docL_len hcl hsl]; decide) (docL_1s (t' := [])) ?_)); intro w3 hF3 hz3))
   go_ret2
   unfold MMem
   rw [hr.out]
   exact ⟨_, [], _, rfl, docL_len hcl hsl, docL_one hco hso hE.one hN.one, hF3.tail, fun d' h => by cases h⟩
 have n2 : (s == [97, 114, 116, 105, 102, 97, 99, 116, 84, 121, 112, 101]) = false := by rw [beq_eq_false_iff_ne]; exact h2
 by_cases h3 : s = kConfig
 ·skip
  have hr : Box (rStep d s (.mk k n t ns ks) = match (match mDesc (.mk k n t ns ks) with | .ok x => (.ok (({ d with config := x } : MDoc), (⟨false, false, true, false, false⟩ : MGot)) : MR (MDoc × MGot)) | .error e => .error e) with | .ok x => .ok x.1 | .error e => .error e) := box (by unfold rStep mStep; rw [if_neg h0, if_neg h1, if_neg h2, if_pos h3]; rfl)
  have hsq : s = [99, 111, 110, 102, 105, 103] := h3
  subst hsq
  clear h0 h1 h2 h3 n0 n1 n2
  have htx := box (fun w' hb hB' => mdesc_any (.mk k n t ns ks) _ w' ((hM.on hb).now) (hv0.onB (w' := w') hb hB') hob)
  cases hm : mDesc (.mk k n t ns ks) with
  | ok x =>
   rw [hm] at hr htx
   go_enter Tryz.func66, Tryz.ntmps66
   go_wp2_with (first | ((with_reducible refine lst (by with_unfolding_all rfl) (wp_fbox hF0 (cs := (vlL k n ⟨t.toArray⟩ (.slice An nn cn) (.slice Ak nk ck))) rfl (by with_unfolding_all rfl) (by with_unfolding_all rfl) ?_)); intro w1 g1 hF1 hz1) | (with_reducible refine lst (by with_unfolding_all rfl) (wp_fld0 hF1 Tryz.underlying3 rfl (by with_unfolding_all exact ⟨_, rfl, rfl⟩) rfl ?_)) | (with_reducible refine lst (by with_unfolding_all rfl) (wp_fldA0 hF1 Tryz.underlying76 rfl (by with_unfolding_all exact ⟨_, rfl, rfl⟩) (ds := (vlL k n ⟨t.toArray⟩ (.slice An nn cn) (.slice Ak nk ck))) (by rw [vlL_len]; kernel_rfl) (take_all _) ?_)))
   refine (htx.out _ (hF1.belowG hg hB) (Nat.le_trans hB hF1.size)).mono ?_
   rintro e w2 ⟨c2, es2, rfl, hvd, h2⟩
   have hF2 := hF1.joinR h2
   simp only [List.cons_append, List.nil_append] at hF2
   have hdl := box hvd.len
   have hdo := hvd.ones
   replace hdo := box hdo
   simp only [mErr]
   go_wp2_with (first | ((with_reducible refine lst (by with_unfolding_all rfl) (wp_fstA1 hF2 (by with_unfolding_all exact ⟨_, _, rfl, rfl, rfl⟩) (by rw [hdl.out]; kernel_rfl) hdo.out (by rw [hdl.out, docL_len hcl hsl]; decide) (docL_2 (by rw [hdl.out, hcl])) ?_)); intro w3 hF3 hz3))
   go_ret2
   unfold MMem
   rw [hr.out]
   exact ⟨_, es2, _, rfl, docL_len hdl.out hsl, docL_one hdo.out hso hE.one hN.one, hF3.tail, fun d' h => by injection h with h; subst h; exact ⟨rfl, ⟨c2, eg, sj, nt, hvd.mono (fun _ h => List.mem_append_right _ h), hE.mono (fun _ h => List.mem_append_left _ h), hS.mono (fun _ h => List.mem_append_left _ h), hN.mono (fun _ h => List.mem_append_left _ h), rfl⟩⟩⟩
  | error ee =>
   rw [hm] at hr htx
   go_enter Tryz.func66, Tryz.ntmps66
   go_wp2_with (first | ((with_reducible refine lst (by with_unfolding_all rfl) (wp_fbox hF0 (cs := (vlL k n ⟨t.toArray⟩ (.slice An nn cn) (.slice Ak nk ck))) rfl (by with_unfolding_all rfl) (by with_unfolding_all rfl) ?_)); intro w1 g1 hF1 hz1) | (with_reducible refine lst (by with_unfolding_all rfl) (wp_fld0 hF1 Tryz.underlying3 rfl (by with_unfolding_all exact ⟨_, rfl, rfl⟩) rfl ?_)) | (with_reducible refine lst (by with_unfolding_all rfl) (wp_fldA0 hF1 Tryz.underlying76 rfl (by with_unfolding_all exact ⟨_, rfl, rfl⟩) (ds := (vlL k n ⟨t.toArray⟩ (.slice An nn cn) (.slice Ak nk ck))) (by rw [vlL_len]; kernel_rfl) (take_all _) ?_)))
   refine (htx.out _ (hF1.belowG hg hB) (Nat.le_trans hB hF1.size)).mono ?_
   rintro e w2 ⟨c2, es2, rfl, hvd, h2⟩
   have hF2 := hF1.joinR h2
   simp only [List.cons_append, List.nil_append] at hF2
   have hdl := box hvd.len
   have hdo := hvd.ones
   replace hdo := box hdo
   simp only [mErr]
   go_wp2_with (first | ((with_reducible refine lst (by with_unfolding_all rfl) (wp_fstA1 hF2 (by with_unfolding_all exact ⟨_, _, rfl, rfl, rfl⟩) (by rw [hdl.out]; kernel_rfl) hdo.out (by rw [hdl.out, docL_len hcl hsl]; decide) (docL_2 (by rw [hdl.out, hcl])) ?_)); intro w3 hF3 hz3))
   go_ret2
   unfold MMem
   rw [hr.out]
   exact ⟨_, es2, _, rfl, docL_len hdl.out hsl, docL_one hdo.out hso hE.one hN.one, hF3.tail, fun d' h => by cases h⟩
 have n3 : (s == [99, 111, 110, 102, 105, 103]) = false := by rw [beq_eq_false_iff_ne]; exact h3
 by_cases h4 : s = kLayers
 ·skip
  have hr : Box (rStep d s (.mk k n t ns ks) = match (match mEdges (.mk k n t ns ks) with | .ok x => (.ok (({ d with edges := x } : MDoc), (⟨false, false, false, true, false⟩ : MGot)) : MR (MDoc × MGot)) | .error e => .error e) with | .ok x => .ok x.1 | .error e => .error e) := box (by unfold rStep mStep; rw [if_neg h0, if_neg h1, if_neg h2, if_neg h3, if_pos h4]; rfl)
  have hsq : s = [108, 97, 121, 101, 114, 115] := h4
  subst hsq
  clear h0 h1 h2 h3 h4 n0 n1 n2 n3
  have htx := box (fun w' hb hB' => medges_any (.mk k n t ns ks) _ w' ((hM.on hb).now) (hv0.onB (w' := w') hb hB') hob)
  cases hm : mEdges (.mk k n t ns ks) with
  | ok x =>
   rw [hm] at hr htx
   go_enter Tryz.func66, Tryz.ntmps66
   go_wp2_with (first | ((with_reducible refine lst (by with_unfolding_all rfl) (wp_fbox hF0 (cs := (vlL k n ⟨t.toArray⟩ (.slice An nn cn) (.slice Ak nk ck))) rfl (by with_unfolding_all rfl) (by with_unfolding_all rfl) ?_)); intro w1 g1 hF1 hz1) | (with_reducible refine lst (by with_unfolding_all rfl) (wp_fld0 hF1 Tryz.underlying3 rfl (by with_unfolding_all exact ⟨_, rfl, rfl⟩) rfl ?_)) | (with_reducible refine lst (by with_unfolding_all rfl) (wp_fldA0 hF1 Tryz.underlying76 rfl (by with_unfolding_all exact ⟨_, rfl, rfl⟩) (ds := (vlL k n ⟨t.toArray⟩ (.slice An nn cn) (.slice Ak nk ck))) (by rw [vlL_len]; kernel_rfl) (take_all _) ?_)))
   refine (htx.out _ (hF1.belowG hg hB) (Nat.le_trans hB hF1.size)).mono ?_
   rintro e w2 ⟨e2, es2, rfl, hvd, h2⟩
   have hF2 := hF1.joinR h2
   simp only [List.cons_append, List.nil_append] at hF2
   obtain ⟨A2, l2, k2, z2, hk2, hl2, rfl, hT2, hm2⟩ := hvd
   replace hl2 := box hl2
   simp only [mErr]
   go_wp2_with (first | ((with_reducible refine lst (by with_unfolding_all rfl) (wp_fst1 hF2 (by with_unfolding_all exact ⟨_, _, rfl, rfl, rfl⟩) (by kernel_rfl) rfl rfl (by rw [docL_len hcl hsl]; decide) (docL_37 (eg' := .slice A2 l2 k2) hcl) ?_)); intro w3 hF3 hz3))
   go_ret2
   unfold MMem
   rw [hr.out]
   exact ⟨_, es2, _, rfl, docL_len hcl hsl, docL_one hco hso rfl hN.one, hF3.tail, fun d' h => by injection h with h; subst h; exact ⟨rfl, ⟨cf, _, sj, nt, hC.mono (fun _ h => List.mem_append_left _ h), ⟨A2, l2, k2, z2, hk2, hl2.out, rfl, hT2.mono (fun _ h => List.mem_append_right _ h), hm2.imp id (List.mem_append_right _)⟩, hS.mono (fun _ h => List.mem_append_left _ h), hN.mono (fun _ h => List.mem_append_left _ h), rfl⟩⟩⟩
  | error ee =>
   rw [hm] at hr htx
   go_enter Tryz.func66, Tryz.ntmps66
   go_wp2_with (first | ((with_reducible refine lst (by with_unfolding_all rfl) (wp_fbox hF0 (cs := (vlL k n ⟨t.toArray⟩ (.slice An nn cn) (.slice Ak nk ck))) rfl (by with_unfolding_all rfl) (by with_unfolding_all rfl) ?_)); intro w1 g1 hF1 hz1) | (with_reducible refine lst (by with_unfolding_all rfl) (wp_fld0 hF1 Tryz.underlying3 rfl (by with_unfolding_all exact ⟨_, rfl, rfl⟩) rfl ?_)) | (with_reducible refine lst (by with_unfolding_all rfl) (wp_fldA0 hF1 Tryz.underlying76 rfl (by with_unfolding_all exact ⟨_, rfl, rfl⟩) (ds := (vlL k n ⟨t.toArray⟩ (.slice An nn cn) (.slice Ak nk ck))) (by rw [vlL_len]; kernel_rfl) (take_all _) ?_)))
   refine (htx.out _ (hF1.belowG hg hB) (Nat.le_trans hB hF1.size)).mono ?_
   rintro e w2 ⟨e2, es2, rfl, hvd, h2⟩
   have hF2 := hF1.joinR h2
   simp only [List.cons_append, List.nil_append] at hF2
   obtain ⟨A2, l2, k2, z2, hk2, hl2, rfl, hT2, hm2⟩ := hvd
   replace hl2 := box hl2
   simp only [mErr]
   go_wp2_with (first | ((with_reducible refine lst (by with_unfolding_all rfl) (wp_fst1 hF2 (by with_unfolding_all exact ⟨_, _, rfl, rfl, rfl⟩) (by kernel_rfl) rfl rfl (by rw [docL_len hcl hsl]; decide) (docL_37 (eg' := .slice A2 l2 k2) hcl) ?_)); intro w3 hF3 hz3))
   go_ret2
   unfold MMem
   rw [hr.out]
   exact ⟨_, es2, _, rfl, docL_len hcl hsl, docL_one hco hso rfl hN.one, hF3.tail, fun d' h => by cases h⟩
 have n4 : (s == [108, 97, 121, 101, 114, 115]) = false := by rw [beq_eq_false_iff_ne]; exact h4
 by_cases h5 : s = kManifests
 ·skip
  have hr : Box (rStep d s (.mk k n t ns ks) = match (match mEdges (.mk k n t ns ks) with | .ok x => (.ok (({ d with edges := x } : MDoc), (⟨false, false, false, false, true⟩ : MGot)) : MR (MDoc × MGot)) | .error e => .error e) with | .ok x => .ok x.1 | .error e => .error e) := box (by unfold rStep mStep; rw [if_neg h0, if_neg h1, if_neg h2, if_neg h3, if_neg h4, if_pos h5]; rfl)
  have hsq : s = [109, 97, 110, 105, 102, 101, 115, 116, 115] := h5
  subst hsq
  clear h0 h1 h2 h3 h4 h5 n0 n1 n2 n3 n4
  have htx := box (fun w' hb hB' => medges_any (.mk k n t ns ks) _ w' ((hM.on hb).now) (hv0.onB (w' := w') hb hB') hob)
  cases hm : mEdges (.mk k n t ns ks) with
  | ok x =>
   rw [hm] at hr htx
   go_enter Tryz.func66, Tryz.ntmps66
   go_wp2_with (first | ((with_reducible refine lst (by with_unfolding_all rfl) (wp_fbox hF0 (cs := (vlL k n ⟨t.toArray⟩ (.slice An nn cn) (.slice Ak nk ck))) rfl (by with_unfolding_all rfl) (by with_unfolding_all rfl) ?_)); intro w1 g1 hF1 hz1) | (with_reducible refine lst (by with_unfolding_all rfl) (wp_fld0 hF1 Tryz.underlying3 rfl (by with_unfolding_all exact ⟨_, rfl, rfl⟩) rfl ?_)) | (with_reducible refine lst (by with_unfolding_all rfl) (wp_fldA0 hF1 Tryz.underlying76 rfl (by with_unfolding_all exact ⟨_, rfl, rfl⟩) (ds := (vlL k n ⟨t.toArray⟩ (.slice An nn cn) (.slice Ak nk ck))) (by rw [vlL_len]; kernel_rfl) (take_all _) ?_)))
   refine (htx.out _ (hF1.belowG hg hB) (Nat.le_trans hB hF1.size)).mono ?_
   rintro e w2 ⟨e2, es2, rfl, hvd, h2⟩
   have hF2 := hF1.joinR h2
   simp only [List.cons_append, List.nil_append] at hF2
   obtain ⟨A2, l2, k2, z2, hk2, hl2, rfl, hT2, hm2⟩ := hvd
   replace hl2 := box hl2
   simp only [mErr]
   go_wp2_with (first | ((with_reducible refine lst (by with_unfolding_all rfl) (wp_fst1 hF2 (by with_unfolding_all exact ⟨_, _, rfl, rfl, rfl⟩) (by kernel_rfl) rfl rfl (by rw [docL_len hcl hsl]; decide) (docL_37 (eg' := .slice A2 l2 k2) hcl) ?_)); intro w3 hF3 hz3))
   go_ret2
   unfold MMem
   rw [hr.out]
   exact ⟨_, es2, _, rfl, docL_len hcl hsl, docL_one hco hso rfl hN.one, hF3.tail, fun d' h => by injection h with h; subst h; exact ⟨rfl, ⟨cf, _, sj, nt, hC.mono (fun _ h => List.mem_append_left _ h), ⟨A2, l2, k2, z2, hk2, hl2.out, rfl, hT2.mono (fun _ h => List.mem_append_right _ h), hm2.imp id (List.mem_append_right _)⟩, hS.mono (fun _ h => List.mem_append_left _ h), hN.mono (fun _ h => List.mem_append_left _ h), rfl⟩⟩⟩
  | error ee =>
   rw [hm] at hr htx
   go_enter Tryz.func66, Tryz.ntmps66
   go_wp2_with (first | ((with_reducible refine lst (by with_unfolding_all rfl) (wp_fbox hF0 (cs := (vlL k n ⟨t.toArray⟩ (.slice An nn cn) (.slice Ak nk ck))) rfl (by with_unfolding_all rfl) (by with_unfolding_all rfl) ?_)); intro w1 g1 hF1 hz1) | (with_reducible refine lst (by with_unfolding_all rfl) (wp_fld0 hF1 Tryz.underlying3 rfl (by with_unfolding_all exact ⟨_, rfl, rfl⟩) rfl ?_)) | (with_reducible refine lst (by with_unfolding_all rfl) (wp_fldA0 hF1 Tryz.underlying76 rfl (by with_unfolding_all exact ⟨_, rfl, rfl⟩) (ds := (vlL k n ⟨t.toArray⟩ (.slice An nn cn) (.slice Ak nk ck))) (by rw [vlL_len]; kernel_rfl) (take_all _) ?_)))
   refine (htx.out _ (hF1.belowG hg hB) (Nat.le_trans hB hF1.size)).mono ?_
   rintro e w2 ⟨e2, es2, rfl, hvd, h2⟩
   have hF2 := hF1.joinR h2
   simp only [List.cons_append, List.nil_append] at hF2
   obtain ⟨A2, l2, k2, z2, hk2, hl2, rfl, hT2, hm2⟩ := hvd
   replace hl2 := box hl2
   simp only [mErr]
   go_wp2_with (first | ((with_reducible refine lst (by with_unfolding_all rfl) (wp_fst1 hF2 (by with_unfolding_all exact ⟨_, _, rfl, rfl, rfl⟩) (by kernel_rfl) rfl rfl (by rw [docL_len hcl hsl]; decide) (docL_37 (eg' := .slice A2 l2 k2) hcl) ?_)); intro w3 hF3 hz3))
   go_ret2
   unfold MMem
   rw [hr.out]
   exact ⟨_, es2, _, rfl, docL_len hcl hsl, docL_one hco hso rfl hN.one, hF3.tail, fun d' h => by cases h⟩
 have n5 : (s == [109, 97, 110, 105, 102, 101, 115, 116, 115]) = false := by rw [beq_eq_false_iff_ne]; exact h5
 by_cases h6 : s = kSubject
 ·skip
  have hr : Box (rStep d s (.mk k n t ns ks) = match (match mDesc (.mk k n t ns ks) with | .ok x => (.ok (({ d with subject := x, has := true } : MDoc), (⟨false, false, false, false, false⟩ : MGot)) : MR (MDoc × MGot)) | .error e => .error e) with | .ok x => .ok x.1 | .error e => .error e) := box (by unfold rStep mStep; rw [if_neg h0, if_neg h1, if_neg h2, if_neg h3, if_neg h4, if_neg h5, if_pos h6]; rfl)
  have hsq : s = [115, 117, 98, 106, 101, 99, 116] := h6
  subst hsq
  clear h0 h1 h2 h3 h4 h5 h6 n0 n1 n2 n3 n4 n5
  have htx := box (fun w' hb hB' => mdesc_any (.mk k n t ns ks) _ w' ((hM.on hb).now) (hv0.onB (w' := w') hb hB') hob)
  cases hm : mDesc (.mk k n t ns ks) with
  | ok x =>
   rw [hm] at hr htx
   go_enter Tryz.func66, Tryz.ntmps66
   go_wp2_with (first | ((with_reducible refine lst (by with_unfolding_all rfl) (wp_fbox hF0 (cs := (vlL k n ⟨t.toArray⟩ (.slice An nn cn) (.slice Ak nk ck))) rfl (by with_unfolding_all rfl) (by with_unfolding_all rfl) ?_)); intro w1 g1 hF1 hz1) | (with_reducible refine lst (by with_unfolding_all rfl) (wp_fld0 hF1 Tryz.underlying3 rfl (by with_unfolding_all exact ⟨_, rfl, rfl⟩) rfl ?_)) | (with_reducible refine lst (by with_unfolding_all rfl) (wp_fldA0 hF1 Tryz.underlying76 rfl (by with_unfolding_all exact ⟨_, rfl, rfl⟩) (ds := (vlL k n ⟨t.toArray⟩ (.slice An nn cn) (.slice Ak nk ck))) (by rw [vlL_len]; kernel_rfl) (take_all _) ?_)))
   refine (htx.out _ (hF1.belowG hg hB) (Nat.le_trans hB hF1.size)).mono ?_
   rintro e w2 ⟨c2, es2, rfl, hvd, h2⟩
   have hF2 := hF1.joinR h2
   simp only [List.cons_append, List.nil_append] at hF2
   have hdl := box hvd.len
   have hdo := hvd.ones
   replace hdo := box hdo
   simp only [mErr]
   go_wp2_with (first | ((with_reducible refine lst (by with_unfolding_all rfl) (wp_fstA1 hF2 (by with_unfolding_all exact ⟨_, _, rfl, rfl, rfl⟩) (by rw [hdl.out]; kernel_rfl) hdo.out (by rw [hdl.out, docL_len hcl hsl]; decide) (docL_38 hcl (by rw [hdl.out, hsl])) ?_)); intro w3 hF3 hz3) | ((with_reducible refine lst (by with_unfolding_all rfl) (wp_fst1 hF3 (by with_unfolding_all exact ⟨_, _, rfl, rfl, rfl⟩) (by kernel_rfl) rfl rfl (by rw [docL_len hcl hdl.out]; decide) (docL_73 (has' := true) hcl hdl.out) ?_)); intro w4 hF4 hz4))
   go_ret2
   unfold MMem
   rw [hr.out]
   exact ⟨_, es2, _, rfl, docL_len hcl hdl.out, docL_one hco hdo.out hE.one hN.one, hF4.tail, fun d' h => by injection h with h; subst h; exact ⟨rfl, ⟨cf, eg, c2, nt, hC.mono (fun _ h => List.mem_append_left _ h), hE.mono (fun _ h => List.mem_append_left _ h), hvd.mono (fun _ h => List.mem_append_right _ h), hN.mono (fun _ h => List.mem_append_left _ h), rfl⟩⟩⟩
  | error ee =>
   rw [hm] at hr htx
   go_enter Tryz.func66, Tryz.ntmps66
   go_wp2_with (first | ((with_reducible refine lst (by with_unfolding_all rfl) (wp_fbox hF0 (cs := (vlL k n ⟨t.toArray⟩ (.slice An nn cn) (.slice Ak nk ck))) rfl (by with_unfolding_all rfl) (by with_unfolding_all rfl) ?_)); intro w1 g1 hF1 hz1) | (with_reducible refine lst (by with_unfolding_all rfl) (wp_fld0 hF1 Tryz.underlying3 rfl (by with_unfolding_all exact ⟨_, rfl, rfl⟩) rfl ?_)) | (with_reducible refine lst (by with_unfolding_all rfl) (wp_fldA0 hF1 Tryz.underlying76 rfl (by with_unfolding_all exact ⟨_, rfl, rfl⟩) (ds := (vlL k n ⟨t.toArray⟩ (.slice An nn cn) (.slice Ak nk ck))) (by rw [vlL_len]; kernel_rfl) (take_all _) ?_)))
   refine (htx.out _ (hF1.belowG hg hB) (Nat.le_trans hB hF1.size)).mono ?_
   rintro e w2 ⟨c2, es2, rfl, hvd, h2⟩
   have hF2 := hF1.joinR h2
   simp only [List.cons_append, List.nil_append] at hF2
   have hdl := box hvd.len
   have hdo := hvd.ones
   replace hdo := box hdo
   simp only [mErr]
   go_wp2_with (first | ((with_reducible refine lst (by with_unfolding_all rfl) (wp_fstA1 hF2 (by with_unfolding_all exact ⟨_, _, rfl, rfl, rfl⟩) (by rw [hdl.out]; kernel_rfl) hdo.out (by rw [hdl.out, docL_len hcl hsl]; decide) (docL_38 hcl (by rw [hdl.out, hsl])) ?_)); intro w3 hF3 hz3) | ((with_reducible refine lst (by with_unfolding_all rfl) (wp_fst1 hF3 (by with_unfolding_all exact ⟨_, _, rfl, rfl, rfl⟩) (by kernel_rfl) rfl rfl (by rw [docL_len hcl hdl.out]; decide) (docL_73 (has' := true) hcl hdl.out) ?_)); intro w4 hF4 hz4))
   go_ret2
   unfold MMem
   rw [hr.out]
   exact ⟨_, es2, _, rfl, docL_len hcl hdl.out, docL_one hco hdo.out hE.one hN.one, hF4.tail, fun d' h => by cases h⟩
 have n6 : (s == [115, 117, 98, 106, 101, 99, 116]) = false := by rw [beq_eq_false_iff_ne]; exact h6
 by_cases h7 : s = kNotes
 ·skip
  have hr : Box (rStep d s (.mk k n t ns ks) = match (match mNotes (.mk k n t ns ks) with | .ok x => (.ok (({ d with notes := x } : MDoc), (⟨false, false, false, false, false⟩ : MGot)) : MR (MDoc × MGot)) | .error e => .error e) with | .ok x => .ok x.1 | .error e => .error e) := box (by unfold rStep mStep; rw [if_neg h0, if_neg h1, if_neg h2, if_neg h3, if_neg h4, if_neg h5, if_neg h6, if_pos h7]; rfl)
  have hsq : s = [97, 110, 110, 111, 116, 97, 116, 105, 111, 110, 115] := h7
  subst hsq
  clear h0 h1 h2 h3 h4 h5 h6 h7 n0 n1 n2 n3 n4 n5 n6
  have htx := box (fun w' hb hB' => mnotes_any (.mk k n t ns ks) _ w' (hv0.onB (w' := w') hb hB') hob)
  cases hm : mNotes (.mk k n t ns ks) with
  | ok x =>
   rw [hm] at hr htx
   go_enter Tryz.func66, Tryz.ntmps66
   go_wp2_with (first | ((with_reducible refine lst (by with_unfolding_all rfl) (wp_fbox hF0 (cs := (vlL k n ⟨t.toArray⟩ (.slice An nn cn) (.slice Ak nk ck))) rfl (by with_unfolding_all rfl) (by with_unfolding_all rfl) ?_)); intro w1 g1 hF1 hz1) | (with_reducible refine lst (by with_unfolding_all rfl) (wp_fld0 hF1 Tryz.underlying3 rfl (by with_unfolding_all exact ⟨_, rfl, rfl⟩) rfl ?_)) | (with_reducible refine lst (by with_unfolding_all rfl) (wp_fldA0 hF1 Tryz.underlying76 rfl (by with_unfolding_all exact ⟨_, rfl, rfl⟩) (ds := (vlL k n ⟨t.toArray⟩ (.slice An nn cn) (.slice Ak nk ck))) (by rw [vlL_len]; kernel_rfl) (take_all _) ?_)))
   refine (htx.out _ (hF1.belowG hg hB) (Nat.le_trans hB hF1.size)).mono ?_
   rintro e w2 ⟨e2, es2, rfl, hvd, h2⟩
   have hF2 := hF1.joinR h2
   simp only [List.cons_append, List.nil_append] at hF2
   obtain ⟨A2, l2, k2, hk2, hl2, rfl, hm2⟩ := hvd
   replace hl2 := box hl2
   simp only [mErr]
   go_wp2_with (first | ((with_reducible refine lst (by with_unfolding_all rfl) (wp_fst1 hF2 (by with_unfolding_all exact ⟨_, _, rfl, rfl, rfl⟩) (by kernel_rfl) rfl rfl (by rw [docL_len hcl hsl]; decide) (docL_74 (nt' := .slice A2 l2 k2) hcl hsl) ?_)); intro w3 hF3 hz3))
   go_ret2
   unfold MMem
   rw [hr.out]
   exact ⟨_, es2, _, rfl, docL_len hcl hsl, docL_one hco hso hE.one rfl, hF3.tail, fun d' h => by injection h with h; subst h; exact ⟨rfl, ⟨cf, eg, sj, _, hC.mono (fun _ h => List.mem_append_left _ h), hE.mono (fun _ h => List.mem_append_left _ h), hS.mono (fun _ h => List.mem_append_left _ h), ⟨A2, l2, k2, hk2, hl2.out, rfl, hm2.imp id (List.mem_append_right _)⟩, rfl⟩⟩⟩
  | error ee =>
   rw [hm] at hr htx
   go_enter Tryz.func66, Tryz.ntmps66
   go_wp2_with (first | ((with_reducible refine lst (by with_unfolding_all rfl) (wp_fbox hF0 (cs := (vlL k n ⟨t.toArray⟩ (.slice An nn cn) (.slice Ak nk ck))) rfl (by with_unfolding_all rfl) (by with_unfolding_all rfl) ?_)); intro w1 g1 hF1 hz1) | (with_reducible refine lst (by with_unfolding_all rfl) (wp_fld0 hF1 Tryz.underlying3 rfl (by with_unfolding_all exact ⟨_, rfl, rfl⟩) rfl ?_)) | (with_reducible refine lst (by with_unfolding_all rfl) (wp_fldA0 hF1 Tryz.underlying76 rfl (by with_unfolding_all exact ⟨_, rfl, rfl⟩) (ds := (vlL k n ⟨t.toArray⟩ (.slice An nn cn) (.slice Ak nk ck))) (by rw [vlL_len]; kernel_rfl) (take_all _) ?_)))
   refine (htx.out _ (hF1.belowG hg hB) (Nat.le_trans hB hF1.size)).mono ?_
   rintro e w2 ⟨e2, es2, rfl, hvd, h2⟩
   have hF2 := hF1.joinR h2
   simp only [List.cons_append, List.nil_append] at hF2
   obtain ⟨A2, l2, k2, hk2, hl2, rfl, hm2⟩ := hvd
   replace hl2 := box hl2
   simp only [mErr]
   go_wp2_with (first | ((with_reducible refine lst (by with_unfolding_all rfl) (wp_fst1 hF2 (by with_unfolding_all exact ⟨_, _, rfl, rfl, rfl⟩) (by kernel_rfl) rfl rfl (by rw [docL_len hcl hsl]; decide) (docL_74 (nt' := .slice A2 l2 k2) hcl hsl) ?_)); intro w3 hF3 hz3))
   go_ret2
   unfold MMem
   rw [hr.out]
   exact ⟨_, es2, _, rfl, docL_len hcl hsl, docL_one hco hso hE.one rfl, hF3.tail, fun d' h => by cases h⟩
 have n7 : (s == [97, 110, 110, 111, 116, 97, 116, 105, 111, 110, 115]) = false := by rw [beq_eq_false_iff_ne]; exact h7
 have hr : Box (rStep d s (.mk k n t ns ks) = .error 80) := box (by unfold rStep mStep; rw [if_neg h0, if_neg h1, if_neg h2, if_neg h3, if_neg h4, if_neg h5, if_neg h6, if_neg h7])
 clear h0 h1 h2 h3 h4 h5 h6 h7
 go_enter Tryz.func66, Tryz.ntmps66
 go_wp2_with (first | ((with_reducible refine lst (by with_unfolding_all rfl) (wp_fbox hF0 (cs := (vlL k n ⟨t.toArray⟩ (.slice An nn cn) (.slice Ak nk ck))) rfl (by with_unfolding_all rfl) (by with_unfolding_all rfl) ?_)); intro w1 g1 hF1 hz1) | (with_reducible refine lst (by with_unfolding_all rfl) (wp_fld0 hF1 Tryz.underlying3 rfl (by with_unfolding_all exact ⟨_, rfl, rfl⟩) rfl ?_)) | (with_reducible refine lst (by with_unfolding_all rfl) (wp_fldA0 hF1 Tryz.underlying76 rfl (by with_unfolding_all exact ⟨_, rfl, rfl⟩) (ds := (vlL k n ⟨t.toArray⟩ (.slice An nn cn) (.slice Ak nk ck))) (by rw [vlL_len]; kernel_rfl) (take_all _) ?_)))
 go_ret2
 unfold MMem
 rw [hr.out]
 exact ⟨_, [], _, rfl, docL_len hcl hsl, docL_one hco hso hE.one hN.one, hF1.tail, fun d' h => by cases h⟩
end Go.Proofs.YtlhicfpmlncomaaGreatDoor
