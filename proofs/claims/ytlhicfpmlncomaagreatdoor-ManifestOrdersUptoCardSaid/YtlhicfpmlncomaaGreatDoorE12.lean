/-
 Layer 8: the program's member, walked.
 Layer 8: the program's read, walked.
-/
import Derived.Test.YtlhicfpmlncomaaGreatDoorE11
import Derived.Test.YtlhicfpmlncomaaGreatDoorE02
namespace Go.Proofs.YtlhicfpmlncomaaGreatDoor
open Go.RowKit
set_option linter.unusedSimpArgs false
set_option linter.unusedVariables false
/-- The library's variable holds a number, whatever is made above a place. -/
def MaxAt (B : Nat) (w : World) : Prop := ∀ w', Below B w w' → MaxW w'
theorem MaxAt.on {B : Nat} {w w' : World} (h : MaxAt B w) (hb : Below B w w') : MaxAt B w' := fun w'' h2 => h w'' (hb.trans h2)
theorem MaxAt.now {B : Nat} {w : World} (h : MaxAt B w) : MaxW w := h w (Below.refl _ _)
theorem VRd.onB {w w' : World} {B : Nat} {v : JV} {cs : List Value} (h : VRd w (· < B) v cs) (hb : Below B w w') (hB : B ≤ w'.heap.size) : VRd w' (· < w'.heap.size) v cs :=
 VRd.keep (fun _ hk => Nat.lt_of_lt_of_le hk hB) (fun k hk => hb.block k hk) v h
/-- What a member counts for. -/
def gotB (s : List UInt8) : Int := if s = kVersion then 1 else if s = kMedia then 2 else if s = kConfig then 4 else if s = kLayers then 8 else if s = kManifests then 16 else 0
def gotI (h : MGot) : Int := (if h.v = true then 1 else 0) + (if h.m = true then 2 else 0) + (if h.c = true then 4 else 0) + (if h.l = true then 8 else 0) + (if h.i = true then 16 else 0)
theorem got_or (h : MGot) (s : List UInt8) : bits BinOp.or IntKind.i64 (gotI h) (gotB s) = gotI (h.one s) := by
 unfold gotB
 obtain ⟨a, b, c, d, e⟩ := h
 by_cases h1 : s = kVersion
 ·subst h1; rw [if_pos rfl]; cases a <;> cases b <;> cases c <;> cases d <;> cases e <;> rfl
 rw [if_neg h1]
 by_cases h2 : s = kMedia
 ·subst h2; rw [if_pos rfl]; cases a <;> cases b <;> cases c <;> cases d <;> cases e <;> rfl
 rw [if_neg h2]
 by_cases h3 : s = kConfig
 ·subst h3; rw [if_pos rfl]; cases a <;> cases b <;> cases c <;> cases d <;> cases e <;> rfl
 rw [if_neg h3]
 by_cases h4 : s = kLayers
 ·subst h4; rw [if_pos rfl]; cases a <;> cases b <;> cases c <;> cases d <;> cases e <;> rfl
 rw [if_neg h4]
 by_cases h5 : s = kManifests
 ·subst h5; rw [if_pos rfl]; cases a <;> cases b <;> cases c <;> cases d <;> cases e <;> rfl
 rw [if_neg h5]
 unfold MGot.one
 simp only [h1, h2, h3, h4, h5, decide_false, Bool.or_false]
 cases a <;> cases b <;> cases c <;> cases d <;> cases e <;> rfl
theorem rStep_v1 {d : MDoc} {s : List UInt8} {v : JV} (h0 : s = kVersion) (h : v.kind = 3 ∧ v.num = 2) : rStep d s v = .ok d := by unfold rStep mStep; rw [if_pos h0, if_pos h]
theorem rStep_v0 {d : MDoc} {s : List UInt8} {v : JV} (h0 : s = kVersion) (h : ¬ (v.kind = 3 ∧ v.num = 2)) : rStep d s v = .error 80 := by unfold rStep mStep; rw [if_pos h0, if_neg h]
theorem rStep_m2 {d : MDoc} {s : List UInt8} {v : JV} (h0 : ¬ s = kVersion) (h1 : s = kMedia) (h : v.kind = 4) (hh : v.text = sImage ∨ v.text = sIndex) : rStep d s v = .ok { d with media := v.text } := by unfold rStep mStep; rw [if_neg h0, if_pos h1, if_pos h, if_pos hh]
theorem rStep_m1 {d : MDoc} {s : List UInt8} {v : JV} (h0 : ¬ s = kVersion) (h1 : s = kMedia) (h : v.kind = 4) (hh : ¬ (v.text = sImage ∨ v.text = sIndex)) : rStep d s v = .error 72 := by unfold rStep mStep; rw [if_neg h0, if_pos h1, if_pos h, if_neg hh]
theorem rStep_m0 {d : MDoc} {s : List UInt8} {v : JV} (h0 : ¬ s = kVersion) (h1 : s = kMedia) (h : ¬ v.kind = 4) : rStep d s v = .error 80 := by unfold rStep mStep; rw [if_neg h0, if_pos h1, if_neg h]
/-- A member is taken in. -/
def MMem (w : World) (g : Nat) (s : List UInt8) (es0 : List Ent) (r : MR MDoc) (e : Ending) (w' : World) : Prop :=
 ∃ cs' es b, e = .returned (.tuple #[.int .i64 b, mErr r]) ∧ cs'.length = 75 ∧ (∀ u ∈ cs', u.oneCell' = true) ∧ Fr [g] w w' (.blk g 31 cs' :: es) ∧ ∀ d', r = .ok d' → b = gotB s ∧ VDoc d' cs' (es0 ++ es)
set_option maxRecDepth 20000 in
set_option maxHeartbeats 12800000 in
theorem mmember_any (g B : Nat) (d : MDoc) (cf : List Value) (eg : Value) (sj : List Value) (nt : Value) (es0 : List Ent) (s : List UInt8) (v : JV) (cs : List Value) (w : World)
  (hh : w.heap[g]? = some (.cells (docL d.media d.type cf eg sj d.has nt).toArray 31 (0, 0))) (hg : B ≤ g) (hB : B ≤ w.heap.size) (hC : VD d.config cf es0) (hE : VE d.edges eg es0) (hS : VD d.subject sj es0) (hN : VN d.notes nt es0)
  (hM : MaxAt B w) (hv : VRd w (· < B) v cs) (hob : JOb v) :
  Calls Tryz.prog 66 #[.pointer (some ⟨g, 0, none⟩), .string ⟨s.toArray⟩, .agg cs.toArray] w (MMem w g s es0 (rStep d s v)) := by
 have hF0 := Fr.one hh
 have hcl := hC.len
 have hsl := hS.len
 have hco := hC.ones
 have hso := hS.ones
 have hsz := hob.small.1
 clear hh
 obtain ⟨k, n, t, ns, ks⟩ := v
 have hv0 := hv
 rw [VRd] at hv
 obtain ⟨An, nn, cn, Ak, nk, ck, xs, hcn, hck, rfl, hrn, hrk, hvk⟩ := hv
 clear hrn hrk hvk
 by_cases h0 : s = kVersion
 ·skip
  have hrA : Box (k = 3 ∧ n = 2 → rStep d s (.mk k n t ns ks) = .ok d) := box (fun h => rStep_v1 (v := .mk k n t ns ks) h0 h)
  have hrB : Box (¬ (k = 3 ∧ n = 2) → rStep d s (.mk k n t ns ks) = .error 80) := box (fun h => rStep_v0 (v := .mk k n t ns ks) h0 h)
  have hsq : s = [115, 99, 104, 101, 109, 97, 86, 101, 114, 115, 105, 111, 110] := h0
  subst hsq
  clear h0
  by_cases hk3 : k = 3
  ·have hq3 : ((k : Int) != 3) = false := by rw [hk3]; rfl
   by_cases hn2 : n = 2
   ·have hr := box (hrA.out ⟨hk3, hn2⟩)
    have hq2 : ((n : Int) != 2) = false := by rw [hn2]; rfl
    replace hk3 := box hk3
    replace hn2 := box hn2
    go_enter Tryz.func66, Tryz.ntmps66
    go_wp2_with (first | ((with_reducible refine lst (by with_unfolding_all rfl) (wp_fbox hF0 (cs := (vlL k n ⟨t.toArray⟩ (.slice An nn cn) (.slice Ak nk ck))) rfl (by with_unfolding_all rfl) (by with_unfolding_all rfl) ?_)); intro w1 g1 hF1 hz1) | (with_reducible refine lst (by with_unfolding_all rfl) (wp_fld0 hF1 Tryz.underlying3 rfl (by with_unfolding_all exact ⟨_, rfl, rfl⟩) rfl ?_)) | (with_reducible refine lst (by with_unfolding_all rfl) (wp_fldA0 hF1 Tryz.underlying76 rfl (by with_unfolding_all exact ⟨_, rfl, rfl⟩) (ds := (vlL k n ⟨t.toArray⟩ (.slice An nn cn) (.slice Ak nk ck))) (by rw [vlL_len]; kernel_rfl) (take_all _) ?_)))
    go_ret2
    unfold MMem
    rw [hr.out]
    exact ⟨_, [], _, rfl, docL_len hcl hsl, docL_one hco hso hE.one hN.one, hF1.tail, fun d' h => by injection h with h; subst h; exact ⟨rfl, ⟨cf, eg, sj, nt, hC.mono (fun _ h => List.mem_append_left _ h), hE.mono (fun _ h => List.mem_append_left _ h), hS.mono (fun _ h => List.mem_append_left _ h), hN.mono (fun _ h => List.mem_append_left _ h), rfl⟩⟩⟩
   ·have hr := box (hrB.out (fun h => hn2 h.2))
    have hq2 : ((n : Int) != 2) = true := by rw [bne_iff_ne]; exact hn2
    replace hk3 := box hk3
    replace hn2 := box hn2
    go_enter Tryz.func66, Tryz.ntmps66
    go_wp2_with (first | ((with_reducible refine lst (by with_unfolding_all rfl) (wp_fbox hF0 (cs := (vlL k n ⟨t.toArray⟩ (.slice An nn cn) (.slice Ak nk ck))) rfl (by with_unfolding_all rfl) (by with_unfolding_all rfl) ?_)); intro w1 g1 hF1 hz1) | (with_reducible refine lst (by with_unfolding_all rfl) (wp_fld0 hF1 Tryz.underlying3 rfl (by with_unfolding_all exact ⟨_, rfl, rfl⟩) rfl ?_)) | (with_reducible refine lst (by with_unfolding_all rfl) (wp_fldA0 hF1 Tryz.underlying76 rfl (by with_unfolding_all exact ⟨_, rfl, rfl⟩) (ds := (vlL k n ⟨t.toArray⟩ (.slice An nn cn) (.slice Ak nk ck))) (by rw [vlL_len]; kernel_rfl) (take_all _) ?_)))
    go_ret2
    unfold MMem
    rw [hr.out]
    exact ⟨_, [], _, rfl, docL_len hcl hsl, docL_one hco hso hE.one hN.one, hF1.tail, fun d' h => by cases h⟩
  ·have hr := box (hrB.out (fun h => hk3 h.1))
   have hq3 : ((k : Int) != 3) = true := by rw [bne_iff_ne]; exact hk3
   replace hk3 := box hk3
   go_enter Tryz.func66, Tryz.ntmps66
   go_wp2_with (first | ((with_reducible refine lst (by with_unfolding_all rfl) (wp_fbox hF0 (cs := (vlL k n ⟨t.toArray⟩ (.slice An nn cn) (.slice Ak nk ck))) rfl (by with_unfolding_all rfl) (by with_unfolding_all rfl) ?_)); intro w1 g1 hF1 hz1) | (with_reducible refine lst (by with_unfolding_all rfl) (wp_fld0 hF1 Tryz.underlying3 rfl (by with_unfolding_all exact ⟨_, rfl, rfl⟩) rfl ?_)) | (with_reducible refine lst (by with_unfolding_all rfl) (wp_fldA0 hF1 Tryz.underlying76 rfl (by with_unfolding_all exact ⟨_, rfl, rfl⟩) (ds := (vlL k n ⟨t.toArray⟩ (.slice An nn cn) (.slice Ak nk ck))) (by rw [vlL_len]; kernel_rfl) (take_all _) ?_)))
   go_ret2
   unfold MMem
   rw [hr.out]
   exact ⟨_, [], _, rfl, docL_len hcl hsl, docL_one hco hso hE.one hN.one, hF1.tail, fun d' h => by cases h⟩
 have n0 : (s == [115, 99, 104, 101, 109, 97, 86, 101, 114, 115, 105, 111, 110]) = false := by rw [beq_eq_false_iff_ne]; exact h0
 by_cases h1 : s = kMedia
 ·skip
  have hrA : Box (k = 4 → (t = sImage ∨ t = sIndex) → rStep d s (.mk k n t ns ks) = .ok { d with media := t }) := box (fun h hh => rStep_m2 (v := .mk k n t ns ks) h0 h1 h hh)
  have hrB : Box (k = 4 → ¬ (t = sImage ∨ t = sIndex) → rStep d s (.mk k n t ns ks) = .error 72) := box (fun h hh => rStep_m1 (v := .mk k n t ns ks) h0 h1 h hh)
  have hrC : Box (¬ k = 4 → rStep d s (.mk k n t ns ks) = .error 80) := box (fun h => rStep_m0 (v := .mk k n t ns ks) h0 h1 h)
  have hsq : s = [109, 101, 100, 105, 97, 84, 121, 112, 101] := h1
  subst hsq
  clear h0 h1 n0
  have htx := box (fun w' hb hB' => mtext_any (.mk k n t ns ks) _ w' _ (hv0.onB (w' := w') hb hB'))
  by_cases hk4 : k = 4
  ·rw [show mText (.mk k n t ns ks) = .ok t from if_pos hk4] at htx
   by_cases hi : t = sImage
   ·have hr := box (hrA.out hk4 (.inl hi))
    have e1 : (t == [97, 112, 112, 108, 105, 99, 97, 116, 105, 111, 110, 47, 118, 110, 100, 46, 111, 99, 105, 46, 105, 109, 97, 103, 101, 46, 109, 97, 110, 105, 102, 101, 115, 116, 46, 118, 49, 43, 106, 115, 111, 110]) = true := by rw [beq_iff_eq]; exact hi
    have e2 : (t != [97, 112, 112, 108, 105, 99, 97, 116, 105, 111, 110, 47, 118, 110, 100, 46, 111, 99, 105, 46, 105, 109, 97, 103, 101, 46, 109, 97, 110, 105, 102, 101, 115, 116, 46, 118, 49, 43, 106, 115, 111, 110]) = false := by rw [bne, e1]; rfl
    have e3 : (t == [97, 112, 112, 108, 105, 99, 97, 116, 105, 111, 110, 47, 118, 110, 100, 46, 111, 99, 105, 46, 105, 109, 97, 103, 101, 46, 105, 110, 100, 101, 120, 46, 118, 49, 43, 106, 115, 111, 110]) = false := by rw [beq_eq_false_iff_ne]; exact (fun h => sImage_ne (hi.symm.trans h))
    have e4 : (t != [97, 112, 112, 108, 105, 99, 97, 116, 105, 111, 110, 47, 118, 110, 100, 46, 111, 99, 105, 46, 105, 109, 97, 103, 101, 46, 105, 110, 100, 101, 120, 46, 118, 49, 43, 106, 115, 111, 110]) = true := by rw [bne, e3]; rfl
    replace hi := box hi
    replace hk4 := box hk4
    go_enter Tryz.func66, Tryz.ntmps66
    go_wp2_with (first | ((with_reducible refine lst (by with_unfolding_all rfl) (wp_fbox hF0 (cs := (vlL k n ⟨t.toArray⟩ (.slice An nn cn) (.slice Ak nk ck))) rfl (by with_unfolding_all rfl) (by with_unfolding_all rfl) ?_)); intro w1 g1 hF1 hz1) | (with_reducible refine lst (by with_unfolding_all rfl) (wp_fld0 hF1 Tryz.underlying3 rfl (by with_unfolding_all exact ⟨_, rfl, rfl⟩) rfl ?_)) | (with_reducible refine lst (by with_unfolding_all rfl) (wp_fldA0 hF1 Tryz.underlying76 rfl (by with_unfolding_all exact ⟨_, rfl, rfl⟩) (ds := (vlL k n ⟨t.toArray⟩ (.slice An nn cn) (.slice Ak nk ck))) (by rw [vlL_len]; kernel_rfl) (take_all _) ?_)))
    refine (htx.out _ (hF1.belowG hg hB) (Nat.le_trans hB hF1.size)).mono ?_
    rintro e w2 ⟨rfl, hb2⟩
    have hF2 := hF1.call hb2
    simp only [mStr, mErr, strv]
    go_wp2_with (first | ((with_reducible refine lst (by with_unfolding_all rfl) (wp_fst1 hF2 (by with_unfolding_all exact ⟨_, _, rfl, rfl, rfl⟩) (by kernel_rfl) rfl rfl (by rw [docL_len hcl hsl]; decide) (docL_0s (m' := t)) ?_)); intro w3 hF3 hz3) | (with_reducible refine lst (by with_unfolding_all rfl) (wp_fld1 hF3 Tryz.underlying9 rfl (by with_unfolding_all exact ⟨_, rfl, rfl⟩) docL_m0 ?_)))
    go_ret2
    unfold MMem
    rw [hr.out]
    exact ⟨_, [], _, rfl, docL_len hcl hsl, docL_one hco hso hE.one hN.one, hF3.tail, fun d' h => by injection h with h; subst h; exact ⟨rfl, ⟨cf, eg, sj, nt, hC.mono (fun _ h => List.mem_append_left _ h), hE.mono (fun _ h => List.mem_append_left _ h), hS.mono (fun _ h => List.mem_append_left _ h), hN.mono (fun _ h => List.mem_append_left _ h), rfl⟩⟩⟩
   by_cases hx : t = sIndex
   ·have hr := box (hrA.out hk4 (.inr hx))
    have e1 : (t == [97, 112, 112, 108, 105, 99, 97, 116, 105, 111, 110, 47, 118, 110, 100, 46, 111, 99, 105, 46, 105, 109, 97, 103, 101, 46, 105, 110, 100, 101, 120, 46, 118, 49, 43, 106, 115, 111, 110]) = true := by rw [beq_iff_eq]; exact hx
    have e2 : (t != [97, 112, 112, 108, 105, 99, 97, 116, 105, 111, 110, 47, 118, 110, 100, 46, 111, 99, 105, 46, 105, 109, 97, 103, 101, 46, 105, 110, 100, 101, 120, 46, 118, 49, 43, 106, 115, 111, 110]) = false := by rw [bne, e1]; rfl
    have e3 : (t == [97, 112, 112, 108, 105, 99, 97, 116, 105, 111, 110, 47, 118, 110, 100, 46, 111, 99, 105, 46, 105, 109, 97, 103, 101, 46, 109, 97, 110, 105, 102, 101, 115, 116, 46, 118, 49, 43, 106, 115, 111, 110]) = false := by rw [beq_eq_false_iff_ne]; exact hi
    have e4 : (t != [97, 112, 112, 108, 105, 99, 97, 116, 105, 111, 110, 47, 118, 110, 100, 46, 111, 99, 105, 46, 105, 109, 97, 103, 101, 46, 109, 97, 110, 105, 102, 101, 115, 116, 46, 118, 49, 43, 106, 115, 111, 110]) = true := by rw [bne, e3]; rfl
    replace hi := box hi
    replace hx := box hx
    replace hk4 := box hk4
    go_enter Tryz.func66, Tryz.ntmps66
    go_wp2_with (first | ((with_reducible refine lst (by with_unfolding_all rfl) (wp_fbox hF0 (cs := (vlL k n ⟨t.toArray⟩ (.slice An nn cn) (.slice Ak nk ck))) rfl (by with_unfolding_all rfl) (by with_unfolding_all rfl) ?_)); intro w1 g1 hF1 hz1) | (with_reducible refine lst (by with_unfolding_all rfl) (wp_fld0 hF1 Tryz.underlying3 rfl (by with_unfolding_all exact ⟨_, rfl, rfl⟩) rfl ?_)) | (with_reducible refine lst (by with_unfolding_all rfl) (wp_fldA0 hF1 Tryz.underlying76 rfl (by with_unfolding_all exact ⟨_, rfl, rfl⟩) (ds := (vlL k n ⟨t.toArray⟩ (.slice An nn cn) (.slice Ak nk ck))) (by rw [vlL_len]; kernel_rfl) (take_all _) ?_)))
    refine (htx.out _ (hF1.belowG hg hB) (Nat.le_trans hB hF1.size)).mono ?_
    rintro e w2 ⟨rfl, hb2⟩
    have hF2 := hF1.call hb2
    simp only [mStr, mErr, strv]
    go_wp2_with (first | ((with_reducible refine lst (by with_unfolding_all rfl) (wp_fst1 hF2 (by with_unfolding_all exact ⟨_, _, rfl, rfl, rfl⟩) (by kernel_rfl) rfl rfl (by rw [docL_len hcl hsl]; decide) (docL_0s (m' := t)) ?_)); intro w3 hF3 hz3) | (with_reducible refine lst (by with_unfolding_all rfl) (wp_fld1 hF3 Tryz.underlying9 rfl (by with_unfolding_all exact ⟨_, rfl, rfl⟩) docL_m0 ?_)))
    go_ret2
    unfold MMem
    rw [hr.out]
    exact ⟨_, [], _, rfl, docL_len hcl hsl, docL_one hco hso hE.one hN.one, hF3.tail, fun d' h => by injection h with h; subst h; exact ⟨rfl, ⟨cf, eg, sj, nt, hC.mono (fun _ h => List.mem_append_left _ h), hE.mono (fun _ h => List.mem_append_left _ h), hS.mono (fun _ h => List.mem_append_left _ h), hN.mono (fun _ h => List.mem_append_left _ h), rfl⟩⟩⟩
   ·have hr := box (hrB.out hk4 (by rintro (h | h); exact hi h; exact hx h))
    have e3 : (t == [97, 112, 112, 108, 105, 99, 97, 116, 105, 111, 110, 47, 118, 110, 100, 46, 111, 99, 105, 46, 105, 109, 97, 103, 101, 46, 109, 97, 110, 105, 102, 101, 115, 116, 46, 118, 49, 43, 106, 115, 111, 110]) = false := by rw [beq_eq_false_iff_ne]; exact hi
    have e4 : (t != [97, 112, 112, 108, 105, 99, 97, 116, 105, 111, 110, 47, 118, 110, 100, 46, 111, 99, 105, 46, 105, 109, 97, 103, 101, 46, 109, 97, 110, 105, 102, 101, 115, 116, 46, 118, 49, 43, 106, 115, 111, 110]) = true := by rw [bne, e3]; rfl
    have e5 : (t == [97, 112, 112, 108, 105, 99, 97, 116, 105, 111, 110, 47, 118, 110, 100, 46, 111, 99, 105, 46, 105, 109, 97, 103, 101, 46, 105, 110, 100, 101, 120, 46, 118, 49, 43, 106, 115, 111, 110]) = false := by rw [beq_eq_false_iff_ne]; exact hx
    have e6 : (t != [97, 112, 112, 108, 105, 99, 97, 116, 105, 111, 110, 47, 118, 110, 100, 46, 111, 99, 105, 46, 105, 109, 97, 103, 101, 46, 105, 110, 100, 101, 120, 46, 118, 49, 43, 106, 115, 111, 110]) = true := by rw [bne, e5]; rfl
    replace hi := box hi
    replace hx := box hx
    replace hk4 := box hk4
    go_enter Tryz.func66, Tryz.ntmps66
    go_wp2_with (first | ((with_reducible refine lst (by with_unfolding_all rfl) (wp_fbox hF0 (cs := (vlL k n ⟨t.toArray⟩ (.slice An nn cn) (.slice Ak nk ck))) rfl (by with_unfolding_all rfl) (by with_unfolding_all rfl) ?_)); intro w1 g1 hF1 hz1) | (with_reducible refine lst (by with_unfolding_all rfl) (wp_fld0 hF1 Tryz.underlying3 rfl (by with_unfolding_all exact ⟨_, rfl, rfl⟩) rfl ?_)) | (with_reducible refine lst (by with_unfolding_all rfl) (wp_fldA0 hF1 Tryz.underlying76 rfl (by with_unfolding_all exact ⟨_, rfl, rfl⟩) (ds := (vlL k n ⟨t.toArray⟩ (.slice An nn cn) (.slice Ak nk ck))) (by rw [vlL_len]; kernel_rfl) (take_all _) ?_)))
    refine (htx.out _ (hF1.belowG hg hB) (Nat.le_trans hB hF1.size)).mono ?_
    rintro e w2 ⟨rfl, hb2⟩
    have hF2 := hF1.call hb2
    simp only [mStr, mErr, strv]
    go_wp2_with (first | ((with_reducible refine lst (by with_unfolding_all rfl) (wp_fst1 hF2 (by with_unfolding_all exact ⟨_, _, rfl, rfl, rfl⟩) (by kernel_rfl) rfl rfl (by rw [docL_len hcl hsl]; decide) (docL_0s (m' := t)) ?_)); intro w3 hF3 hz3) | (with_reducible refine lst (by with_unfolding_all rfl) (wp_fld1 hF3 Tryz.underlying9 rfl (by with_unfolding_all exact ⟨_, rfl, rfl⟩) docL_m0 ?_)))
    go_ret2
    unfold MMem
    rw [hr.out]
    exact ⟨_, [], _, rfl, docL_len hcl hsl, docL_one hco hso hE.one hN.one, hF3.tail, fun d' h => by cases h⟩
  ·have hr := box (hrC.out hk4)
   rw [show mText (.mk k n t ns ks) = .error 80 from if_neg hk4] at htx
   replace hk4 := box hk4
   go_enter Tryz.func66, Tryz.ntmps66
   go_wp2_with (first | ((with_reducible refine lst (by with_unfolding_all rfl) (wp_fbox hF0 (cs := (vlL k n ⟨t.toArray⟩ (.slice An nn cn) (.slice Ak nk ck))) rfl (by with_unfolding_all rfl) (by with_unfolding_all rfl) ?_)); intro w1 g1 hF1 hz1) | (with_reducible refine lst (by with_unfolding_all rfl) (wp_fld0 hF1 Tryz.underlying3 rfl (by with_unfolding_all exact ⟨_, rfl, rfl⟩) rfl ?_)) | (with_reducible refine lst (by with_unfolding_all rfl) (wp_fldA0 hF1 Tryz.underlying76 rfl (by with_unfolding_all exact ⟨_, rfl, rfl⟩) (ds := (vlL k n ⟨t.toArray⟩ (.slice An nn cn) (.slice Ak nk ck))) (by rw [vlL_len]; kernel_rfl) (take_all _) ?_)))
   refine (htx.out _ (hF1.belowG hg hB) (Nat.le_trans hB hF1.size)).mono ?_
   rintro e w2 ⟨rfl, hb2⟩
   have hF2 := hF1.call hb2
   simp only [mStr, mErr, strv]
   go_wp2_with (first | ((with_reducible refine lst (by with_unfolding_all rfl) (wp_fst1 hF2 (by with_unfolding_all exact ⟨_, _, rfl, rfl, rfl⟩) (by kernel_rfl) rfl rfl (by rw [docL_len hcl hsl]; decide) (docL_0s (m' := [])) ?_)); intro w3 hF3 hz3) | (with_reducible refine lst (by with_unfolding_all rfl) (wp_fld1 hF3 Tryz.underlying9 rfl (by with_unfolding_all exact ⟨_, rfl, rfl⟩) docL_m0 ?_)))
   go_ret2
   unfold MMem
   rw [hr.out]
   exact ⟨_, [], _, rfl, docL_len hcl hsl, docL_one hco hso hE.one hN.one, hF3.tail, fun d' h => by cases h⟩
 have n1 : (s == [109, 101, 100, 105, 97, 84, 121, 112, 101]) = false := by rw [beq_eq_false_iff_ne]; exact h1
 by_cases h2 : s = kType
 ·skip
  have hr : Box (rStep d s (.mk k n t ns ks) = match (match mMedia (.mk k n t ns ks) with | .ok x => (.ok (({ d with type := x } : MDoc), (⟨false, false, false, false, false⟩ : MGot)) : MR (MDoc × MGot)) | .error e => .error e) with | .ok x => .ok x.1 | .error e => .error e) := box (by unfold rStep mStep; rw [if_neg h0, if_neg h1, if_pos h2]; rfl)
  have hsq : s = [97, 114, 116, 105, 102, 97, 99, 116, 84, 121, 112, 101] := h2
  subst hsq
  clear h0 h1 h2 n0 n1
  have htx := box (fun w' hb hB' => mmedia_any (.mk k n t ns ks) _ w' ((hM.on hb).now) (hv0.onB (w' := w') hb hB') hsz)
  cases hm : mMedia (.mk k n t ns ks) with
  | ok x =>
   rw [hm] at hr htx
   go_enter Tryz.func66, Tryz.ntmps66
   go_wp2_with (first | ((with_reducible refine lst (by with_unfolding_all rfl) (wp_fbox hF0 (cs := (vlL k n ⟨t.toArray⟩ (.slice An nn cn) (.slice Ak nk ck))) rfl (by with_unfolding_all rfl) (by with_unfolding_all rfl) ?_)); intro w1 g1 hF1 hz1) | (with_reducible refine lst (by with_unfolding_all rfl) (wp_fld0 hF1 Tryz.underlying3 rfl (by with_unfolding_all exact ⟨_, rfl, rfl⟩) rfl ?_)) | (with_reducible refine lst (by with_unfolding_all rfl) (wp_fldA0 hF1 Tryz.underlying76 rfl (by with_unfolding_all exact ⟨_, rfl, rfl⟩) (ds := (vlL k n ⟨t.toArray⟩ (.slice An nn cn) (.slice Ak nk ck))) (by rw [vlL_len]; kernel_rfl) (take_all _) ?_)))
   refine (htx.out _ (hF1.belowG hg hB) (Nat.le_trans hB hF1.size)).mono ?_
   rintro e w2 ⟨rfl, hb2⟩
   have hF2 := hF1.call hb2
   simp only [mStr, mErr, strv]
   go_wp2_with (first | ((with_reducible refine lst (by with_unfolding_all rfl) (wp_fst1 hF2 (by with_unfolding_all exact ⟨_, _, rfl, rfl, rfl⟩) (by kernel_rfl) rfl rfl (by rw [docL_len hcl hsl]; decide) (docL_1s (t' := x)) ?_)); intro w3 hF3 hz3))
   go_ret2
   unfold MMem
   rw [hr.out]
   exact ⟨_, [], _, rfl, docL_len hcl hsl, docL_one hco hso hE.one hN.one, hF3.tail, fun d' h => by injection h with h; subst h; exact ⟨rfl, ⟨cf, eg, sj, nt, hC.mono (fun _ h => List.mem_append_left _ h), hE.mono (fun _ h => List.mem_append_left _ h), hS.mono (fun _ h => List.mem_append_left _ h), hN.mono (fun _ h => List.mem_append_left _ h), rfl⟩⟩⟩
  | error ee =>
   rw [hm] at hr htx
   go_enter Tryz.func66, Tryz.ntmps66
   go_wp2_with (first | ((with_reducible refine lst (by with_unfolding_all rfl) (wp_fbox hF0 (cs := (vlL k n ⟨t.toArray⟩ (.slice An nn cn) (.slice Ak nk ck))) rfl (by with_unfolding_all rfl) (by with_unfolding_all rfl) ?_)); intro w1 g1 hF1 hz1) | (with_reducible refine lst (by with_unfolding_all rfl) (wp_fld0 hF1 Tryz.underlying3 rfl (by with_unfolding_all exact ⟨_, rfl, rfl⟩) rfl ?_)) | (with_reducible refine lst (by with_unfolding_all rfl) (wp_fldA0 hF1 Tryz.underlying76 rfl (by with_unfolding_all exact ⟨_, rfl, rfl⟩) (ds := (vlL k n ⟨t.toArray⟩ (.slice An nn cn) (.slice Ak nk ck))) (by rw [vlL_len]; kernel_rfl) (take_all _) ?_)))
   refine (htx.out _ (hF1.belowG hg hB) (Nat.le_trans hB hF1.size)).mono ?_
   rintro e w2 ⟨rfl, hb2⟩
   have hF2 := hF1.call hb2
   simp only [mStr, mErr, strv]
   go_wp2_with (first | ((with_reducible refine lst (by with_unfolding_all rfl) (wp_fst1 hF2 (by with_unfolding_all exact ⟨_, _, rfl, rfl, rfl⟩) (by kernel_rfl) rfl rfl (by rw [docL_len hcl hsl]; decide) (docL_1s (t' := [])) ?_)); intro w3 hF3 hz3))
   go_ret2
   unfold MMem
   rw [hr.out]
   exact ⟨_, [], _, rfl, docL_len hcl hsl, docL_one hco hso hE.one hN.one, hF3.tail, fun d' h => by cases h⟩
 have n2 : (s == [97, 114, 116, 105, 102, 97, 99, 116, 84, 121, 112, 101]) = false := by rw [beq_eq_false_iff_ne]; exact h2
 by_cases h3 : s = kConfig
 ·skip
  have hr : Box (rStep d s (.mk k n t ns ks) = match (match mDesc (.mk k n t ns ks) with | .ok x => (.ok (({ d with config := x } : MDoc), (⟨false, false, true, false, false⟩ : MGot)) : MR (MDoc × MGot)) | .error e => .error e) with | .ok x => .ok x.1 | .error e => .error e) := box (by unfold rStep mStep; rw [if_neg h0, if_neg h1, if_neg h2, if_pos h3]; rfl)
  have hsq : s = [99, 111, 110, 102, 105, 103] := h3
  subst hsq
  clear h0 h1 h2 h3 n0 n1 n2
  have htx := box (fun w' hb hB' => mdesc_any (.mk k n t ns ks) _ w' ((hM.on hb).now) (hv0.onB (w' := w') hb hB') hob)
  cases hm : mDesc (.mk k n t ns ks) with
  | ok x =>
   rw [hm] at hr htx
   go_enter Tryz.func66, Tryz.ntmps66
   go_wp2_with (first | ((with_reducible refine lst (by with_unfolding_all rfl) (wp_fbox hF0 (cs := (vlL k n ⟨t.toArray⟩ (.slice An nn cn) (.slice Ak nk ck))) rfl (by with_unfolding_all rfl) (by with_unfolding_all rfl) ?_)); intro w1 g1 hF1 hz1) | (with_reducible refine lst (by with_unfolding_all rfl) (wp_fld0 hF1 Tryz.underlying3 rfl (by with_unfolding_all exact ⟨_, rfl, rfl⟩) rfl ?_)) | (with_reducible refine lst (by with_unfolding_all rfl) (wp_fldA0 hF1 Tryz.underlying76 rfl (by with_unfolding_all exact ⟨_, rfl, rfl⟩) (ds := (vlL k n ⟨t.toArray⟩ (.slice An nn cn) (.slice Ak nk ck))) (by rw [vlL_len]; kernel_rfl) (take_all _) ?_)))
   refine (htx.out _ (hF1.belowG hg hB) (Nat.le_trans hB hF1.size)).mono ?_
   rintro e w2 ⟨c2, es2, rfl, hvd, h2⟩
   have hF2 := hF1.joinR h2
   simp only [List.cons_append, List.nil_append] at hF2
   have hdl := box hvd.len
   have hdo := hvd.ones
   replace hdo := box hdo
   simp only [mErr]
   go_wp2_with (first | ((with_reducible refine lst (by with_unfolding_all rfl) (wp_fstA1 hF2 (by with_unfolding_all exact ⟨_, _, rfl, rfl, rfl⟩) (by rw [hdl.out]; kernel_rfl) hdo.out (by rw [hdl.out, docL_len hcl hsl]; decide) (docL_2 (by rw [hdl.out, hcl])) ?_)); intro w3 hF3 hz3))
   go_ret2
   unfold MMem
   rw [hr.out]
   exact ⟨_, es2, _, rfl, docL_len hdl.out hsl, docL_one hdo.out hso hE.one hN.one, hF3.tail, fun d' h => by injection h with h; subst h; exact ⟨rfl, ⟨c2, eg, sj, nt, hvd.mono (fun _ h => List.mem_append_right _ h), hE.mono (fun _ h => List.mem_append_left _ h), hS.mono (fun _ h => List.mem_append_left _ h), hN.mono (fun _ h => List.mem_append_left _ h), rfl⟩⟩⟩
  | error ee =>
   rw [hm] at hr htx
   go_enter Tryz.func66, Tryz.ntmps66
   go_wp2_with (first | ((with_reducible refine lst (by with_unfolding_all rfl) (wp_fbox hF0 (cs := (vlL k n ⟨t.toArray⟩ (.slice An nn cn) (.slice Ak nk ck))) rfl (by with_unfolding_all rfl) (by with_unfolding_all rfl) ?_)); intro w1 g1 hF1 hz1) | (with_reducible refine lst (by with_unfolding_all rfl) (wp_fld0 hF1 Tryz.underlying3 rfl (by with_unfolding_all exact ⟨_, rfl, rfl⟩) rfl ?_)) | (with_reducible refine lst (by with_unfolding_all rfl) (wp_fldA0 hF1 Tryz.underlying76 rfl (by with_unfolding_all exact ⟨_, rfl, rfl⟩) (ds := (vlL k n ⟨t.toArray⟩ (.slice An nn cn) (.slice Ak nk ck))) (by rw [vlL_len]; kernel_rfl) (take_all _) ?_)))
   refine (htx.out _ (hF1.belowG hg hB) (Nat.le_trans hB hF1.size)).mono ?_
   rintro e w2 ⟨c2, es2, rfl, hvd, h2⟩
   have hF2 := hF1.joinR h2
   simp only [List.cons_append, List.nil_append] at hF2
   have hdl := box hvd.len
   have hdo := hvd.ones
   replace hdo := box hdo
   simp only [mErr]
   go_wp2_with (first | ((with_reducible refine lst (by with_unfolding_all rfl) (wp_fstA1 hF2 (by with_unfolding_all exact ⟨_, _, rfl, rfl, rfl⟩) (by rw [hdl.out]; kernel_rfl) hdo.out (by rw [hdl.out, docL_len hcl hsl]; decide) (docL_2 (by rw [hdl.out, hcl])) ?_)); intro w3 hF3 hz3))
   go_ret2
   unfold MMem
   rw [hr.out]
   exact ⟨_, es2, _, rfl, docL_len hdl.out hsl, docL_one hdo.out hso hE.one hN.one, hF3.tail, fun d' h => by cases h⟩
 have n3 : (s == [99, 111, 110, 102, 105, 103]) = false := by rw [beq_eq_false_iff_ne]; exact h3
 by_cases h4 : s = kLayers
 ·skip
  have hr : Box (rStep d s (.mk k n t ns ks) = match (match mEdges (.mk k n t ns ks) with | .ok x => (.ok (({ d with edges := x } : MDoc), (⟨false, false, false, true, false⟩ : MGot)) : MR (MDoc × MGot)) | .error e => .error e) with | .ok x => .ok x.1 | .error e => .error e) := box (by unfold rStep mStep; rw [if_neg h0, if_neg h1, if_neg h2, if_neg h3, if_pos h4]; rfl)
  have hsq : s = [108, 97, 121, 101, 114, 115] := h4
  subst hsq
  clear h0 h1 h2 h3 h4 n0 n1 n2 n3
  have htx := box (fun w' hb hB' => medges_any (.mk k n t ns ks) _ w' ((hM.on hb).now) (hv0.onB (w' := w') hb hB') hob)
  cases hm : mEdges (.mk k n t ns ks) with
  | ok x =>
   rw [hm] at hr htx
   go_enter Tryz.func66, Tryz.ntmps66
   go_wp2_with (first | ((with_reducible refine lst (by with_unfolding_all rfl) (wp_fbox hF0 (cs := (vlL k n ⟨t.toArray⟩ (.slice An nn cn) (.slice Ak nk ck))) rfl (by with_unfolding_all rfl) (by with_unfolding_all rfl) ?_)); intro w1 g1 hF1 hz1) | (with_reducible refine lst (by with_unfolding_all rfl) (wp_fld0 hF1 Tryz.underlying3 rfl (by with_unfolding_all exact ⟨_, rfl, rfl⟩) rfl ?_)) | (with_reducible refine lst (by with_unfolding_all rfl) (wp_fldA0 hF1 Tryz.underlying76 rfl (by with_unfolding_all exact ⟨_, rfl, rfl⟩) (ds := (vlL k n ⟨t.toArray⟩ (.slice An nn cn) (.slice Ak nk ck))) (by rw [vlL_len]; kernel_rfl) (take_all _) ?_)))
   refine (htx.out _ (hF1.belowG hg hB) (Nat.le_trans hB hF1.size)).mono ?_
   rintro e w2 ⟨e2, es2, rfl, hvd, h2⟩
   have hF2 := hF1.joinR h2
   simp only [List.cons_append, List.nil_append] at hF2
   obtain ⟨A2, l2, k2, z2, hk2, hl2, rfl, hT2, hm2⟩ := hvd
   replace hl2 := box hl2
   simp only [mErr]
   go_wp2_with (first | ((with_reducible refine lst (by with_unfolding_all rfl) (wp_fst1 hF2 (by with_unfolding_all exact ⟨_, _, rfl, rfl, rfl⟩) (by kernel_rfl) rfl rfl (by rw [docL_len hcl hsl]; decide) (docL_37 (eg' := .slice A2 l2 k2) hcl) ?_)); intro w3 hF3 hz3))
   go_ret2
   unfold MMem
   rw [hr.out]
   exact ⟨_, es2, _, rfl, docL_len hcl hsl, docL_one hco hso rfl hN.one, hF3.tail, fun d' h => by injection h with h; subst h; exact ⟨rfl, ⟨cf, _, sj, nt, hC.mono (fun _ h => List.mem_append_left _ h), ⟨A2, l2, k2, z2, hk2, hl2.out, rfl, hT2.mono (fun _ h => List.mem_append_right _ h), hm2.imp id (List.mem_append_right _)⟩, hS.mono (fun _ h => List.mem_append_left _ h), hN.mono (fun _ h => List.mem_append_left _ h), rfl⟩⟩⟩
  | error ee =>
   rw [hm] at hr htx
   go_enter Tryz.func66, Tryz.ntmps66
   go_wp2_with (first | ((with_reducible refine lst (by with_unfolding_all rfl) (wp_fbox hF0 (cs := (vlL k n ⟨t.toArray⟩ (.slice An nn cn) (.slice Ak nk ck))) rfl (by with_unfolding_all rfl) (by with_unfolding_all rfl) ?_)); intro w1 g1 hF1 hz1) | (with_reducible refine lst (by with_unfolding_all rfl) (wp_fld0 hF1 Tryz.underlying3 rfl (by with_unfolding_all exact ⟨_, rfl, rfl⟩) rfl ?_)) | (with_reducible refine lst (by with_unfolding_all rfl) (wp_fldA0 hF1 Tryz.underlying76 rfl (by with_unfolding_all exact ⟨_, rfl, rfl⟩) (ds := (vlL k n ⟨t.toArray⟩ (.slice An nn cn) (.slice Ak nk ck))) (by rw [vlL_len]; kernel_rfl) (take_all _) ?_)))
   refine (htx.out _ (hF1.belowG hg hB) (Nat.le_trans hB hF1.size)).mono ?_
   rintro e w2 ⟨e2, es2, rfl, hvd, h2⟩
   have hF2 := hF1.joinR h2
   simp only [List.cons_append, List.nil_append] at hF2
   obtain ⟨A2, l2, k2, z2, hk2, hl2, rfl, hT2, hm2⟩ := hvd
   replace hl2 := box hl2
   simp only [mErr]
   go_wp2_with (first | ((with_reducible refine lst (by with_unfolding_all rfl) (wp_fst1 hF2 (by with_unfolding_all exact ⟨_, _, rfl, rfl, rfl⟩) (by kernel_rfl) rfl rfl (by rw [docL_len hcl hsl]; decide) (docL_37 (eg' := .slice A2 l2 k2) hcl) ?_)); intro w3 hF3 hz3))
   go_ret2
   unfold MMem
   rw [hr.out]
   exact ⟨_, es2, _, rfl, docL_len hcl hsl, docL_one hco hso rfl hN.one, hF3.tail, fun d' h => by cases h⟩
 have n4 : (s == [108, 97, 121, 101, 114, 115]) = false := by rw [beq_eq_false_iff_ne]; exact h4
 by_cases h5 : s = kManifests
 ·skip
  have hr : Box (rStep d s (.mk k n t ns ks) = match (match mEdges (.mk k n t ns ks) with | .ok x => (.ok (({ d with edges := x } : MDoc), (⟨false, false, false, false, true⟩ : MGot)) : MR (MDoc × MGot)) | .error e => .error e) with | .ok x => .ok x.1 | .error e => .error e) := box (by unfold rStep mStep; rw [if_neg h0, if_neg h1, if_neg h2, if_neg h3, if_neg h4, if_pos h5]; rfl)
  have hsq : s = [109, 97, 110, 105, 102, 101, 115, 116, 115] := h5
  subst hsq
  clear h0 h1 h2 h3 h4 h5 n0 n1 n2 n3 n4
  have htx := box (fun w' hb hB' => medges_any (.mk k n t ns ks) _ w' ((hM.on hb).now) (hv0.onB (w' := w') hb hB') hob)
  cases hm : mEdges (.mk k n t ns ks) with
  | ok x =>
   rw [hm] at hr htx
   go_enter Tryz.func66, Tryz.ntmps66
   go_wp2_with (first | ((with_reducible refine lst (by with_unfolding_all rfl) (wp_fbox hF0 (cs := (vlL k n ⟨t.toArray⟩ (.slice An nn cn) (.slice Ak nk ck))) rfl (by with_unfolding_all rfl) (by with_unfolding_all rfl) ?_)); intro w1 g1 hF1 hz1) | (with_reducible refine lst (by with_unfolding_all rfl) (wp_fld0 hF1 Tryz.underlying3 rfl (by with_unfolding_all exact ⟨_, rfl, rfl⟩) rfl ?_)) | (with_reducible refine lst (by with_unfolding_all rfl) (wp_fldA0 hF1 Tryz.underlying76 rfl (by with_unfolding_all exact ⟨_, rfl, rfl⟩) (ds := (vlL k n ⟨t.toArray⟩ (.slice An nn cn) (.slice Ak nk ck))) (by rw [vlL_len]; kernel_rfl) (take_all _) ?_)))
   refine (htx.out _ (hF1.belowG hg hB) (Nat.le_trans hB hF1.size)).mono ?_
   rintro e w2 ⟨e2, es2, rfl, hvd, h2⟩
   have hF2 := hF1.joinR h2
   simp only [List.cons_append, List.nil_append] at hF2
   obtain ⟨A2, l2, k2, z2, hk2, hl2, rfl, hT2, hm2⟩ := hvd
   replace hl2 := box hl2
   simp only [mErr]
   go_wp2_with (first | ((with_reducible refine lst (by with_unfolding_all rfl) (wp_fst1 hF2 (by with_unfolding_all exact ⟨_, _, rfl, rfl, rfl⟩) (by kernel_rfl) rfl rfl (by rw [docL_len hcl hsl]; decide) (docL_37 (eg' := .slice A2 l2 k2) hcl) ?_)); intro w3 hF3 hz3))
   go_ret2
   unfold MMem
   rw [hr.out]
   exact ⟨_, es2, _, rfl, docL_len hcl hsl, docL_one hco hso rfl hN.one, hF3.tail, fun d' h => by injection h with h; subst h; exact ⟨rfl, ⟨cf, _, sj, nt, hC.mono (fun _ h => List.mem_append_left _ h), ⟨A2, l2, k2, z2, hk2, hl2.out, rfl, hT2.mono (fun _ h => List.mem_append_right _ h), hm2.imp id (List.mem_append_right _)⟩, hS.mono (fun _ h => List.mem_append_left _ h), hN.mono (fun _ h => List.mem_append_left _ h), rfl⟩⟩⟩
  | error ee =>
   rw [hm] at hr htx
   go_enter Tryz.func66, Tryz.ntmps66
   go_wp2_with (first | ((with_reducible refine lst (by with_unfolding_all rfl) (wp_fbox hF0 (cs := (vlL k n ⟨t.toArray⟩ (.slice An nn cn) (.slice Ak nk ck))) rfl (by with_unfolding_all rfl) (by with_unfolding_all rfl) ?_)); intro w1 g1 hF1 hz1) | (with_reducible refine lst (by with_unfolding_all rfl) (wp_fld0 hF1 Tryz.underlying3 rfl (by with_unfolding_all exact ⟨_, rfl, rfl⟩) rfl ?_)) | (with_reducible refine lst (by with_unfolding_all rfl) (wp_fldA0 hF1 Tryz.underlying76 rfl (by with_unfolding_all exact ⟨_, rfl, rfl⟩) (ds := (vlL k n ⟨t.toArray⟩ (.slice An nn cn) (.slice Ak nk ck))) (by rw [vlL_len]; kernel_rfl) (take_all _) ?_)))
   refine (htx.out _ (hF1.belowG hg hB) (Nat.le_trans hB hF1.size)).mono ?_
   rintro e w2 ⟨e2, es2, rfl, hvd, h2⟩
   have hF2 := hF1.joinR h2
   simp only [List.cons_append, List.nil_append] at hF2
   obtain ⟨A2, l2, k2, z2, hk2, hl2, rfl, hT2, hm2⟩ := hvd
   replace hl2 := box hl2
   simp only [mErr]
   go_wp2_with (first | ((with_reducible refine lst (by with_unfolding_all rfl) (wp_fst1 hF2 (by with_unfolding_all exact ⟨_, _, rfl, rfl, rfl⟩) (by kernel_rfl) rfl rfl (by rw [docL_len hcl hsl]; decide) (docL_37 (eg' := .slice A2 l2 k2) hcl) ?_)); intro w3 hF3 hz3))
   go_ret2
   unfold MMem
   rw [hr.out]
   exact ⟨_, es2, _, rfl, docL_len hcl hsl, docL_one hco hso rfl hN.one, hF3.tail, fun d' h => by cases h⟩
 have n5 : (s == [109, 97, 110, 105, 102, 101, 115, 116, 115]) = false := by rw [beq_eq_false_iff_ne]; exact h5
 by_cases h6 : s = kSubject
 ·skip
  have hr : Box (rStep d s (.mk k n t ns ks) = match (match mDesc (.mk k n t ns ks) with | .ok x => (.ok (({ d with subject := x, has := true } : MDoc), (⟨false, false, false, false, false⟩ : MGot)) : MR (MDoc × MGot)) | .error e => .error e) with | .ok x => .ok x.1 | .error e => .error e) := box (by unfold rStep mStep; rw [if_neg h0, if_neg h1, if_neg h2, if_neg h3, if_neg h4, if_neg h5, if_pos h6]; rfl)
  have hsq : s = [115, 117, 98, 106, 101, 99, 116] := h6
  subst hsq
  clear h0 h1 h2 h3 h4 h5 h6 n0 n1 n2 n3 n4 n5
  have htx := box (fun w' hb hB' => mdesc_any (.mk k n t ns ks) _ w' ((hM.on hb).now) (hv0.onB (w' := w') hb hB') hob)
  cases hm : mDesc (.mk k n t ns ks) with
  | ok x =>
   rw [hm] at hr htx
   go_enter Tryz.func66, Tryz.ntmps66
   go_wp2_with (first | ((with_reducible refine lst (by with_unfolding_all rfl) (wp_fbox hF0 (cs := (vlL k n ⟨t.toArray⟩ (.slice An nn cn) (.slice Ak nk ck))) rfl (by with_unfolding_all rfl) (by with_unfolding_all rfl) ?_)); intro w1 g1 hF1 hz1) | (with_reducible refine lst (by with_unfolding_all rfl) (wp_fld0 hF1 Tryz.underlying3 rfl (by with_unfolding_all exact ⟨_, rfl, rfl⟩) rfl ?_)) | (with_reducible refine lst (by with_unfolding_all rfl) (wp_fldA0 hF1 Tryz.underlying76 rfl (by with_unfolding_all exact ⟨_, rfl, rfl⟩) (ds := (vlL k n ⟨t.toArray⟩ (.slice An nn cn) (.slice Ak nk ck))) (by rw [vlL_len]; kernel_rfl) (take_all _) ?_)))
   refine (htx.out _ (hF1.belowG hg hB) (Nat.le_trans hB hF1.size)).mono ?_
   rintro e w2 ⟨c2, es2, rfl, hvd, h2⟩
   have hF2 := hF1.joinR h2
   simp only [List.cons_append, List.nil_append] at hF2
   have hdl := box hvd.len
   have hdo := hvd.ones
   replace hdo := box hdo
   simp only [mErr]
   go_wp2_with (first | ((with_reducible refine lst (by with_unfolding_all rfl) (wp_fstA1 hF2 (by with_unfolding_all exact ⟨_, _, rfl, rfl, rfl⟩) (by rw [hdl.out]; kernel_rfl) hdo.out (by rw [hdl.out, docL_len hcl hsl]; decide) (docL_38 hcl (by rw [hdl.out, hsl])) ?_)); intro w3 hF3 hz3) | ((with_reducible refine lst (by with_unfolding_all rfl) (wp_fst1 hF3 (by with_unfolding_all exact ⟨_, _, rfl, rfl, rfl⟩) (by kernel_rfl) rfl rfl (by rw [docL_len hcl hdl.out]; decide) (docL_73 (has' := true) hcl hdl.out) ?_)); intro w4 hF4 hz4))
   go_ret2
   unfold MMem
   rw [hr.out]
   exact ⟨_, es2, _, rfl, docL_len hcl hdl.out, docL_one hco hdo.out hE.one hN.one, hF4.tail, fun d' h => by injection h with h; subst h; exact ⟨rfl, ⟨cf, eg, c2, nt, hC.mono (fun _ h => List.mem_append_left _ h), hE.mono (fun _ h => List.mem_append_left _ h), hvd.mono (fun _ h => List.mem_append_right _ h), hN.mono (fun _ h => List.mem_append_left _ h), rfl⟩⟩⟩
  | error ee =>
   rw [hm] at hr htx
   go_enter Tryz.func66, Tryz.ntmps66
   go_wp2_with (first | ((with_reducible refine lst (by with_unfolding_all rfl) (wp_fbox hF0 (cs := (vlL k n ⟨t.toArray⟩ (.slice An nn cn) (.slice Ak nk ck))) rfl (by with_unfolding_all rfl) (by with_unfolding_all rfl) ?_)); intro w1 g1 hF1 hz1) | (with_reducible refine lst (by with_unfolding_all rfl) (wp_fld0 hF1 Tryz.underlying3 rfl (by with_unfolding_all exact ⟨_, rfl, rfl⟩) rfl ?_)) | (with_reducible refine lst (by with_unfolding_all rfl) (wp_fldA0 hF1 Tryz.underlying76 rfl (by with_unfolding_all exact ⟨_, rfl, rfl⟩) (ds := (vlL k n ⟨t.toArray⟩ (.slice An nn cn) (.slice Ak nk ck))) (by rw [vlL_len]; kernel_rfl) (take_all _) ?_)))
   refine (htx.out _ (hF1.belowG hg hB) (Nat.le_trans hB hF1.size)).mono ?_
   rintro e w2 ⟨c2, es2, rfl, hvd, h2⟩
   have hF2 := hF1.joinR h2
   simp only [List.cons_append, List.nil_append] at hF2
   have hdl := box hvd.len
   have hdo := hvd.ones
   replace hdo := box hdo
   simp only [mErr]
   go_wp2_with (first | ((with_reducible refine lst (by with_unfolding_all rfl) (wp_fstA1 hF2 (by with_unfolding_all exact ⟨_, _, rfl, rfl, rfl⟩) (by rw [hdl.out]; kernel_rfl) hdo.out (by rw [hdl.out, docL_len hcl hsl]; decide) (docL_38 hcl (by rw [hdl.out, hsl])) ?_)); intro w3 hF3 hz3) | ((with_reducible refine lst (by with_unfolding_all rfl) (wp_fst1 hF3 (by with_unfolding_all exact ⟨_, _, rfl, rfl, rfl⟩) (by kernel_rfl) rfl rfl (by rw [docL_len hcl hdl.out]; decide) (docL_73 (has' := true) hcl hdl.out) ?_)); intro w4 hF4 hz4))
   go_ret2
   unfold MMem
   rw [hr.out]
   exact ⟨_, es2, _, rfl, docL_len hcl hdl.out, docL_one hco hdo.out hE.one hN.one, hF4.tail, fun d' h => by cases h⟩
 have n6 : (s == [115, 117, 98, 106, 101, 99, 116]) = false := by rw [beq_eq_false_iff_ne]; exact h6
 by_cases h7 : s = kNotes
 ·skip
  have hr : Box (rStep d s (.mk k n t ns ks) = match (match mNotes (.mk k n t ns ks) with | .ok x => (.ok (({ d with notes := x } : MDoc), (⟨false, false, false, false, false⟩ : MGot)) : MR (MDoc × MGot)) | .error e => .error e) with | .ok x => .ok x.1 | .error e => .error e) := box (by unfold rStep mStep; rw [if_neg h0, if_neg h1, if_neg h2, if_neg h3, if_neg h4, if_neg h5, if_neg h6, if_pos h7]; rfl)
  have hsq : s = [97, 110, 110, 111, 116, 97, 116, 105, 111, 110, 115] := h7
  subst hsq
  clear h0 h1 h2 h3 h4 h5 h6 h7 n0 n1 n2 n3 n4 n5 n6
  have htx := box (fun w' hb hB' => mnotes_any (.mk k n t ns ks) _ w' (hv0.onB (w' := w') hb hB') hob)
  cases hm : mNotes (.mk k n t ns ks) with
  | ok x =>
   rw [hm] at hr htx
   go_enter Tryz.func66, Tryz.ntmps66
   go_wp2_with (first | ((with_reducible refine lst (by with_unfolding_all rfl) (wp_fbox hF0 (cs := (vlL k n ⟨t.toArray⟩ (.slice An nn cn) (.slice Ak nk ck))) rfl (by with_unfolding_all rfl) (by with_unfolding_all rfl) ?_)); intro w1 g1 hF1 hz1) | (with_reducible refine lst (by with_unfolding_all rfl) (wp_fld0 hF1 Tryz.underlying3 rfl (by with_unfolding_all exact ⟨_, rfl, rfl⟩) rfl ?_)) | (with_reducible refine lst (by with_unfolding_all rfl) (wp_fldA0 hF1 Tryz.underlying76 rfl (by with_unfolding_all exact ⟨_, rfl, rfl⟩) (ds := (vlL k n ⟨t.toArray⟩ (.slice An nn cn) (.slice Ak nk ck))) (by rw [vlL_len]; kernel_rfl) (take_all _) ?_)))
   refine (htx.out _ (hF1.belowG hg hB) (Nat.le_trans hB hF1.size)).mono ?_
   rintro e w2 ⟨e2, es2, rfl, hvd, h2⟩
   have hF2 := hF1.joinR h2
   simp only [List.cons_append, List.nil_append] at hF2
   obtain ⟨A2, l2, k2, hk2, hl2, rfl, hm2⟩ := hvd
   replace hl2 := box hl2
   simp only [mErr]
   go_wp2_with (first | ((with_reducible refine lst (by with_unfolding_all rfl) (wp_fst1 hF2 (by with_unfolding_all exact ⟨_, _, rfl, rfl, rfl⟩) (by kernel_rfl) rfl rfl (by rw [docL_len hcl hsl]; decide) (docL_74 (nt' := .slice A2 l2 k2) hcl hsl) ?_)); intro w3 hF3 hz3))
   go_ret2
   unfold MMem
   rw [hr.out]
   exact ⟨_, es2, _, rfl, docL_len hcl hsl, docL_one hco hso hE.one rfl, hF3.tail, fun d' h => by injection h with h; subst h; exact ⟨rfl, ⟨cf, eg, sj, _, hC.mono (fun _ h => List.mem_append_left _ h), hE.mono (fun _ h => List.mem_append_left _ h), hS.mono (fun _ h => List.mem_append_left _ h), ⟨A2, l2, k2, hk2, hl2.out, rfl, hm2.imp id (List.mem_append_right _)⟩, rfl⟩⟩⟩
  | error ee =>
   rw [hm] at hr htx
   go_enter Tryz.func66, Tryz.ntmps66
   go_wp2_with (first | ((with_reducible refine lst (by with_unfolding_all rfl) (wp_fbox hF0 (cs := (vlL k n ⟨t.toArray⟩ (.slice An nn cn) (.slice Ak nk ck))) rfl (by with_unfolding_all rfl) (by with_unfolding_all rfl) ?_)); intro w1 g1 hF1 hz1) | (with_reducible refine lst (by with_unfolding_all rfl) (wp_fld0 hF1 Tryz.underlying3 rfl (by with_unfolding_all exact ⟨_, rfl, rfl⟩) rfl ?_)) | (with_reducible refine lst (by with_unfolding_all rfl) (wp_fldA0 hF1 Tryz.underlying76 rfl (by with_unfolding_all exact ⟨_, rfl, rfl⟩) (ds := (vlL k n ⟨t.toArray⟩ (.slice An nn cn) (.slice Ak nk ck))) (by rw [vlL_len]; kernel_rfl) (take_all _) ?_)))
   refine (htx.out _ (hF1.belowG hg hB) (Nat.le_trans hB hF1.size)).mono ?_
   rintro e w2 ⟨e2, es2, rfl, hvd, h2⟩
   have hF2 := hF1.joinR h2
   simp only [List.cons_append, List.nil_append] at hF2
   obtain ⟨A2, l2, k2, hk2, hl2, rfl, hm2⟩ := hvd
   replace hl2 := box hl2
   simp only [mErr]
   go_wp2_with (first | ((with_reducible refine lst (by with_unfolding_all rfl) (wp_fst1 hF2 (by with_unfolding_all exact ⟨_, _, rfl, rfl, rfl⟩) (by kernel_rfl) rfl rfl (by rw [docL_len hcl hsl]; decide) (docL_74 (nt' := .slice A2 l2 k2) hcl hsl) ?_)); intro w3 hF3 hz3))
   go_ret2
   unfold MMem
   rw [hr.out]
   exact ⟨_, es2, _, rfl, docL_len hcl hsl, docL_one hco hso hE.one rfl, hF3.tail, fun d' h => by cases h⟩
 have n7 : (s == [97, 110, 110, 111, 116, 97, 116, 105, 111, 110, 115]) = false := by rw [beq_eq_false_iff_ne]; exact h7
 have hr : Box (rStep d s (.mk k n t ns ks) = .error 80) := box (by unfold rStep mStep; rw [if_neg h0, if_neg h1, if_neg h2, if_neg h3, if_neg h4, if_neg h5, if_neg h6, if_neg h7])
 clear h0 h1 h2 h3 h4 h5 h6 h7
 go_enter Tryz.func66, Tryz.ntmps66
 go_wp2_with (first | ((with_reducible refine lst (by with_unfolding_all rfl) (wp_fbox hF0 (cs := (vlL k n ⟨t.toArray⟩ (.slice An nn cn) (.slice Ak nk ck))) rfl (by with_unfolding_all rfl) (by with_unfolding_all rfl) ?_)); intro w1 g1 hF1 hz1) | (with_reducible refine lst (by with_unfolding_all rfl) (wp_fld0 hF1 Tryz.underlying3 rfl (by with_unfolding_all exact ⟨_, rfl, rfl⟩) rfl ?_)) | (with_reducible refine lst (by with_unfolding_all rfl) (wp_fldA0 hF1 Tryz.underlying76 rfl (by with_unfolding_all exact ⟨_, rfl, rfl⟩) (ds := (vlL k n ⟨t.toArray⟩ (.slice An nn cn) (.slice Ak nk ck))) (by rw [vlL_len]; kernel_rfl) (take_all _) ?_)))
 go_ret2
 unfold MMem
 rw [hr.out]
 exact ⟨_, [], _, rfl, docL_len hcl hsl, docL_one hco hso hE.one hN.one, hF1.tail, fun d' h => by cases h⟩
end Go.Proofs.YtlhicfpmlncomaaGreatDoor

namespace Go.Proofs.YtlhicfpmlncomaaGreatDoor
open Go.RowKit
set_option linter.unusedSimpArgs false
set_option linter.unusedVariables false
theorem VRd.stay {w w' : World} {B : Nat} {v : JV} {cs : List Value} (h : VRd w (· < B) v cs) (hb : Below B w w') : VRd w' (· < B) v cs :=
 VRd.keep (fun _ hk => hk) (fun k hk => hb.block k hk) v h
theorem mReadL_go {ns : List (List UInt8)} {ks : List JV} {i : Nat} {s : List UInt8} {k : JV} {d : MDoc} {h : MGot} (hs : ns[i]? = some s) (hk : ks[i]? = some k) : mReadL d h (ns.drop i) (ks.drop i) = match rStep d s k with
  | .ok d' => mReadL d' (h.one s) (ns.drop (i + 1)) (ks.drop (i + 1))
  | .error e => .error e := by
 rw [List.drop_eq_getElem_cons (List.getElem?_eq_some_iff.1 hs).1, (List.getElem?_eq_some_iff.1 hs).2, List.drop_eq_getElem_cons (List.getElem?_eq_some_iff.1 hk).1, (List.getElem?_eq_some_iff.1 hk).2, mReadL, mStep_one]
 cases rStep d s k <;> rfl
theorem mReadL_end {ns : List (List UInt8)} {ks : List JV} {i : Nat} {d : MDoc} {h : MGot} (hk : ks.length ≤ i) : mReadL d h (ns.drop i) (ks.drop i) = if mWhole d h = true then .ok d else .error 80 := by
 rw [List.drop_of_length_le hk]
 cases ns.drop i <;> (rw [mReadL]; intros; rename_i h1 h2; cases h2)
theorem got_19 (h : MGot) : ((gotI h : Int) != 19) = !(h.v && (h.m && (!h.c && (!h.l && h.i)))) := by obtain ⟨a, b, c, d, e⟩ := h; cases a <;> cases b <;> cases c <;> cases d <;> cases e <;> rfl
theorem got_15 (h : MGot) : ((gotI h : Int) != 15) = !(h.v && (h.m && (h.c && (h.l && !h.i)))) := by obtain ⟨a, b, c, d, e⟩ := h; cases a <;> cases b <;> cases c <;> cases d <;> cases e <;> rfl
def docP : List (Nat × Nat) := [(0, 1), (1, 1), (2, 35), (37, 1), (38, 35), (73, 1), (74, 1)]
def mDc (r : MR MDoc) : MDoc := match r with
 | .ok d => d
 | .error _ => .zero
/-- A document is told, or an error. -/
def MRd (w : World) (r : MR MDoc) (e : Ending) (w' : World) : Prop := ∃ cs es, e = .returned (.tuple #[.agg cs.toArray, mErr r]) ∧ VDoc (mDc r) cs es ∧ Fr [] w w' es
set_option maxRecDepth 20000 in
set_option maxHeartbeats 12800000 in
theorem mread_any (v : JV) (cs : List Value) (w : World) (hM : MaxAt w.heap.size w) (hv : VRd w (· < w.heap.size) v cs) (hob : JOb v) :
  Calls Tryz.prog 31 #[.agg cs.toArray] w (MRd w (mRead v)) := by
 obtain ⟨k, n, t, ns, ks⟩ := v
 rw [VRd] at hv
 obtain ⟨An, nn, cn, Ak, nk, ck, xs, hcn, hck, rfl, hrn, hrk, hvk⟩ := hv
 have hF0 := Fr.nil w
 have hkl := hvk.len
 rw [hrk.len] at hkl
 have hnl := hrn.len
 rw [List.length_map, Nat.mul_one] at hnl
 have hobj := hob.obj
 simp only [JV.kind, JV.names, JV.kids] at hobj
 by_cases hk : k = 6
 rotate_left
 ·have hj : Box (mRead (.mk k n t ns ks) = .error 80) := box (if_neg hk)
  have hq : ((k : Int) != 6) = true := by rw [bne_iff_ne]; exact hk
  replace hk := box hk
  clear hobj
  go_enter Tryz.func31, Tryz.ntmps31
  go_wp2_with (first | ((with_reducible refine lst (by with_unfolding_all rfl) (wp_fbox hF0 (cs := (vlL k n ⟨t.toArray⟩ (.slice An nn cn) (.slice Ak nk ck))) rfl (by with_unfolding_all rfl) (by with_unfolding_all rfl) ?_)); intro w1 g1 hF1 hz1) | ((with_reducible refine lst (by with_unfolding_all rfl) (wp_falloc hF1 (cs := doc0) (z := .agg (List.toArray (doc0))) rfl (by kernel_rfl) (by with_unfolding_all rfl) ?_)); intro w2 g2 hF2 hz2) | ((with_reducible refine lst (by with_unfolding_all rfl) (wp_falloc hF2 (cs := doc0) (z := .agg (List.toArray (doc0))) rfl (by kernel_rfl) (by with_unfolding_all rfl) ?_)); intro w3 g3 hF3 hz3) | (with_reducible refine lst (by with_unfolding_all rfl) (wp_fld2 hF3 Tryz.underlying3 rfl (by with_unfolding_all exact ⟨_, rfl, rfl⟩) rfl ?_)) | (with_reducible refine lst (by with_unfolding_all rfl) (wp_fldA0 hF3 Tryz.underlying31 rfl (by with_unfolding_all exact ⟨_, rfl, rfl⟩) (ds := doc0) (by rw [doc0_len]; kernel_rfl) (take_all _) ?_)) | ((with_reducible refine lst (by with_unfolding_all rfl) (wp_fstA1 hF3 (by with_unfolding_all exact ⟨_, _, rfl, rfl, rfl⟩) (by rw [doc0_len]; kernel_rfl) doc0_one (by first | exact Nat.le_of_eq (Nat.zero_add _) | (rw [doc0_len, doc0_len]; decide)) (spl_all (by first | rfl | (rw [doc0_len, doc0_len]))) ?_)); intro w4 hF4 hz4))
  exact bodyPost_ret (results_cellF2 rfl _ hF4 (i := 1) rfl rfl Tryz.underlying31 rfl (by rw [doc0_len]; kernel_rfl)) rfl (by
   unfold MRd
   rw [hj.out]
   exact ⟨_, _, rfl, VDoc.zero, hF4.tail.tail⟩)
 have hq : ((k : Int) != 6) = false := by rw [hk]; rfl
 have hnk : nk = ks.length := by omega
 have hnn : ns.length = nk := by rw [hnk]; exact (hobj hk).1
 have hkn : nk ≤ 1048576 := by rw [hnk]; exact hob.small.2.2
 have hkob := box (fun u hu => hob.kid (k := u) hu)
 simp only [JV.kids] at hkob
 obtain ⟨J, hJ0⟩ : ∃ J, J = mRead (.mk k n t ns ks) := ⟨_, rfl⟩
 have hJ : Box (J = mReadL .zero ⟨false, false, false, false, false⟩ (ns.drop 0) (ks.drop 0)) := box (by rw [hJ0, List.drop_zero, List.drop_zero]; exact if_pos hk)
 rw [← hJ0]
 have hnn2 : nn = nk := by omega
 subst hnn2
 replace hk := box hk
 replace hnk := box hnk
 replace hnn := box hnn
 replace hvk := box hvk
 clear hobj hkl hnl hJ0 hob
 go_enter Tryz.func31, Tryz.ntmps31
 go_wp2_with (first | ((with_reducible refine lst (by with_unfolding_all rfl) (wp_fbox hF0 (cs := (vlL k n ⟨t.toArray⟩ (.slice An nn cn) (.slice Ak nn ck))) rfl (by with_unfolding_all rfl) (by with_unfolding_all rfl) ?_)); intro w1 g1 hF1 hz1) | ((with_reducible refine lst (by with_unfolding_all rfl) (wp_falloc hF1 (cs := doc0) (z := .agg (List.toArray (doc0))) rfl (by kernel_rfl) (by with_unfolding_all rfl) ?_)); intro w2 g2 hF2 hz2) | ((with_reducible refine lst (by with_unfolding_all rfl) (wp_falloc hF2 (cs := doc0) (z := .agg (List.toArray (doc0))) rfl (by kernel_rfl) (by with_unfolding_all rfl) ?_)); intro w3 g3 hF3 hz3) | (with_reducible refine lst (by with_unfolding_all rfl) (wp_fld2 hF3 Tryz.underlying3 rfl (by with_unfolding_all exact ⟨_, rfl, rfl⟩) rfl ?_)) | (with_reducible refine lst (by with_unfolding_all rfl) (wp_fld2 hF3 Tryz.underlying74 rfl (by with_unfolding_all exact ⟨_, rfl, rfl⟩) rfl ?_)))
 have hg3 : w.heap.size ≤ g3 := by
  rcases hF3.fresh 0 _ rfl _ rfl with h | h
  ·exact h
  ·simp at h
 clear hF0 hF1 hF2
 go_loopg [5, 20] nn (fun g hv iv wr => ∃ (i : Nat) (d : MDoc) (h : MGot) (cd : List Value) (TE : List Ent), i ≤ nn ∧ Box (g = nn - i) ∧ iv = .int .i64 (i : Int) ∧ hv = .int .i64 (gotI h) ∧ Box (VDoc d cd TE) ∧ Box (J = mReadL d h (ns.drop i) (ks.drop i)) ∧ Fr [] w wr (.blk g3 31 cd :: .blk g2 31 doc0 :: .blk g1 76 (vlL k n ⟨t.toArray⟩ (.slice An nn cn) (.slice Ak nn ck)) :: TE))
 case atStart => exact ⟨0, .zero, ⟨false, false, false, false, false⟩, _, [], by omega, box rfl, rfl, rfl, box VDoc.zero, hJ, hF3⟩
 case round =>
  clear hF3 hJ
  obtain ⟨i, d, h, cd, TE, hi, hgi, rfl, rfl, hD, hJ, hF⟩ := hrel
  have hkk : Box (_ = nn - i) := hgi
  clear hgi
  have hrk' := hrk.below hF.below
  have hdl := box hD.out.len
  have hdo := box hD.out.ones
  obtain ⟨cf, eg, sj, nt, hC, hE, hS, hN, hcd⟩ := hD.out
  by_cases hlt : i < nn
  ·obtain ⟨u, hu⟩ : ∃ u, ks[i]? = some u := ⟨ks[i]'(by rw [← hnk.out]; exact hlt), by simp⟩
   obtain ⟨s, hs⟩ : ∃ s, ns[i]? = some s := ⟨ns[i]'(by rw [hnn.out]; exact hlt), by simp⟩
   obtain ⟨ci, hci, hvi⟩ := hvk.out.at hu
   have hstep := box (hJ.out.trans (mReadL_go hs hu))
   have hss : Box ((ns.map strv)[i]? = some (.string ⟨s.toArray⟩)) := box (by rw [List.getElem?_map, hs]; rfl)
   have hcil := box hvi.len
   have hcio := box (VRd.ones hvi)
   have hub := hkob.out u (List.mem_of_getElem? hu)
   subst hcd
   have hmem := box (fun w' (gk : Nat) (hF : Fr [] w w' (.blk gk 76 ci :: .blk g3 31 (docL d.media d.type cf eg sj d.has nt) :: .blk g2 31 doc0 :: .blk g1 76 (vlL k n ⟨t.toArray⟩ (.slice An nn cn) (.slice Ak nn ck)) :: TE)) => mmember_any g3 w.heap.size d cf eg sj nt TE s u ci w' (hF.blk (i := 1) rfl) hg3 hF.below.size hC hE hS hN (hM.on hF.below) (hvi.stay hF.below) hub)
   replace hci := box hci
   clear hu hs hJ hC hE hS hN hub hvi
   go_upto_region 8 with (first | (with_reducible refine lst (by with_unfolding_all rfl) (wp_indexAddr T_vals hrk' (by with_unfolding_all exact ⟨_, _, _, _, rfl, rfl, rfl⟩) (by omega) (by omega) ?_)) | (with_reducible refine lst (by with_unfolding_all rfl) (wp_loadA hrk' Tryz.underlying76 rfl (by with_unfolding_all exact ⟨_, rfl, rfl⟩) (ds := ci) (by rw [hcil.out]; kernel_rfl) (by rw [hcil.out]; with_unfolding_all exact hci.out) ?_)) | ((with_reducible refine lst (by with_unfolding_all rfl) (wp_falloc hF (cs := vl0) (z := .agg (List.toArray (vl0))) rfl (by kernel_rfl) (by with_unfolding_all rfl) ?_)); intro w22 g22 hF22 hz22) | ((with_reducible refine lst (by with_unfolding_all rfl) (wp_fstA0 hF22 (by with_unfolding_all exact ⟨_, _, rfl, rfl, rfl⟩) (by rw [hcil.out]; kernel_rfl) hcio.out (by rw [hcil.out, vlL_len]; decide) (spl_all (by rw [hcil.out, vlL_len])) ?_)); intro w23 hF23 hz23))
   replace hmem := box (fun w' hF => hmem.out w' g22 hF)
   have hFd := hF23.drew
   clear hF hF22 hF23
   refine wp_region_held (S := fun w' => w'.heap[g22]? = some (.cells (List.toArray ci) 76 (0, 0)) ∧ w'.heap[g1]? = some (.cells (List.toArray (vlL k n ⟨t.toArray⟩ (.slice An nn cn) (.slice Ak nn ck))) 76 (0, 0)) ∧ Rd w' (· < w.heap.size) An 1 nn (ns.map strv)) (by kernel_rfl) ?_
   change wpAnyH _ _ _ _ _ _ _ _ (World.drew _)
   refine tkp 0 ⟨hFd.blk (i := 0) rfl, hFd.blk (i := 3) rfl, hrn.below hFd.below⟩ ?_
   (try simp only [Act.put, List.setIfInBounds_toArray, List.set_cons_zero, List.set_cons_succ])
   refine tky 1 (y := yi_fld (by with_unfolding_all rfl) (fun _ h => h.2.1) Tryz.underlying48 rfl (by with_unfolding_all exact ⟨_, rfl, rfl⟩) rfl) (s := ⟨hFd.blk (i := 0) rfl, hFd.blk (i := 3) rfl, hrn.below hFd.below⟩) (h := ?_)
   (try simp only [Act.put, List.setIfInBounds_toArray, List.set_cons_zero, List.set_cons_succ])
   refine tkp 2 ⟨hFd.blk (i := 0) rfl, hFd.blk (i := 3) rfl, hrn.below hFd.below⟩ ?_
   (try simp only [Act.put, List.setIfInBounds_toArray, List.set_cons_zero, List.set_cons_succ])
   refine tky 3 (y := yi_ix (by with_unfolding_all rfl) T_strs (fun h => hrn.some_ h) (k := i) (by with_unfolding_all exact ⟨_, _, _, _, rfl, rfl, rfl⟩) rfl (by omega)) (s := ⟨hFd.blk (i := 0) rfl, hFd.blk (i := 3) rfl, hrn.below hFd.below⟩) (h := ?_)
   (try simp only [Act.put, List.setIfInBounds_toArray, List.set_cons_zero, List.set_cons_succ])
   refine tky 4 (y := yi_ld (by with_unfolding_all rfl) (j := i * 1) (fun _ h => h.2.2) Tryz.underlying9 rfl (by with_unfolding_all exact ⟨_, rfl, rfl⟩) (by rw [Nat.mul_one]; exact hss.out)) (s := ⟨hFd.blk (i := 0) rfl, hFd.blk (i := 3) rfl, hrn.below hFd.below⟩) (h := ?_)
   (try simp only [Act.put, List.setIfInBounds_toArray, List.set_cons_zero, List.set_cons_succ])
   refine tky 5 (y := yi_fldA (by with_unfolding_all rfl) (fun _ h => h.1) Tryz.underlying76 rfl (by with_unfolding_all exact ⟨_, rfl, rfl⟩) (ds := ci) (by rw [hcil.out]; kernel_rfl) (take_all _)) (s := ⟨hFd.blk (i := 0) rfl, hFd.blk (i := 3) rfl, hrn.below hFd.below⟩) (h := ?_)
   (try simp only [Act.put, List.setIfInBounds_toArray, List.set_cons_zero, List.set_cons_succ])
   refine rdy1 6 (fun K hK => ?_)
   refine stp (by with_unfolding_all rfl) (wp_call Tryz.func66 rfl (by with_unfolding_all rfl) (by with_unfolding_all rfl) (by with_unfolding_all rfl) (hmem.out _ hFd) ?_)
   rintro e w41 ⟨cs41, es41, b41, rfl, hl41, ho41, hv41, hok41⟩
   refine ⟨_, rfl, ?_⟩
   have hF41 := hFd.putG (i := 1) rfl hv41
   simp only [List.set_cons_zero, List.set_cons_succ, List.cons_append] at hF41
   refine hK.out _ _ (⟨hF41.blk (i := 0) rfl, hF41.blk (i := 3) rfl, hrn.below hF41.below⟩) (fun _ => ?_)
   clear hK K
   (try simp only [Act.put, List.setIfInBounds_toArray, List.set_cons_zero, List.set_cons_succ])
   refine tkp 7 ⟨hF41.blk (i := 0) rfl, hF41.blk (i := 3) rfl, hrn.below hF41.below⟩ ?_
   (try simp only [Act.put, List.setIfInBounds_toArray, List.set_cons_zero, List.set_cons_succ])
   refine tkp 8 ⟨hF41.blk (i := 0) rfl, hF41.blk (i := 3) rfl, hrn.below hF41.below⟩ ?_
   (try simp only [Act.put, List.setIfInBounds_toArray, List.set_cons_zero, List.set_cons_succ])
   refine tkp 9 ⟨hF41.blk (i := 0) rfl, hF41.blk (i := 3) rfl, hrn.below hF41.below⟩ ?_
   (try simp only [Act.put, List.setIfInBounds_toArray, List.set_cons_zero, List.set_cons_succ])
   refine tkp 10 ⟨hF41.blk (i := 0) rfl, hF41.blk (i := 3) rfl, hrn.below hF41.below⟩ ?_
   (try simp only [Act.put, List.setIfInBounds_toArray, List.set_cons_zero])
   refine tkp 11 ⟨hF41.blk (i := 0) rfl, hF41.blk (i := 3) rfl, hrn.below hF41.below⟩ ?_
   (try simp only [Act.put, List.setIfInBounds_toArray, List.set_cons_zero])
   refine wpAnyH_done (by kernel_rfl) ?_ _
   cases hm : rStep d s u with
   | error ee =>
    rw [hm] at hstep
    simp only [] at hstep
    simp only [mErr]
    replace ho41 := box ho41
    replace hl41 := box hl41
    clear hok41 hv41
    go_wp2_with (first | (with_reducible refine lst (by with_unfolding_all rfl) (wp_fbuild Tryz.underlying31 (z := .agg (List.toArray doc0)) (by kernel_rfl) (pl := docP) (by kernel_rfl) (cs := doc0) rfl (vs := []) (by with_unfolding_all rfl) (by with_unfolding_all rfl) ?_)) | ((with_reducible refine lst (by with_unfolding_all rfl) (wp_fstA2 hF41 (by with_unfolding_all exact ⟨_, _, rfl, rfl, rfl⟩) (by rw [doc0_len]; kernel_rfl) doc0_one (by first | exact Nat.le_of_eq (Nat.zero_add _) | (rw [doc0_len, doc0_len]; decide)) (spl_all (by first | rfl | (rw [doc0_len, doc0_len]))) ?_)); intro w60 hF60 hz60))
    exact bodyPost_ret (results_cellF2 rfl _ hF60 (i := 2) rfl rfl Tryz.underlying31 rfl (by rw [doc0_len]; kernel_rfl)) rfl (by
     unfold MRd
     rw [hstep.out]
     exact ⟨_, _, rfl, VDoc.zero, hF60.tail.tail.tail.tail⟩)
   | ok d' =>
    rw [hm] at hstep
    simp only [] at hstep
    simp only [mErr]
    obtain ⟨hb, hD'⟩ := hok41 d' hm
    have hor := got_or h s
    rw [← hb] at hor
    replace hor := box hor
    replace hb := box hb
    replace hD' := box hD'
    clear hv41 hok41 hl41 ho41
    go_wp2_with fail
    go_roundg (nn - (i + 1))
    case rel => exact ⟨i + 1, d', h.one s, cs41, TE ++ es41, by omega, box rfl, by go_num, congrArg (Value.int .i64) hor.out, hD', hstep, hF41.tail⟩
    case measure => have := hkk.out; omega
  ·have hend := hJ.out.trans (mReadL_end (by rw [← hnk.out]; omega))
   obtain rfl : nn = i := by omega
   subst hcd
   have hzl := box doc0_len
   by_cases hix : d.media = sIndex
   ·have e1 : (d.media == [97, 112, 112, 108, 105, 99, 97, 116, 105, 111, 110, 47, 118, 110, 100, 46, 111, 99, 105, 46, 105, 109, 97, 103, 101, 46, 105, 110, 100, 101, 120, 46, 118, 49, 43, 106, 115, 111, 110]) = true := by rw [beq_iff_eq]; exact hix
    have hw : mWhole d h = (h.v && (h.m && (!h.c && (!h.l && h.i)))) := if_pos hix
    have h19 := got_19 h
    rw [← hw] at h19
    replace hix := box hix
    cases hww : mWhole d h with
    | true =>
     rw [hww] at h19 hend
     rw [if_pos rfl] at hend
     replace h19 : ((gotI h : Int) != 19) = false := h19
     replace hend := box hend
     clear hw hww
     go_wp2_with (first | (with_reducible refine lst (by with_unfolding_all rfl) (wp_fld0 hF Tryz.underlying9 rfl (by with_unfolding_all exact ⟨_, rfl, rfl⟩) docL_m0 ?_)) | (with_reducible refine lst (by with_unfolding_all rfl) (wp_fldA0 hF Tryz.underlying31 rfl (by with_unfolding_all exact ⟨_, rfl, rfl⟩) (ds := (docL d.media d.type cf eg sj d.has nt)) (by rw [hdl.out]; kernel_rfl) (take_all _) ?_)) | ((with_reducible refine lst (by with_unfolding_all rfl) (wp_fstA1 hF (by with_unfolding_all exact ⟨_, _, rfl, rfl, rfl⟩) (by rw [hdl.out]; kernel_rfl) hdo.out (by rw [hdl.out, hzl.out]; decide) (spl_all (by rw [hdl.out, hzl.out])) ?_)); intro w60 hF60 hz60))
     exact bodyPost_ret (results_cellF2 rfl _ hF60 (i := 1) rfl rfl Tryz.underlying31 rfl (by rw [hdl.out]; kernel_rfl)) rfl (by
      unfold MRd
      rw [hend.out]
      exact ⟨_, _, rfl, hD.out, hF60.tail.tail.tail⟩)
    | false =>
     rw [hww] at h19 hend
     rw [if_neg (by decide)] at hend
     replace h19 : ((gotI h : Int) != 19) = true := h19
     replace hend := box hend
     clear hw hww
     go_wp2_with (first | (with_reducible refine lst (by with_unfolding_all rfl) (wp_fld0 hF Tryz.underlying9 rfl (by with_unfolding_all exact ⟨_, rfl, rfl⟩) docL_m0 ?_)) | (with_reducible refine lst (by with_unfolding_all rfl) (wp_fbuild Tryz.underlying31 (z := .agg (List.toArray doc0)) (by kernel_rfl) (pl := docP) (by kernel_rfl) (cs := doc0) rfl (vs := []) (by with_unfolding_all rfl) (by with_unfolding_all rfl) ?_)) | ((with_reducible refine lst (by with_unfolding_all rfl) (wp_fstA1 hF (by with_unfolding_all exact ⟨_, _, rfl, rfl, rfl⟩) (by rw [doc0_len]; kernel_rfl) doc0_one (by first | exact Nat.le_of_eq (Nat.zero_add _) | (rw [doc0_len, doc0_len]; decide)) (spl_all (by first | rfl | (rw [doc0_len, doc0_len]))) ?_)); intro w60 hF60 hz60))
     exact bodyPost_ret (results_cellF2 rfl _ hF60 (i := 1) rfl rfl Tryz.underlying31 rfl (by rw [doc0_len]; kernel_rfl)) rfl (by
      unfold MRd
      rw [hend.out]
      exact ⟨_, _, rfl, VDoc.zero, hF60.tail.tail.tail⟩)
   ·have e1 : (d.media == [97, 112, 112, 108, 105, 99, 97, 116, 105, 111, 110, 47, 118, 110, 100, 46, 111, 99, 105, 46, 105, 109, 97, 103, 101, 46, 105, 110, 100, 101, 120, 46, 118, 49, 43, 106, 115, 111, 110]) = false := by rw [beq_eq_false_iff_ne]; exact hix
    have hw : mWhole d h = (h.v && (h.m && (h.c && (h.l && !h.i)))) := if_neg hix
    have h19 := got_15 h
    rw [← hw] at h19
    replace hix := box hix
    cases hww : mWhole d h with
    | true =>
     rw [hww] at h19 hend
     rw [if_pos rfl] at hend
     replace h19 : ((gotI h : Int) != 15) = false := h19
     replace hend := box hend
     clear hw hww
     go_wp2_with (first | (with_reducible refine lst (by with_unfolding_all rfl) (wp_fld0 hF Tryz.underlying9 rfl (by with_unfolding_all exact ⟨_, rfl, rfl⟩) docL_m0 ?_)) | (with_reducible refine lst (by with_unfolding_all rfl) (wp_fldA0 hF Tryz.underlying31 rfl (by with_unfolding_all exact ⟨_, rfl, rfl⟩) (ds := (docL d.media d.type cf eg sj d.has nt)) (by rw [hdl.out]; kernel_rfl) (take_all _) ?_)) | ((with_reducible refine lst (by with_unfolding_all rfl) (wp_fstA1 hF (by with_unfolding_all exact ⟨_, _, rfl, rfl, rfl⟩) (by rw [hdl.out]; kernel_rfl) hdo.out (by rw [hdl.out, hzl.out]; decide) (spl_all (by rw [hdl.out, hzl.out])) ?_)); intro w60 hF60 hz60))
     exact bodyPost_ret (results_cellF2 rfl _ hF60 (i := 1) rfl rfl Tryz.underlying31 rfl (by rw [hdl.out]; kernel_rfl)) rfl (by
      unfold MRd
      rw [hend.out]
      exact ⟨_, _, rfl, hD.out, hF60.tail.tail.tail⟩)
    | false =>
     rw [hww] at h19 hend
     rw [if_neg (by decide)] at hend
     replace h19 : ((gotI h : Int) != 15) = true := h19
     replace hend := box hend
     clear hw hww
     go_wp2_with (first | (with_reducible refine lst (by with_unfolding_all rfl) (wp_fld0 hF Tryz.underlying9 rfl (by with_unfolding_all exact ⟨_, rfl, rfl⟩) docL_m0 ?_)) | (with_reducible refine lst (by with_unfolding_all rfl) (wp_fbuild Tryz.underlying31 (z := .agg (List.toArray doc0)) (by kernel_rfl) (pl := docP) (by kernel_rfl) (cs := doc0) rfl (vs := []) (by with_unfolding_all rfl) (by with_unfolding_all rfl) ?_)) | ((with_reducible refine lst (by with_unfolding_all rfl) (wp_fstA1 hF (by with_unfolding_all exact ⟨_, _, rfl, rfl, rfl⟩) (by rw [doc0_len]; kernel_rfl) doc0_one (by first | exact Nat.le_of_eq (Nat.zero_add _) | (rw [doc0_len, doc0_len]; decide)) (spl_all (by first | rfl | (rw [doc0_len, doc0_len]))) ?_)); intro w60 hF60 hz60))
     exact bodyPost_ret (results_cellF2 rfl _ hF60 (i := 1) rfl rfl Tryz.underlying31 rfl (by rw [doc0_len]; kernel_rfl)) rfl (by
      unfold MRd
      rw [hend.out]
      exact ⟨_, _, rfl, VDoc.zero, hF60.tail.tail.tail⟩)
end Go.Proofs.YtlhicfpmlncomaaGreatDoor
