/-
 Layer 8, plain law: the document's way to read a value goes as the program's. No program is named here.
 Layer 8: the program's member, walked.
-/
import Derived.Test.YtlhicfpmlncomaaGreatDoorH03
import Derived.Test.YtlhicfpmlncomaaGreatDoorH09
import Derived.Test.YtlhicfpmlncomaaGreatDoorH02
namespace Go.Proofs.YtlhicfpmlncomaaGreatDoor
set_option linter.unusedSimpArgs false
set_option linter.unusedVariables false
/-- A descriptor, where what it must have is counted. -/
def rdStep (d : MDesc) (t : Nat) (n : List UInt8) (k : JV) : MR (MDesc × Nat) :=
 if n = kMedia then (match mMedia k with | .ok s => .ok ({ d with media := s }, t + 1) | .error e => .error e)
 else if n = kDigest then (if k.kind = 4 then (match dgP k.text with | some x => .ok ({ d with dig := x }, t + 1) | none => .error 20) else .error 80)
 else if n = kSize then (if k.kind = 3 then (if k.num < 0 ∨ 1099511627776 < k.num then .error 81 else .ok ({ d with size := k.num }, t + 1)) else .error 80)
 else if n = kNotes then (match mNotes k with | .ok l => .ok ({ d with notes := l }, t) | .error e => .error e)
 else .error 80
def rDescL : MDesc → Nat → List (List UInt8) → List JV → MR MDesc
 | d, t, n :: ns, k :: ks => match rdStep d t n k with
  | .ok (d', t') => rDescL d' t' ns ks
  | .error e => .error e
 | d, t, _, _ => if t < 3 then .error 80 else .ok d
def MHad.count (h : MHad) : Nat := h.a.toNat + h.b.toNat + h.c.toNat
theorem MHad.all {h : MHad} : (h.a = true ∧ h.b = true ∧ h.c = true) ↔ ¬ h.count < 3 := by
 obtain ⟨a, b, c⟩ := h
 cases a <;> cases b <;> cases c <;> simp [MHad.count]
theorem rDescL_eq : ∀ (ns : List (List UInt8)) (ks : List JV) (d : MDesc) (h : MHad), ns.Nodup → (h.a = true → kMedia ∉ ns) → (h.b = true → kDigest ∉ ns) → (h.c = true → kSize ∉ ns) → rDescL d h.count ns ks = mDescL d h ns ks
 | [], ks, d, h, _, _, _, _ => by
  rw [rDescL, mDescL]
  ·by_cases hc : h.count < 3
   ·rw [if_pos hc, if_neg (fun hh => (MHad.all.1 hh) hc)]
   ·rw [if_neg hc, if_pos (MHad.all.2 hc)]
  all_goals (intros; rename_i h1 h2; cases h1)
 | n :: ns, [], d, h, _, _, _, _ => by
  rw [rDescL, mDescL]
  ·by_cases hc : h.count < 3
   ·rw [if_pos hc, if_neg (fun hh => (MHad.all.1 hh) hc)]
   ·rw [if_neg hc, if_pos (MHad.all.2 hc)]
  all_goals (intros; rename_i h1 h2; cases h2)
 | n :: ns, k :: ks, d, h, hn, ha, hb, hc => by
  obtain ⟨hn1, hn2⟩ := List.nodup_cons.1 hn
  have ha' : h.a = true → kMedia ∉ ns := fun hh hm => ha hh (List.mem_cons_of_mem _ hm)
  have hb' : h.b = true → kDigest ∉ ns := fun hh hm => hb hh (List.mem_cons_of_mem _ hm)
  have hc' : h.c = true → kSize ∉ ns := fun hh hm => hc hh (List.mem_cons_of_mem _ hm)
  rw [rDescL, mDescL]
  unfold rdStep mdStep
  by_cases h1 : n = kMedia
  ·rw [if_pos h1, if_pos h1]
   have hf : h.a = false := by
    cases hh : h.a with
    | false => rfl
    | true => exact absurd (h1 ▸ List.mem_cons_self) (ha hh)
   cases mMedia k with
   | error e => rfl
   | ok s =>
    simp only []
    rw [show h.count + 1 = ({ h with a := true } : MHad).count by unfold MHad.count; rw [hf]; simp; omega]
    exact rDescL_eq ns ks _ _ hn2 (fun _ => h1 ▸ hn1) hb' hc'
  rw [if_neg h1, if_neg h1]
  by_cases h2 : n = kDigest
  ·rw [if_pos h2, if_pos h2]
   have hf : h.b = false := by
    cases hh : h.b with
    | false => rfl
    | true => exact absurd (h2 ▸ List.mem_cons_self) (hb hh)
   by_cases hk : k.kind = 4
   ·rw [if_pos hk, if_pos hk]
    cases dgP k.text with
    | none => rfl
    | some x =>
     simp only []
     rw [show h.count + 1 = ({ h with b := true } : MHad).count by unfold MHad.count; rw [hf]; simp; omega]
     exact rDescL_eq ns ks _ _ hn2 ha' (fun _ => h2 ▸ hn1) hc'
   ·rw [if_neg hk, if_neg hk]
  rw [if_neg h2, if_neg h2]
  by_cases h3 : n = kSize
  ·rw [if_pos h3, if_pos h3]
   have hf : h.c = false := by
    cases hh : h.c with
    | false => rfl
    | true => exact absurd (h3 ▸ List.mem_cons_self) (hc hh)
   by_cases hk : k.kind = 3
   ·rw [if_pos hk, if_pos hk]
    by_cases hz : k.num < 0 ∨ 1099511627776 < k.num
    ·rw [if_pos hz, if_pos hz]
    ·rw [if_neg hz, if_neg hz]
     simp only []
     rw [show h.count + 1 = ({ h with c := true } : MHad).count by unfold MHad.count; rw [hf]; simp]
     exact rDescL_eq ns ks _ _ hn2 ha' hb' (fun _ => h3 ▸ hn1)
   ·rw [if_neg hk, if_neg hk]
  rw [if_neg h3, if_neg h3]
  by_cases h4 : n = kNotes
  ·rw [if_pos h4, if_pos h4]
   cases mNotes k with
   | error e => rfl
   | ok l => exact rDescL_eq ns ks _ _ hn2 ha' hb' hc'
  ·rw [if_neg h4, if_neg h4]
/-- A document takes a member in, and notes nothing else. -/
def rStep (d : MDoc) (n : List UInt8) (k : JV) : MR MDoc := match mStep d ⟨false, false, false, false, false⟩ n k with
 | .ok x => .ok x.1
 | .error e => .error e
def rReadL : MDoc → List (List UInt8) → List JV → MR MDoc
 | d, n :: ns, k :: ks => match rStep d n k with
  | .ok d' => rReadL d' ns ks
  | .error e => .error e
 | d, _, _ => .ok d
/-- Are the members there that must be, and no others? -/
def rWhole (d : MDoc) (names : List (List UInt8)) : Prop :=
 kVersion ∈ names ∧ kMedia ∈ names ∧ (kConfig ∈ names ↔ d.media = sImage) ∧ (kLayers ∈ names ↔ d.media = sImage) ∧ (kManifests ∈ names ↔ d.media ≠ sImage)
instance (d : MDoc) (names : List (List UInt8)) : Decidable (rWhole d names) := by unfold rWhole; exact inferInstance
def rRead (v : JV) : MR MDoc := if v.kind = 6 then (match rReadL .zero v.names v.kids with
 | .ok d => if rWhole d v.names then .ok d else .error 80
 | .error e => .error e) else .error 80
/-- What a document has, with further members. -/
def MGot.more (h : MGot) (ns : List (List UInt8)) : MGot := ⟨h.v || decide (kVersion ∈ ns), h.m || decide (kMedia ∈ ns), h.c || decide (kConfig ∈ ns), h.l || decide (kLayers ∈ ns), h.i || decide (kManifests ∈ ns)⟩
theorem MGot.more_nil (h : MGot) : h.more [] = h := by simp [MGot.more]
/-- One member more. -/
def MGot.one (h : MGot) (n : List UInt8) : MGot := ⟨h.v || decide (n = kVersion), h.m || decide (n = kMedia), h.c || decide (n = kConfig), h.l || decide (n = kLayers), h.i || decide (n = kManifests)⟩
theorem MGot.more_cons (h : MGot) (n : List UInt8) (ns : List (List UInt8)) : h.more (n :: ns) = (h.one n).more ns := by
 unfold MGot.more MGot.one
 simp only [List.mem_cons, Bool.decide_or, Bool.or_assoc]
 simp only [eq_comm]
theorem mStep_one (d : MDoc) (h : MGot) (n : List UInt8) (k : JV) : mStep d h n k = match rStep d n k with
  | .ok d' => .ok (d', h.one n)
  | .error e => .error e := by
 unfold rStep mStep MGot.one
 by_cases h1 : n = kVersion
 ·subst h1
  rw [if_pos rfl, if_pos rfl]
  split <;> simp [kVersion, kMedia, kConfig, kLayers, kManifests]
 rw [if_neg h1, if_neg h1]
 by_cases h2 : n = kMedia
 ·subst h2
  rw [if_pos rfl, if_pos rfl]
  split
  ·split <;> simp [kVersion, kMedia, kConfig, kLayers, kManifests]
  ·rfl
 rw [if_neg h2, if_neg h2]
 by_cases h3 : n = kType
 ·subst h3
  rw [if_pos rfl, if_pos rfl]
  cases mMedia k <;> simp [kVersion, kMedia, kConfig, kLayers, kManifests, kType]
 rw [if_neg h3, if_neg h3]
 by_cases h4 : n = kConfig
 ·subst h4
  rw [if_pos rfl, if_pos rfl]
  cases mDesc k <;> simp [kVersion, kMedia, kConfig, kLayers, kManifests]
 rw [if_neg h4, if_neg h4]
 by_cases h5 : n = kLayers
 ·subst h5
  rw [if_pos rfl, if_pos rfl]
  cases mEdges k <;> simp [kVersion, kMedia, kConfig, kLayers, kManifests]
 rw [if_neg h5, if_neg h5]
 by_cases h6 : n = kManifests
 ·subst h6
  rw [if_pos rfl, if_pos rfl]
  cases mEdges k <;> simp [kVersion, kMedia, kConfig, kLayers, kManifests]
 rw [if_neg h6, if_neg h6]
 by_cases h7 : n = kSubject
 ·subst h7
  rw [if_pos rfl, if_pos rfl]
  cases mDesc k <;> simp [kVersion, kMedia, kConfig, kLayers, kManifests, kSubject]
 rw [if_neg h7, if_neg h7]
 by_cases h8 : n = kNotes
 ·subst h8
  rw [if_pos rfl, if_pos rfl]
  cases mNotes k <;> simp [kVersion, kMedia, kConfig, kLayers, kManifests, kNotes]
 rw [if_neg h8, if_neg h8]
theorem mReadL_eq : ∀ (ns : List (List UInt8)) (ks : List JV) (d : MDoc) (h : MGot), ns.length = ks.length → mReadL d h ns ks = match rReadL d ns ks with
  | .ok d' => if mWhole d' (h.more ns) = true then .ok d' else .error 80
  | .error e => .error e
 | [], [], d, h, _ => by
  rw [mReadL, rReadL]
  ·simp only [MGot.more_nil]
  all_goals (intros; rename_i h1 h2; cases h1)
 | n :: ns, k :: ks, d, h, hl => by
  rw [mReadL, rReadL, mStep_one, MGot.more_cons]
  cases rStep d n k with
  | error e => rfl
  | ok d' => exact mReadL_eq ns ks d' (h.one n) (by simpa using hl)
 | [], k :: ks, _, _, hl => by simp at hl
 | n :: ns, [], _, _, hl => by simp at hl
theorem rStep_media {d d' : MDoc} {n : List UInt8} {k : JV} (h : rStep d n k = .ok d') : (n = kMedia → d'.media = sImage ∨ d'.media = sIndex) ∧ (n ≠ kMedia → d'.media = d.media) := by
 unfold rStep mStep at h
 by_cases h1 : n = kVersion
 ·rw [if_pos h1] at h
  refine ⟨fun h2 => absurd (h1.symm.trans h2) (by decide), fun _ => ?_⟩
  split at h
  ·rename_i h2; split at h2 <;> cases h2; cases h; rfl
  ·cases h
 rw [if_neg h1] at h
 by_cases h2 : n = kMedia
 ·rw [if_pos h2] at h
  refine ⟨fun _ => ?_, fun h3 => absurd h2 h3⟩
  by_cases h3 : k.kind = 4
  ·rw [if_pos h3] at h
   by_cases h4 : k.text = sImage ∨ k.text = sIndex
   ·rw [if_pos h4] at h; cases h; exact h4
   ·rw [if_neg h4] at h; cases h
  ·rw [if_neg h3] at h; cases h
 rw [if_neg h2] at h
 refine ⟨fun h3 => absurd h3 h2, fun _ => ?_⟩
 by_cases h3 : n = kType
 ·rw [if_pos h3] at h; cases hm : mMedia k with
  | error e => rw [hm] at h; cases h
  | ok s => rw [hm] at h; cases h; rfl
 rw [if_neg h3] at h
 by_cases h4 : n = kConfig
 ·rw [if_pos h4] at h; cases hm : mDesc k with
  | error e => rw [hm] at h; cases h
  | ok s => rw [hm] at h; cases h; rfl
 rw [if_neg h4] at h
 by_cases h5 : n = kLayers
 ·rw [if_pos h5] at h; cases hm : mEdges k with
  | error e => rw [hm] at h; cases h
  | ok s => rw [hm] at h; cases h; rfl
 rw [if_neg h5] at h
 by_cases h6 : n = kManifests
 ·rw [if_pos h6] at h; cases hm : mEdges k with
  | error e => rw [hm] at h; cases h
  | ok s => rw [hm] at h; cases h; rfl
 rw [if_neg h6] at h
 by_cases h7 : n = kSubject
 ·rw [if_pos h7] at h; cases hm : mDesc k with
  | error e => rw [hm] at h; cases h
  | ok s => rw [hm] at h; cases h; rfl
 rw [if_neg h7] at h
 by_cases h8 : n = kNotes
 ·rw [if_pos h8] at h; cases hm : mNotes k with
  | error e => rw [hm] at h; cases h
  | ok s => rw [hm] at h; cases h; rfl
 rw [if_neg h8] at h
 cases h
theorem rReadL_media : ∀ (ns : List (List UInt8)) (ks : List JV) (d d' : MDoc), ns.length = ks.length → rReadL d ns ks = .ok d' → (kMedia ∈ ns ∨ d.media = sImage ∨ d.media = sIndex → d'.media = sImage ∨ d'.media = sIndex)
 | [], [], d, d', _, h => fun hm => by
  rw [rReadL] at h
  ·cases h; exact hm.resolve_left (by simp)
  all_goals (intros; rename_i h1 h2; cases h1)
 | n :: ns, k :: ks, d, d', hl, h => fun hm => by
  rw [rReadL] at h
  cases hs : rStep d n k with
  | error e => rw [hs] at h; cases h
  | ok d1 =>
   rw [hs] at h
   have hm1 := rStep_media hs
   refine rReadL_media ns ks d1 d' (by simpa using hl) h ?_
   by_cases hn : n = kMedia
   ·exact .inr (hm1.1 hn)
   ·rw [hm1.2 hn]
    rcases hm with hm | hm
    ·rcases List.mem_cons.1 hm with hm | hm
     ·exact absurd hm.symm hn
     ·exact .inl hm
    ·exact .inr hm
 | [], k :: ks, _, _, hl, _ => by simp at hl
 | n :: ns, [], _, _, hl, _ => by simp at hl
theorem sImage_ne : sImage ≠ sIndex := by decide
/-- The two readings are one. -/
theorem rRead_eq {v : JV} (hl : v.kind = 6 → v.names.length = v.kids.length) : rRead v = mRead v := by
 unfold rRead mRead
 by_cases hk : v.kind = 6
 ·rw [if_pos hk, if_pos hk, mReadL_eq _ _ _ _ (hl hk)]
  cases hr : rReadL .zero v.names v.kids with
  | error e => rfl
  | ok d =>
   have hm := rReadL_media _ _ _ _ (hl hk) hr
   simp only []
   have : rWhole d v.names ↔ mWhole d (MGot.more ⟨false, false, false, false, false⟩ v.names) = true := by
    unfold rWhole mWhole MGot.more
    by_cases h1 : d.media = sIndex
    ·have h2 : ¬ d.media = sImage := fun h => sImage_ne (h.symm.trans h1)
     rw [if_pos h1]
     simp [h2]
    ·rw [if_neg h1]
     by_cases h0 : kMedia ∈ v.names
     ·have h2 := (hm (.inl h0)).resolve_right h1
      simp [h2]
     ·simp [h0]
   by_cases hw : rWhole d v.names
   ·rw [if_pos hw, if_pos (this.1 hw)]
   ·rw [if_neg hw, if_neg (fun h => hw (this.2 h))]
 ·rw [if_neg hk, if_neg hk]
end Go.Proofs.YtlhicfpmlncomaaGreatDoor

namespace Go.Proofs.YtlhicfpmlncomaaGreatDoor
open Go.RowKit
set_option linter.unusedSimpArgs false
set_option linter.unusedVariables false
/-- The library's variable holds a number, whatever is made above a place. -/
def MaxAt (B : Nat) (w : World) : Prop := ∀ w', Below B w w' → MaxW w'
theorem MaxAt.on {B : Nat} {w w' : World} (h : MaxAt B w) (hb : Below B w w') : MaxAt B w' := fun w'' h2 => h w'' (hb.trans h2)
theorem MaxAt.now {B : Nat} {w : World} (h : MaxAt B w) : MaxW w := h w (Below.refl _ _)
theorem VRd.onB {w w' : World} {B : Nat} {v : JV} {cs : List Value} (h : VRd w (· < B) v cs) (hb : Below B w w') (hB : B ≤ w'.heap.size) : VRd w' (· < w'.heap.size) v cs :=
 VRd.keep (fun _ hk => Nat.lt_of_lt_of_le hk hB) (fun k hk => hb.block k hk) v h
/-- What a member counts for. -/
def gotB (s : List UInt8) : Int := if s = kVersion then 1 else if s = kMedia then 2 else if s = kConfig then 4 else if s = kLayers then 8 else if s = kManifests then 16 else 0
def gotI (h : MGot) : Int := (if h.v = true then 1 else 0) + (if h.m = true then 2 else 0) + (if h.c = true then 4 else 0) + (if h.l = true then 8 else 0) + (if h.i = true then 16 else 0)
theorem got_or (h : MGot) (s : List UInt8) : bits BinOp.or IntKind.i64 (gotI h) (gotB s) = gotI (h.one s) := by
 unfold gotB
 obtain ⟨a, b, c, d, e⟩ := h
 by_cases h1 : s = kVersion
 ·subst h1; rw [if_pos rfl]; cases a <;> cases b <;> cases c <;> cases d <;> cases e <;> rfl
 rw [if_neg h1]
 by_cases h2 : s = kMedia
 ·subst h2; rw [if_pos rfl]; cases a <;> cases b <;> cases c <;> cases d <;> cases e <;> rfl
 rw [if_neg h2]
 by_cases h3 : s = kConfig
 ·subst h3; rw [if_pos rfl]; cases a <;> cases b <;> cases c <;> cases d <;> cases e <;> rfl
 rw [if_neg h3]
 by_cases h4 : s = kLayers
 ·subst h4; rw [if_pos rfl]; cases a <;> cases b <;> cases c <;> cases d <;> cases e <;> rfl
 rw [if_neg h4]
 by_cases h5 : s = kManifests
 ·subst h5; rw [if_pos rfl]; cases a <;> cases b <;> cases c <;> cases d <;> cases e <;> rfl
 rw [if_neg h5]
 unfold MGot.one
 simp only [h1, h2, h3, h4, h5, decide_false, Bool.or_false]
 cases a <;> cases b <;> cases c <;> cases d <;> cases e <;> rfl
theorem rStep_v1 {d : MDoc} {s : List UInt8} {v : JV} (h0 : s = kVersion) (h : v.kind = 3 ∧ v.num = 2) : rStep d s v = .ok d := by unfold rStep mStep; rw [if_pos h0, if_pos h]
theorem rStep_v0 {d : MDoc} {s : List UInt8} {v : JV} (h0 : s = kVersion) (h : ¬ (v.kind = 3 ∧ v.num = 2)) : rStep d s v = .error 80 := by unfold rStep mStep; rw [if_pos h0, if_neg h]
theorem rStep_m2 {d : MDoc} {s : List UInt8} {v : JV} (h0 : ¬ s = kVersion) (h1 : s = kMedia) (h : v.kind = 4) (hh : v.text = sImage ∨ v.text = sIndex) : rStep d s v = .ok { d with media := v.text } := by unfold rStep mStep; rw [if_neg h0, if_pos h1, if_pos h, if_pos hh]
theorem rStep_m1 {d : MDoc} {s : List UInt8} {v : JV} (h0 : ¬ s = kVersion) (h1 : s = kMedia) (h : v.kind = 4) (hh : ¬ (v.text = sImage ∨ v.text = sIndex)) : rStep d s v = .error 72 := by unfold rStep mStep; rw [if_neg h0, if_pos h1, if_pos h, if_neg hh]
theorem rStep_m0 {d : MDoc} {s : List UInt8} {v : JV} (h0 : ¬ s = kVersion) (h1 : s = kMedia) (h : ¬ v.kind = 4) : rStep d s v = .error 80 := by unfold rStep mStep; rw [if_neg h0, if_pos h1, if_neg h]
/-- A member is taken in. -/
def MMem (w : World) (g : Nat) (s : List UInt8) (es0 : List Ent) (r : MR MDoc) (e : Ending) (w' : World) : Prop :=
 ∃ cs' es b, e = .returned (.tuple #[.int .i64 b, mErr r]) ∧ cs'.length = 75 ∧ (∀ u ∈ cs', u.oneCell' = true) ∧ Fr [g] w w' (.blk g 31 cs' :: es) ∧ ∀ d', r = .ok d' → b = gotB s ∧ VDoc d' cs' (es0 ++ es)
set_option maxRecDepth 20000 in
set_option maxHeartbeats 12800000 in
theorem mmember_any (g B : Nat) (d : MDoc) (cf : List Value) (eg : Value) (sj : List Value) (nt : Value) (es0 : List Ent) (s : List UInt8) (v : JV) (cs : List Value) (w : World)
  (hh : w.heap[g]? = some (.cells (docL d.media d.type cf eg sj d.has nt).toArray 31 (0, 0))) (hg : B ≤ g) (hB : B ≤ w.heap.size) (hC : VD d.config cf es0) (hE : VE d.edges eg es0) (hS : VD d.subject sj es0) (hN : VN d.notes nt es0)
  (hM : MaxAt B w) (hv : VRd w (· < B) v cs) (hob : JOb v) :
  Calls Tryz.prog 66 #[.pointer (some ⟨g, 0, none⟩), .string ⟨s.toArray⟩, .agg cs.toArray] w (MMem w g s es0 (rStep d s v)) := by
 have hF0 := Fr.one hh
 have hcl := hC.len
 have hsl := hS.len
 have hco := hC.ones
 have hso := hS.ones
 have hsz := hob.small.1
 clear hh
 obtain ⟨k, n, t, ns, ks⟩ := v
 have hv0 := hv
 rw [VRd] at hv
 obtain ⟨An, nn, cn, Ak, nk, ck, xs, hcn, hck, rfl, hrn, hrk, hvk⟩ := hv
 clear hrn hrk hvk
 by_cases h0 : s = kVersion
 ·skip
  have hrA : Box (k = 3 ∧ n = 2 → rStep d s (.mk k n t ns ks) = .ok d) := box (fun h => rStep_v1 (v := .mk k n t ns ks) h0 h)
  have hrB : Box (¬ (k = 3 ∧ n = 2) → rStep d s (.mk k n t ns ks) = .error 80) := box (fun h => rStep_v0 (v := .mk k n t ns ks) h0 h)
  have hsq : s = [115, 99, 104, 101, 109, 97, 86, 101, 114, 115, 105, 111, 110] := h0
  subst hsq
  clear h0
  by_cases hk3 : k = 3
  ·have hq3 : ((k : Int) != 3) = false := by rw [hk3]; rfl
   by_cases hn2 : n = 2
   ·have hr := box (hrA.out ⟨hk3, hn2⟩)
    have hq2 : ((n : Int) != 2) = false := by rw [hn2]; rfl
    replace hk3 := box hk3
    replace hn2 := box hn2
    go_enter Tryz.func66, Tryz.ntmps66
    go_wp2_with (first | ((with_reducible refine lst (by with_unfolding_all rfl) (wp_fbox hF0 (cs := (vlL k n ⟨t.toArray⟩ (.slice An nn cn) (.slice Ak nk ck))) rfl (by with_unfolding_all rfl) (by with_unfolding_all rfl) ?_)); intro w1 g1 hF1 hz1) | (with_reducible refine lst (by with_unfolding_all rfl) (wp_fld0 hF1 Tryz.underlying3 rfl (by with_unfolding_all exact ⟨_, rfl, rfl⟩) rfl ?_)) | (with_reducible refine lst (by with_unfolding_all rfl) (wp_fldA0 hF1 Tryz.underlying76 rfl (by with_unfolding_all exact ⟨_, rfl, rfl⟩) (ds := (vlL k n ⟨t.toArray⟩ (.slice An nn cn) (.slice Ak nk ck))) (by rw [vlL_len]; kernel_rfl) (take_all _) ?_)))
    go_ret2
    unfold MMem
    rw [hr.out]
    exact ⟨_, [], _, rfl, docL_len hcl hsl, docL_one hco hso hE.one hN.one, hF1.tail, fun d' h => by injection h with h; subst h; exact ⟨rfl, ⟨cf, eg, sj, nt, hC.mono (fun _ h => List.mem_append_left _ h), hE.mono (fun _ h => List.mem_append_left _ h), hS.mono (fun _ h => List.mem_append_left _ h), hN.mono (fun _ h => List.mem_append_left _ h), rfl⟩⟩⟩
   ·have hr := box (hrB.out (fun h => hn2 h.2))
    have hq2 : ((n : Int) != 2) = true := by rw [bne_iff_ne]; exact hn2
    replace hk3 := box hk3
    replace hn2 := box hn2
    go_enter Tryz.func66, Tryz.ntmps66
    go_wp2_with (first | ((with_reducible refine lst (by with_unfolding_all rfl) (wp_fbox hF0 (cs := (vlL k n ⟨t.toArray⟩ (.slice An nn cn) (.slice Ak nk ck))) rfl (by with_unfolding_all rfl) (by with_unfolding_all rfl) ?_)); intro w1 g1 hF1 hz1) | (with_reducible refine lst (by with_unfolding_all rfl) (wp_fld0 hF1 Tryz.underlying3 rfl (by with_unfolding_all exact ⟨_, rfl, rfl⟩) rfl ?_)) | (with_reducible refine lst (by with_unfolding_all rfl) (wp_fldA0 hF1 Tryz.underlying76 rfl (by with_unfolding_all exact ⟨_, rfl, rfl⟩) (ds := (vlL k n ⟨t.toArray⟩ (.slice An nn cn) (.slice Ak nk ck))) (by rw [vlL_len]; kernel_rfl) (take_all _) ?_)))
    go_ret2
    unfold MMem
    rw [hr.out]
    exact ⟨_, [], _, rfl, docL_len hcl hsl, docL_one hco hso hE.one hN.one, hF1.tail, fun d' h => by cases h⟩
  ·have hr := box (hrB.out (fun h => hk3 h.1))
   have hq3 : ((k : Int) != 3) = true := by rw [bne_iff_ne]; exact hk3
   replace hk3 := box hk3
   go_enter Tryz.func66, Tryz.ntmps66
   go_wp2_with (first | ((with_reducible refine lst (by with_unfolding_all rfl) (wp_fbox hF0 (cs := (vlL k n ⟨t.toArray⟩ (.slice An nn cn) (.slice Ak nk ck))) rfl (by with_unfolding_all rfl) (by with_unfolding_all rfl) ?_)); intro w1 g1 hF1 hz1) | (with_reducible refine lst (by with_unfolding_all rfl) (wp_fld0 hF1 Tryz.underlying3 rfl (by with_unfolding_all exact ⟨_, rfl, rfl⟩) rfl ?_)) | (with_reducible refine lst (by with_unfolding_all rfl) (wp_fldA0 hF1 Tryz.underlying76 rfl (by with_unfolding_all exact ⟨_, rfl, rfl⟩) (ds := (vlL k n ⟨t.toArray⟩ (.slice An nn cn) (.slice Ak nk ck))) (by rw [vlL_len]; kernel_rfl) (take_all _) ?_)))
   go_ret2
   unfold MMem
   rw [hr.out]
   exact ⟨_, [], _, rfl, docL_len hcl hsl, docL_one hco hso hE.one hN.one, hF1.tail, fun d' h => by cases h⟩
 have n0 : (s == [115, 99, 104, 101, 109, 97, 86, 101, 114, 115, 105, 111, 110]) = false := by rw [beq_eq_false_iff_ne]; exact h0
 by_cases h1 : s = kMedia
 ·skip
  have hrA : Box (k = 4 → (t = sImage ∨ t = sIndex) → rStep d s (.mk k n t ns ks) = .ok { d with media := t }) := box (fun h hh => rStep_m2 (v := .mk k n t ns ks) h0 h1 h hh)
  have hrB : Box (k = 4 → ¬ (t = sImage ∨ t = sIndex) → rStep d s (.mk k n t ns ks) = .error 72) := box (fun h hh => rStep_m1 (v := .mk k n t ns ks) h0 h1 h hh)
  have hrC : Box (¬ k = 4 → rStep d s (.mk k n t ns ks) = .error 80) := box (fun h => rStep_m0 (v := .mk k n t ns ks) h0 h1 h)
  have hsq : s = [109, 101, 100, 105, 97, 84, 121, 112, 101] := h1
  subst hsq
  clear h0 h1 n0
  have htx := box (fun w' hb hB' => mtext_any (.mk k n t ns ks) _ w' _ (hv0.onB (w' := w') hb hB'))
  by_cases hk4 : k = 4
  ·rw [show mText (.mk k n t ns ks) = .ok t from if_pos hk4] at htx
   by_cases hi : t = sImage
   ·have hr := box (hrA.out hk4 (.inl hi))
    have e1 : (t == [97, 112, 112, 108, 105, 99, 97, 116, 105, 111, 110, 47, 118, 110, 100, 46, 111, 99, 105, 46, 105, 109, 97, 103, 101, 46, 109, 97, 110, 105, 102, 101, 115, 116, 46, 118, 49, 43, 106, 115, 111, 110]) = true := by rw [beq_iff_eq]; exact hi
    have e2 : (t != [97, 112, 112, 108, 105, 99, 97, 116, 105, 111, 110, 47, 118, 110, 100, 46, 111, 99, 105, 46, 105, 109, 97, 103, 101, 46, 109, 97, 110, 105, 102, 101, 115, 116, 46, 118, 49, 43, 106, 115, 111, 110]) = false := by rw [bne, e1]; rfl
    have e3 : (t == [97, 112, 112, 108, 105, 99, 97, 116, 105, 111, 110, 47, 118, 110, 100, 46, 111, 99, 105, 46, 105, 109, 97, 103, 101, 46, 105, 110, 100, 101, 120, 46, 118, 49, 43, 106, 115, 111, 110]) = false := by rw [beq_eq_false_iff_ne]; exact (fun h => sImage_ne (hi.symm.trans h))
    have e4 : (t != [97, 112, 112, 108, 105, 99, 97, 116, 105, 111, 110, 47, 118, 110, 100, 46, 111, 99, 105, 46, 105, 109, 97, 103, 101, 46, 105, 110, 100, 101, 120, 46, 118, 49, 43, 106, 115, 111, 110]) = true := by rw [bne, e3]; rfl
    replace hi := box hi
    replace hk4 := box hk4
    go_enter Tryz.func66, Tryz.ntmps66
    go_wp2_with (first | ((with_reducible refine lst (by with_unfolding_all rfl) (wp_fbox hF0 (cs := (vlL k n ⟨t.toArray⟩ (.slice An nn cn) (.slice Ak nk ck))) rfl (by with_unfolding_all rfl) (by with_unfolding_all rfl) ?_)); intro w1 g1 hF1 hz1) | (with_reducible refine lst (by with_unfolding_all rfl) (wp_fld0 hF1 Tryz.underlying3 rfl (by with_unfolding_all exact ⟨_, rfl, rfl⟩) rfl ?_)) | (with_reducible refine lst (by with_unfolding_all rfl) (wp_fldA0 hF1 Tryz.underlying76 rfl (by with_unfolding_all exact ⟨_, rfl, rfl⟩) (ds := (vlL k n ⟨t.toArray⟩ (.slice An nn cn) (.slice Ak nk ck))) (by rw [vlL_len]; kernel_rfl) (take_all _) ?_)))
    refine (htx.out _ (hF1.belowG hg hB) (Nat.le_trans hB hF1.size)).mono ?_
    rintro e w2 ⟨rfl, hb2⟩
    have hF2 := hF1.call hb2
    simp only [mStr, mErr, strv]
    go_wp2_with (first | ((with_reducible refine lst (by with_unfolding_all rfl) (wp_fst1 hF2 (by with_unfolding_all exact ⟨_, _, rfl, rfl, rfl⟩) (by kernel_rfl) rfl rfl (by rw [docL_len hcl hsl]; decide) (docL_0s (m' := t)) ?_)); intro w3 hF3 hz3) | (with_reducible refine lst (by with_unfolding_all rfl) (wp_fld1 hF3 Tryz.underlying9 rfl (by with_unfolding_all exact ⟨_, rfl, rfl⟩) docL_m0 ?_)))
    go_ret2
    unfold MMem
    rw [hr.out]
    exact ⟨_, [], _, rfl, docL_len hcl hsl, docL_one hco hso hE.one hN.one, hF3.tail, fun d' h => by injection h with h; subst h; exact ⟨rfl, ⟨cf, eg, sj, nt, hC.mono (fun _ h => List.mem_append_left _ h), hE.mono (fun _ h => List.mem_append_left _ h), hS.mono (fun _ h => List.mem_append_left _ h), hN.mono (fun _ h => List.mem_append_left _ h), rfl⟩⟩⟩
   by_cases hx : t = sIndex
   ·have hr := box (hrA.out hk4 (.inr hx))
    have e1 : (t == [97, 112, 112, 108, 105, 99, 97, 116, 105, 111, 110, 47, 118, 110, 100, 46, 111, 99, 105, 46, 105, 109, 97, 103, 101, 46, 105, 110, 100, 101, 120, 46, 118, 49, 43, 106, 115, 111, 110]) = true := by rw [beq_iff_eq]; exact hx
    have e2 : (t != [97, 112, 112, 108, 105, 99, 97, 116, 105, 111, 110, 47, 118, 110, 100, 46, 111, 99, 105, 46, 105, 109, 97, 103, 101, 46, 105, 110, 100, 101, 120, 46, 118, 49, 43, 106, 115, 111, 110]) = false := by rw [bne, e1]; rfl
    have e3 : (t == [97, 112, 112, 108, 105, 99, 97, 116, 105, 111, 110, 47, 118, 110, 100, 46, 111, 99, 105, 46, 105, 109, 97, 103, 101, 46, 109, 97, 110, 105, 102, 101, 115, 116, 46, 118, 49, 43, 106, 115, 111, 110]) = false := by rw [beq_eq_false_iff_ne]; exact hi
    have e4 : (t != [97, 112, 112, 108, 105, 99, 97, 116, 105, 111, 110, 47, 118, 110, 100, 46, 111, 99, 105, 46, 105, 109, 97, 103, 101, 46, 109, 97, 110, 105, 102, 101, 115, 116, 46, 118, 49, 43, 106, 115, 111, 110]) = true := by rw [bne, e3]; rfl
    replace hi := box hi
    replace hx := box hx
    replace hk4 := box hk4
    go_enter Tryz.func66, Tryz.ntmps66
    go_wp2_with (first | ((with_reducible refine lst (by with_unfolding_all rfl) (wp_fbox hF0 (cs := (vlL k n ⟨t.toArray⟩ (.slice An nn cn) (.slice Ak nk ck))) rfl (by with_unfolding_all rfl) (by with_unfolding_all rfl) ?_)); intro w1 g1 hF1 hz1) | (with_reducible refine lst (by with_unfolding_all rfl) (wp_fld0 hF1 Tryz.underlying3 rfl (by with_unfolding_all exact ⟨_, rfl, rfl⟩) rfl ?_)) | (with_reducible refine lst (by with_unfolding_all rfl) (wp_fldA0 hF1 Tryz.underlying76 rfl (by with_unfolding_all exact ⟨_, rfl, rfl⟩) (ds := (vlL k n ⟨t.toArray⟩ (.slice An nn cn) (.slice Ak nk ck))) (by rw [vlL_len]; kernel_rfl) (take_all _) ?_)))
    refine (htx.out _ (hF1.belowG hg hB) (Nat.le_trans hB hF1.size)).mono ?_
    rintro e w2 ⟨rfl, hb2⟩
    have hF2 := hF1.call hb2
    simp only [mStr, mErr, strv]
    go_wp2_with (first | ((with_reducible refine lst (by with_unfolding_all rfl) (wp_fst1 hF2 (by with_unfolding_all exact ⟨_, _, rfl, rfl, rfl⟩) (by kernel_rfl) rfl rfl (by rw [docL_len hcl hsl]; decide) (docL_0s (m' := t)) ?_)); intro w3 hF3 hz3) | (with_reducible refine lst (by with_unfolding_all rfl) (wp_fld1 hF3 Tryz.underlying9 rfl (by with_unfolding_all exact ⟨_, rfl, rfl⟩) docL_m0 ?_)))
    go_ret2
    unfold MMem
    rw [hr.out]
    exact ⟨_, [], _, rfl, docL_len hcl hsl, docL_one hco hso hE.one hN.one, hF3.tail, fun d' h => by injection h with h; subst h; exact ⟨rfl, ⟨cf, eg, sj, nt, hC.mono (fun _ h => List.mem_append_left _ h), hE.mono (fun _ h => List.mem_append_left _ h), hS.mono (fun _ h => List.mem_append_left _ h), hN.mono (fun _ h => List.mem_append_left _ h), rfl⟩⟩⟩
   ·have hr := box (hrB.out hk4 (by rintro (h | h); exact hi h; exact hx h))
    have e3 : (t == [97, 112, 112, 108, 105, 99, 97, 116, 105, 111, 110, 47, 118, 110, 100, 46, 111, 99, 105, 46, 105, 109, 97, 103, 101, 46, 109, 97, 110, 105, 102, 101, 115, 116, 46, 118, 49, 43, 106, 115, 111, 110]) = false := by rw [beq_eq_false_iff_ne]; exact hi
    have e4 : (t != [97, 112, 112, 108, 105, 99, 97, 116, 105, 111, 110, 47, 118, 110, 100, 46, 111, 99, 105, 46, 105, 109, 97, 103, 101, 46, 109, 97, 110, 105, 102, 101, 115, 116, 46, 118, 49, 43, 106, 115, 111, 110]) = true := by rw [bne, e3]; rfl
    have e5 : (t == [97, 112, 112, 108, 105, 99, 97, 116, 105, 111, 110, 47, 118, 110, 100, 46, 111, 99, 105, 46, 105, 109, 97, 103, 101, 46, 105, 110, 100, 101, 120, 46, 118, 49, 43, 106, 115, 111, 110]) = false := by rw [beq_eq_false_iff_ne]; exact hx
    have e6 : (t != [97, 112, 112, 108, 105, 99, 97, 116, 105, 111, 110, 47, 118, 110, 100, 46, 111, 99, 105, 46, 105, 109, 97, 103, 101, 46, 105, 110, 100, 101, 120, 46, 118, 49, 43, 106, 115, 111, 110]) = true := by rw [bne, e5]; rfl
    replace hi := box hi
    replace hx := box hx
    replace hk4 := box hk4
    go_enter Tryz.func66, Tryz.ntmps66
    go_wp2_with (first | ((with_reducible refine lst (by with_unfolding_all rfl) (wp_fbox hF0 (cs := (vlL k n ⟨t.toArray⟩ (.slice An nn cn) (.slice Ak nk ck))) rfl (by with_unfolding_all rfl) (by with_unfolding_all rfl) ?_)); intro w1 g1 hF1 hz1) | (with_reducible refine lst (by with_unfolding_all rfl) (wp_fld0 hF1 Tryz.underlying3 rfl (by with_unfolding_all exact ⟨_, rfl, rfl⟩) rfl ?_)) | (with_reducible refine lst (by with_unfolding_all rfl) (wp_fldA0 hF1 Tryz.underlying76 rfl (by with_unfolding_all exact ⟨_, rfl, rfl⟩) (ds := (vlL k n ⟨t.toArray⟩ (.slice An nn cn) (.slice Ak nk ck))) (by rw [vlL_len]; kernel_rfl) (take_all _) ?_)))
    refine (htx.out _ (hF1.belowG hg hB) (Nat.le_trans hB hF1.size)).mono ?_
    rintro e w2 ⟨rfl, hb2⟩
    have hF2 := hF1.call hb2
    simp only [mStr, mErr, strv]
    go_wp2_with (first | ((with_reducible refine lst (by with_unfolding_all rfl) (wp_fst1 hF2 (by with_unfolding_all exact ⟨_, _, rfl, rfl, rfl⟩) (by kernel_rfl) rfl rfl (by rw [docL_len hcl hsl]; decide) (docL_0s (m' := t)) ?_)); intro w3 hF3 hz3) | (with_reducible refine lst (by with_unfolding_all rfl) (wp_fld1 hF3 Tryz.underlying9 rfl (by with_unfolding_all exact ⟨_, rfl, rfl⟩) docL_m0 ?_)))
    go_ret2
    unfold MMem
    rw [hr.out]
    exact ⟨_, [], _, rfl, docL_len hcl hsl, docL_one hco hso hE.one hN.one, hF3.tail, fun d' h => by cases h⟩
  ·have hr := box (hrC.out hk4)
   rw [show mText (.mk k n t ns ks) = .error 80 from if_neg hk4] at htx
   replace hk4 := box hk4
   go_enter Tryz.func66, Tryz.ntmps66
   go_wp2_with (first | ((with_reducible refine lst (by with_unfolding_all rfl) (wp_fbox hF0 (cs := (vlL k n ⟨t.toArray⟩ (.slice An nn cn) (.slice Ak nk ck))) rfl (by with_unfolding_all rfl) (by with_unfolding_all rfl) ?_)); intro w1 g1 hF1 hz1) | (with_reducible refine lst (by with_unfolding_all rfl) (wp_fld0 hF1 Tryz.underlying3 rfl (by with_unfolding_all exact ⟨_, rfl, rfl⟩) rfl ?_)) | (with_reducible refine lst (by with_unfolding_all rfl) (wp_fldA0 hF1 Tryz.underlying76 rfl (by with_unfolding_all exact ⟨_, rfl, rfl⟩) (ds := (vlL k n ⟨t.toArray⟩ (.slice An nn cn) (.slice Ak nk ck))) (by rw [vlL_len]; kernel_rfl) (take_all _) ?_)))
   refine (htx.out _ (hF1.belowG hg hB) (Nat.le_trans hB hF1.size)).mono ?_
   rintro e w2 ⟨rfl, hb2⟩
   have hF2 := hF1.call hb2
   simp only [mStr, mErr, strv]
   go_wp2_with (first | ((with_reducible refine lst (by with_unfolding_all rfl) (wp_fst1 hF2 (by with_unfolding_all exact ⟨_, _, rfl, rfl, rfl⟩) (by kernel_rfl) rfl rfl (by rw [docL_len hcl hsl]; decide) (docL_0s (m' := [])) ?_)); intro w3 hF3 hz3) | (with_reducible refine lst (by with_unfolding_all rfl) (wp_fld1 hF3 Tryz.underlying9 rfl (by with_unfolding_all exact ⟨_, rfl, rfl⟩) docL_m0 ?_)))
   go_ret2
   unfold MMem
   rw [hr.out]
   exact ⟨_, [], _, rfl, docL_len hcl hsl, docL_one hco hso hE.one hN.one, hF3.tail, fun d' h => by cases h⟩
 have n1 : (s == [109, 101, 100, 105, 97, 84, 121, 112, 101]) = false := by rw [beq_eq_false_iff_ne]; exact h1
 by_cases h2 : s = kType
 ·skip
  have hr : Box (rStep d s (.mk k n t ns ks) = match (match mMedia (.mk k n t ns ks) with | .ok x => (.ok (({ d with type := x } : MDoc), (⟨false, false, false, false, false⟩ : MGot)) : MR (MDoc × MGot)) | .error e => .error e) with | .ok x => .ok x.1 | .error e => .error e) := box (by unfold rStep mStep; rw [if_neg h0, if_neg h1, if_pos h2]; rfl)
  have hsq : s = [97, 114, 116, 105, 102, 97, 99, 116, 84, 121, 112, 101] := h2
  subst hsq
  clear h0 h1 h2 n0 n1
  have htx := box (fun w' hb hB' => mmedia_any (.mk k n t ns ks) _ w' ((hM.on hb).now) (hv0.onB (w' := w') hb hB') hsz)
  cases hm : mMedia (.mk k n t ns ks) with
  | ok x =>
   rw [hm] at hr htx
   go_enter Tryz.func66, Tryz.ntmps66
   go_wp2_with (first | ((with_reducible refine lst (by with_unfolding_all rfl) (wp_fbox hF0 (cs := (vlL k n ⟨t.toArray⟩ (.slice An nn cn) (.slice Ak nk ck))) rfl (by with_unfolding_all rfl) (by with_unfolding_all rfl) ?_)); intro w1 g1 hF1 hz1) | (with_reducible refine lst (by with_unfolding_all rfl) (wp_fld0 hF1 Tryz.underlying3 rfl (by with_unfolding_all exact ⟨_, rfl, rfl⟩) rfl ?_)) | (with_reducible refine lst (by with_unfolding_all rfl) (wp_fldA0 hF1 Tryz.underlying76 rfl (by with_unfolding_all exact ⟨_, rfl, rfl⟩) (ds := (vlL k n ⟨t.toArray⟩ (.slice An nn cn) (.slice Ak nk ck))) (by rw [vlL_len]; kernel_rfl) (take_all _) ?_)))
   refine (htx.out _ (hF1.belowG hg hB) (Nat.le_trans hB hF1.size)).mono ?_
   rintro e w2 ⟨rfl, hb2⟩
   have hF2 := hF1.call hb2
   simp only [mStr, mErr, strv]
   go_wp2_with (first | ((with_reducible refine lst (by with_unfolding_all rfl) (wp_fst1 hF2 (by with_unfolding_all exact ⟨_, _, rfl, rfl, rfl⟩) (by kernel_rfl) rfl rfl (by rw [docL_len hcl hsl]; decide) (docL_1s (t' := x)) ?_)); intro w3 hF3 hz3))
   go_ret2
   unfold MMem
   rw [hr.out]
   exact ⟨_, [], _, rfl, docL_len hcl hsl, docL_one hco hso hE.one hN.one, hF3.tail, fun d' h => by injection h with h; subst h; exact ⟨rfl, ⟨cf, eg, sj, nt, hC.mono (fun _ h => List.mem_append_left _ h), hE.mono (fun _ h => List.mem_append_left _ h), hS.mono (fun _ h => List.mem_append_left _ h), hN.mono (fun _ h => List.mem_append_left _ h), rfl⟩⟩⟩
  | error ee =>
   rw [hm] at hr htx
   go_enter Tryz.func66, Tryz.ntmps66
   go_wp2_with (first | ((with_reducible refine lst (by with_unfolding_all rfl) (wp_fbox hF0 (cs := (vlL k n ⟨t.toArray⟩ (.slice An nn cn) (.slice Ak nk ck))) rfl (by with_unfolding_all rfl) (by with_unfolding_all rfl) ?_)); intro w1 g1 hF1 hz1) | (with_reducible refine lst (by with_unfolding_all rfl) (wp_fld0 hF1 Tryz.underlying3 rfl (by with_unfolding_all exact ⟨_, rfl, rfl⟩) rfl ?_)) | (with_reducible refine lst (by with_unfolding_all rfl) (wp_fldA0 hF1 Tryz.underlying76 rfl (by with_unfolding_all exact ⟨_, rfl, rfl⟩) (ds := (vlL k n ⟨t.toArray⟩ (.slice An nn cn) (.slice Ak nk ck))) (by rw [vlL_len]; kernel_rfl) (take_all _) ?_)))
   refine (htx.out _ (hF1.belowG hg hB) (Nat.le_trans hB hF1.size)).mono ?_
   rintro e w2 ⟨rfl, hb2⟩
   have hF2 := hF1.call hb2
   simp only [mStr, mErr, strv]
   go_wp2_with (first | ((with_reducible refine lst (by with_unfolding_all rfl) (wp_fst1 hF2 (by with_unfolding_all exact ⟨_, _, rfl, rfl, rfl⟩) (by kernel_rfl) rfl rfl (by rw [docL_len hcl hsl]; decide) (docL_1s (t' := [])) ?_)); intro w3 hF3 hz3))
   go_ret2
   unfold MMem
   rw [hr.out]
   exact ⟨_, [], _, rfl, docL_len hcl hsl, docL_one hco hso hE.one hN.one, hF3.tail, fun d' h => by cases h⟩
 have n2 : (s == [97, 114, 116, 105, 102, 97, 99, 116, 84, 121, 112, 101]) = false := by rw [beq_eq_false_iff_ne]; exact h2
 by_cases h3 : s = kConfig
 ·skip
  have hr : Box (rStep d s (.mk k n t ns ks) = match (match mDesc (.mk k n t ns ks) with | .ok x => (.ok (({ d with config := x } : MDoc), (⟨false, false, true, false, false⟩ : MGot)) : MR (MDoc × MGot)) | .error e => .error e) with | .ok x => .ok x.1 | .error e => .error e) := box (by unfold rStep mStep; rw [if_neg h0, if_neg h1, if_neg h2, if_pos h3]; rfl)
  have hsq : s = [99, 111, 110, 102, 105, 103] := h3
  subst hsq
  clear h0 h1 h2 h3 n0 n1 n2
  have htx := box (fun w' hb hB' => mdesc_any (.mk k n t ns ks) _ w' ((hM.on hb).now) (hv0.onB (w' := w') hb hB') hob)
  cases hm : mDesc (.mk k n t ns ks) with
  | ok x =>
   rw [hm] at hr htx
   go_enter Tryz.func66, Tryz.ntmps66
   go_wp2_with (first | ((with_reducible refine lst (by with_unfolding_all rfl) (wp_fbox hF0 (cs := (vlL k n ⟨t.toArray⟩ (.slice An nn cn) (.slice Ak nk ck))) rfl (by with_unfolding_all rfl) (by with_unfolding_all rfl) ?_)); intro w1 g1 hF1 hz1) | (with_reducible refine lst (by with_unfolding_all rfl) (wp_fld0 hF1 Tryz.underlying3 rfl (by with_unfolding_all exact ⟨_, rfl, rfl⟩) rfl ?_)) | (with_reducible refine lst (by with_unfolding_all rfl) (wp_fldA0 hF1 Tryz.underlying76 rfl (by with_unfolding_all exact ⟨_, rfl, rfl⟩) (ds := (vlL k n ⟨t.toArray⟩ (.slice An nn cn) (.slice Ak nk ck))) (by rw [vlL_len]; kernel_rfl) (take_all _) ?_)))
   refine (htx.out _ (hF1.belowG hg hB) (Nat.le_trans hB hF1.size)).mono ?_
   rintro e w2 ⟨c2, es2, rfl, hvd, h2⟩
   have hF2 := hF1.joinR h2
   simp only [List.cons_append, List.nil_append] at hF2
   have hdl := box hvd.len
   have hdo := hvd.ones
   replace hdo := box hdo
   simp only [mErr]
   go_wp2_with (first | ((with_reducible refine lst (by with_unfolding_all rfl) (wp_fstA1 hF2 (by with_unfolding_all exact ⟨_, _, rfl, rfl, rfl⟩) (by rw [hdl.out]; kernel_rfl) hdo.out (by rw [hdl.out, docL_len hcl hsl]; decide) (docL_2 (by rw [hdl.out, hcl])) ?_)); intro w3 hF3 hz3))
   go_ret2
   unfold MMem
   rw [hr.out]
   exact ⟨_, es2, _, rfl, docL_len hdl.out hsl, docL_one hdo.out hso hE.one hN.one, hF3.tail, fun d' h => by injection h with h; subst h; exact ⟨rfl, ⟨c2, eg, sj, nt, hvd.mono (fun _ h => List.mem_append_right _ h), hE.mono (fun _ h => List.mem_append_left _ h), hS.mono (fun _ h => List.mem_append_left _ h), hN.mono (fun _ h => List.mem_append_left _ h), rfl⟩⟩⟩
  | error ee =>
   rw [hm] at hr htx
   go_enter Tryz.func66, Tryz.ntmps66
   go_wp2_with (first | ((with_reducible refine lst (by with_unfolding_all rfl) (wp_fbox hF0 (cs := (vlL k n ⟨t.toArray⟩ (.slice An nn cn) (.slice Ak nk ck))) rfl (by with_unfolding_all rfl) (by with_unfolding_all rfl) ?_)); intro w1 g1 hF1 hz1) | (with_reducible refine lst (by with_unfolding_all rfl) (wp_fld0 hF1 Tryz.underlying3 rfl (by with_unfolding_all exact ⟨_, rfl, rfl⟩) rfl ?_)) | (with_reducible refine lst (by with_unfolding_all rfl) (wp_fldA0 hF1 Tryz.underlying76 rfl (by with_unfolding_all exact ⟨_, rfl, rfl⟩) (ds := (vlL k n ⟨t.toArray⟩ (.slice An nn cn) (.slice Ak nk ck))) (by rw [vlL_len]; kernel_rfl) (take_all _) ?_)))
   refine (htx.out _ (hF1.belowG hg hB) (Nat.le_trans hB hF1.size)).mono ?_
   rintro e w2 ⟨c2, es2, rfl, hvd, h2⟩
   have hF2 := hF1.joinR h2
   simp only [List.cons_append, List.nil_append] at hF2
   have hdl := box hvd.len
   have hdo := hvd.ones
   replace hdo := box hdo
   simp only [mErr]
   go_wp2_with (first | ((with_reducible refine lst (by with_unfolding_all rfl) (wp_fstA1 hF2 (by with_unfolding_all exact ⟨_, _, rfl, rfl, rfl⟩) (by rw [hdl.out]; kernel_rfl) hdo.out (by rw [hdl.out, docL_len hcl hsl]; decide) (docL_2 (by rw [hdl.out, hcl])) ?_)); intro w3 hF3 hz3))
   go_ret2
   unfold MMem
   rw [hr.out]
   exact ⟨_, es2, _, rfl, docL_len hdl.out hsl, docL_one hdo.out hso hE.one hN.one, hF3.tail, fun d' h => by cases h⟩
 have n3 : (s == [99, 111, 110, 102, 105, 103]) = false := by rw [beq_eq_false_iff_ne]; exact h3
 by_cases h4 : s = kLayers
 ·skip
  have hr : Box (rStep d s (.mk k n t ns ks) = match (match mEdges (.mk k n t ns ks) with | .ok x => (.ok (({ d with edges := x } : MDoc), (⟨false, false, false, true, false⟩ : MGot)) : MR (MDoc × MGot)) | .error e => .error e) with | .ok x => .ok x.1 | .error e => .error e) := box (by unfold rStep mStep; rw [if_neg h0, if_neg h1, if_neg h2, if_neg h3, if_pos h4]; rfl)
  have hsq : s = [108, 97, 121, 101, 114, 115] := h4
  subst hsq
  clear h0 h1 h2 h3 h4 n0 n1 n2 n3
  have htx := box (fun w' hb hB' => medges_any (.mk k n t ns ks) _ w' ((hM.on hb).now) (hv0.onB (w' := w') hb hB') hob)
  cases hm : mEdges (.mk k n t ns ks) with
  | ok x =>
   rw [hm] at hr htx
   go_enter Tryz.func66, Tryz.ntmps66
   go_wp2_with (first | ((with_reducible refine lst (by with_unfolding_all rfl) (wp_fbox hF0 (cs := (vlL k n ⟨t.toArray⟩ (.slice An nn cn) (.slice Ak nk ck))) rfl (by with_unfolding_all rfl) (by with_unfolding_all rfl) ?_)); intro w1 g1 hF1 hz1) | (with_reducible refine lst (by with_unfolding_all rfl) (wp_fld0 hF1 Tryz.underlying3 rfl (by with_unfolding_all exact ⟨_, rfl, rfl⟩) rfl ?_)) | (with_reducible refine lst (by with_unfolding_all rfl) (wp_fldA0 hF1 Tryz.underlying76 rfl (by with_unfolding_all exact ⟨_, rfl, rfl⟩) (ds := (vlL k n ⟨t.toArray⟩ (.slice An nn cn) (.slice Ak nk ck))) (by rw [vlL_len]; kernel_rfl) (take_all _) ?_)))
   refine (htx.out _ (hF1.belowG hg hB) (Nat.le_trans hB hF1.size)).mono ?_
   rintro e w2 ⟨e2, es2, rfl, hvd, h2⟩
   have hF2 := hF1.joinR h2
   simp only [List.cons_append, List.nil_append] at hF2
   obtain ⟨A2, l2, k2, z2, hk2, hl2, rfl, hT2, hm2⟩ := hvd
   replace hl2 := box hl2
   simp only [mErr]
   go_wp2_with (first | ((with_reducible refine lst (by with_unfolding_all rfl) (wp_fst1 hF2 (by with_unfolding_all exact ⟨_, _, rfl, rfl, rfl⟩) (by kernel_rfl) rfl rfl (by rw [docL_len hcl hsl]; decide) (docL_37 (eg' := .slice A2 l2 k2) hcl) ?_)); intro w3 hF3 hz3))
   go_ret2
   unfold MMem
   rw [hr.out]
   exact ⟨_, es2, _, rfl, docL_len hcl hsl, docL_one hco hso rfl hN.one, hF3.tail, fun d' h => by injection h with h; subst h; exact ⟨rfl, ⟨cf, _, sj, nt, hC.mono (fun _ h => List.mem_append_left _ h), ⟨A2, l2, k2, z2, hk2, hl2.out, rfl, hT2.mono (fun _ h => List.mem_append_right _ h), hm2.imp id (List.mem_append_right _)⟩, hS.mono (fun _ h => List.mem_append_left _ h), hN.mono (fun _ h => List.mem_append_left _ h), rfl⟩⟩⟩
  | error ee =>
   rw [hm] at hr htx
   go_enter Tryz.func66, Tryz.ntmps66
   go_wp2_with (first | ((with_reducible refine lst (by with_unfolding_all rfl) (wp_fbox hF0 (cs := (vlL k n ⟨t.toArray⟩ (.slice An nn cn) (.slice Ak nk ck))) rfl (by with_unfolding_all rfl) (by with_unfolding_all rfl) ?_)); intro w1 g1 hF1 hz1) | (with_reducible refine lst (by with_unfolding_all rfl) (wp_fld0 hF1 Tryz.underlying3 rfl (by with_unfolding_all exact ⟨_, rfl, rfl⟩) rfl ?_)) | (with_reducible refine lst (by with_unfolding_all rfl) (wp_fldA0 hF1 Tryz.underlying76 rfl (by with_unfolding_all exact ⟨_, rfl, rfl⟩) (ds := (vlL k n ⟨t.toArray⟩ (.slice An nn cn) (.slice Ak nk ck))) (by rw [vlL_len]; kernel_rfl) (take_all _) ?_)))
   refine (htx.out _ (hF1.belowG hg hB) (Nat.le_trans hB hF1.size)).mono ?_
   rintro e w2 ⟨e2, es2, rfl, hvd, h2⟩
   have hF2 := hF1.joinR h2
   simp only [List.cons_append, List.nil_append] at hF2
   obtain ⟨A2, l2, k2, z2, hk2, hl2, rfl, hT2, hm2⟩ := hvd
   replace hl2 := box hl2
   simp only [mErr]
   go_wp2_with (first | ((with_reducible refine lst (by with_unfolding_all rfl) (wp_fst1 hF2 (by with_unfolding_all exact ⟨_, _, rfl, rfl, rfl⟩) (by kernel_rfl) rfl rfl (by rw [docL_len hcl hsl]; decide) (docL_37 (eg' := .slice A2 l2 k2) hcl) ?_)); intro w3 hF3 hz3))
   go_ret2
   unfold MMem
   rw [hr.out]
   exact ⟨_, es2, _, rfl, docL_len hcl hsl, docL_one hco hso rfl hN.one, hF3.tail, fun d' h => by cases h⟩
 have n4 : (s == [108, 97, 121, 101, 114, 115]) = false := by rw [beq_eq_false_iff_ne]; exact h4
 by_cases h5 : s = kManifests
 ·skip
  have hr : Box (rStep d s (.mk k n t ns ks) = match (match mEdges (.mk k n t ns ks) with | .ok x => (.ok (({ d with edges := x } : MDoc), (⟨false, false, false, false, true⟩ : MGot)) : MR (MDoc × MGot)) | .error e => .error e) with | .ok x => .ok x.1 | .error e => .error e) := box (by unfold rStep mStep; rw [if_neg h0, if_neg h1, if_neg h2, if_neg h3, if_neg h4, if_pos h5]; rfl)
  have hsq : s = [109, 97, 110, 105, 102, 101, 115, 116, 115] := h5
  subst hsq
  clear h0 h1 h2 h3 h4 h5 n0 n1 n2 n3 n4
  have htx := box (fun w' hb hB' => medges_any (.mk k n t ns ks) _ w' ((hM.on hb).now) (hv0.onB (w' := w') hb hB') hob)
  cases hm : mEdges (.mk k n t ns ks) with
  | ok x =>
   rw [hm] at hr htx
   go_enter Tryz.func66, Tryz.ntmps66
   go_wp2_with (first | ((with_reducible refine lst (by with_unfolding_all rfl) (wp_fbox hF0 (cs := (vlL k n ⟨t.toArray⟩ (.slice An nn cn) (.slice Ak nk ck))) rfl (by with_unfolding_all rfl) (by with_unfolding_all rfl) ?_)); intro w1 g1 hF1 hz1) | (with_reducible refine lst (by with_unfolding_all rfl) (wp_fld0 hF1 Tryz.underlying3 rfl (by with_unfolding_all exact ⟨_, rfl, rfl⟩) rfl ?_)) | (with_reducible refine lst (by with_unfolding_all rfl) (wp_fldA0 hF1 Tryz.underlying76 rfl (by with_unfolding_all exact ⟨_, rfl, rfl⟩) (ds := (vlL k n ⟨t.toArray⟩ (.slice An nn cn) (.slice Ak nk ck))) (by rw [vlL_len]; kernel_rfl) (take_all _) ?_)))
   refine (htx.out _ (hF1.belowG hg hB) (Nat.le_trans hB hF1.size)).mono ?_
   rintro e w2 ⟨e2, es2, rfl, hvd, h2⟩
   have hF2 := hF1.joinR h2
   simp only [List.cons_append, List.nil_append] at hF2
   obtain ⟨A2, l2, k2, z2, hk2, hl2, rfl, hT2, hm2⟩ := hvd
   replace hl2 := box hl2
   simp only [mErr]
   go_wp2_with (first | ((with_reducible refine lst (by with_unfolding_all rfl) (wp_fst1 hF2 (by with_unfolding_all exact ⟨_, _, rfl, rfl, rfl⟩) (by kernel_rfl) rfl rfl (by rw [docL_len hcl hsl]; decide) (docL_37 (eg' := .slice A2 l2 k2) hcl) ?_)); intro w3 hF3 hz3))
   go_ret2
   unfold MMem
   rw [hr.out]
   exact ⟨_, es2, _, rfl, docL_len hcl hsl, docL_one hco hso rfl hN.one, hF3.tail, fun d' h => by injection h with h; subst h; exact ⟨rfl, ⟨cf, _, sj, nt, hC.mono (fun _ h => List.mem_append_left _ h), ⟨A2, l2, k2, z2, hk2, hl2.out, rfl, hT2.mono (fun _ h => List.mem_append_right _ h), hm2.imp id (List.mem_append_right _)⟩, hS.mono (fun _ h => List.mem_append_left _ h), hN.mono (fun _ h => List.mem_append_left _ h), rfl⟩⟩⟩
  | error ee =>
   rw [hm] at hr htx
   go_enter Tryz.func66, Tryz.ntmps66
   go_wp2_with (first | ((with_reducible refine lst (by with_unfolding_all rfl) (wp_fbox hF0 (cs := (vlL k n ⟨t.toArray⟩ (.slice An nn cn) (.slice Ak nk ck))) rfl (by with_unfolding_all rfl) (by with_unfolding_all rfl) ?_)); intro w1 g1 hF1 hz1) | (with_reducible refine lst (by with_unfolding_all rfl) (wp_fld0 hF1 Tryz.underlying3 rfl (by with_unfolding_all exact ⟨_, rfl, rfl⟩) rfl ?_)) | (with_reducible refine lst (by with_unfolding_all rfl) (wp_fldA0 hF1 Tryz.underlying76 rfl (by with_unfolding_all exact ⟨_, rfl, rfl⟩) (ds := (vlL k n ⟨t.toArray⟩ (.slice An nn cn) (.slice Ak nk ck))) (by rw [vlL_len]; kernel_rfl) (take_all _) ?_)))
   refine (htx.out _ (hF1.belowG hg hB) (Nat.le_trans hB hF1.size)).mono ?_
   rintro e w2 ⟨e2, es2, rfl, hvd, h2⟩
   have hF2 := hF1.joinR h2
   simp only [List.cons_append, List.nil_append] at hF2
   obtain ⟨A2, l2, k2, z2, hk2, hl2, rfl, hT2, hm2⟩ := hvd
   replace hl2 := box hl2
   simp only [mErr]
   go_wp2_with (first | ((with_reducible refine lst (by with_unfolding_all rfl) (wp_fst1 hF2 (by with_unfolding_all exact ⟨_, _, rfl, rfl, rfl⟩) (by kernel_rfl) rfl rfl (by rw [docL_len hcl hsl]; decide) (docL_37 (eg' := .slice A2 l2 k2) hcl) ?_)); intro w3 hF3 hz3))
   go_ret2
   unfold MMem
   rw [hr.out]
   exact ⟨_, es2, _, rfl, docL_len hcl hsl, docL_one hco hso rfl hN.one, hF3.tail, fun d' h => by cases h⟩
 have n5 : (s == [109, 97, 110, 105, 102, 101, 115, 116, 115]) = false := by rw [beq_eq_false_iff_ne]; exact h5
 by_cases h6 : s = kSubject
 ·skip
  have hr : Box (rStep d s (.mk k n t ns ks) = match (match mDesc (.mk k n t ns ks) with | .ok x => (.ok (({ d with subject := x, has := true } : MDoc), (⟨false, false, false, false, false⟩ : MGot)) : MR (MDoc × MGot)) | .error e => .error e) with | .ok x => .ok x.1 | .error e => .error e) := box (by unfold rStep mStep; rw [if_neg h0, if_neg h1, if_neg h2, if_neg h3, if_neg h4, if_neg h5, if_pos h6]; rfl)
  have hsq : s = [115, 117, 98, 106, 101, 99, 116] := h6
  subst hsq
  clear h0 h1 h2 h3 h4 h5 h6 n0 n1 n2 n3 n4 n5
  have htx := box (fun w' hb hB' => mdesc_any (.mk k n t ns ks) _ w' ((hM.on hb).now) (hv0.onB (w' := w') hb hB') hob)
  cases hm : mDesc (.mk k n t ns ks) with
  | ok x =>
   rw [hm] at hr htx
   go_enter Tryz.func66, Tryz.ntmps66
   go_wp2_with (first | ((with_reducible refine lst (by with_unfolding_all rfl) (wp_fbox hF0 (cs := (vlL k n ⟨t.toArray⟩ (.slice An nn cn) (.slice Ak nk ck))) rfl (by with_unfolding_all rfl) (by with_unfolding_all rfl) ?_)); intro w1 g1 hF1 hz1) | (with_reducible refine lst (by with_unfolding_all rfl) (wp_fld0 hF1 Tryz.underlying3 rfl (by with_unfolding_all exact ⟨_, rfl, rfl⟩) rfl ?_)) | (with_reducible refine lst (by with_unfolding_all rfl) (wp_fldA0 hF1 Tryz.underlying76 rfl (by with_unfolding_all exact ⟨_, rfl, rfl⟩) (ds := (vlL k n ⟨t.toArray⟩ (.slice An nn cn) (.slice Ak nk ck))) (by rw [vlL_len]; kernel_rfl) (take_all _) ?_)))
   refine (htx.out _ (hF1.belowG hg hB) (Nat.le_trans hB hF1.size)).mono ?_
   rintro e w2 ⟨c2, es2, rfl, hvd, h2⟩
   have hF2 := hF1.joinR h2
   simp only [List.cons_append, List.nil_append] at hF2
   have hdl := box hvd.len
   have hdo := hvd.ones
   replace hdo := box hdo
   simp only [mErr]
   go_wp2_with (first | ((with_reducible refine lst (by with_unfolding_all rfl) (wp_fstA1 hF2 (by with_unfolding_all exact ⟨_, _, rfl, rfl, rfl⟩) (by rw [hdl.out]; kernel_rfl) hdo.out (by rw [hdl.out, docL_len hcl hsl]; decide) (docL_38 hcl (by rw [hdl.out, hsl])) ?_)); intro w3 hF3 hz3) | ((with_reducible refine lst (by with_unfolding_all rfl) (wp_fst1 hF3 (by with_unfolding_all exact ⟨_, _, rfl, rfl, rfl⟩) (by kernel_rfl) rfl rfl (by rw [docL_len hcl hdl.out]; decide) (docL_73 (has' := true) hcl hdl.out) ?_)); intro w4 hF4 hz4))
   go_ret2
   unfold MMem
   rw [hr.out]
   exact ⟨_, es2, _, rfl, docL_len hcl hdl.out, docL_one hco hdo.out hE.one hN.one, hF4.tail, fun d' h => by injection h with h; subst h; exact ⟨rfl, ⟨cf, eg, c2, nt, hC.mono (fun _ h => List.mem_append_left _ h), hE.mono (fun _ h => List.mem_append_left _ h), hvd.mono (fun _ h => List.mem_append_right _ h), hN.mono (fun _ h => List.mem_append_left _ h), rfl⟩⟩⟩
  | error ee =>
   rw [hm] at hr htx
   go_enter Tryz.func66, Tryz.ntmps66
   go_wp2_with (first | ((with_reducible refine lst (by with_unfolding_all rfl) (wp_fbox hF0 (cs := (vlL k n ⟨t.toArray⟩ (.slice An nn cn) (.slice Ak nk ck))) rfl (by with_unfolding_all rfl) (by with_unfolding_all rfl) ?_)); intro w1 g1 hF1 hz1) | (with_reducible refine lst (by with_unfolding_all rfl) (wp_fld0 hF1 Tryz.underlying3 rfl (by with_unfolding_all exact ⟨_, rfl, rfl⟩) rfl ?_)) | (with_reducible refine lst (by with_unfolding_all rfl) (wp_fldA0 hF1 Tryz.underlying76 rfl (by with_unfolding_all exact ⟨_, rfl, rfl⟩) (ds := (vlL k n ⟨t.toArray⟩ (.slice An nn cn) (.slice Ak nk ck))) (by rw [vlL_len]; kernel_rfl) (take_all _) ?_)))
   refine (htx.out _ (hF1.belowG hg hB) (Nat.le_trans hB hF1.size)).mono ?_
   rintro e w2 ⟨c2, es2, rfl, hvd, h2⟩
   have hF2 := hF1.joinR h2
   simp only [List.cons_append, List.nil_append] at hF2
   have hdl := box hvd.len
   have hdo := hvd.ones
   replace hdo := box hdo
   simp only [mErr]
   go_wp2_with (first | ((with_reducible refine lst (by with_unfolding_all rfl) (wp_fstA1 hF2 (by with_unfolding_all exact ⟨_, _, rfl, rfl, rfl⟩) (by rw [hdl.out]; kernel_rfl) hdo.out (by rw [hdl.out, docL_len hcl hsl]; decide) (docL_38 hcl (by rw [hdl.out, hsl])) ?_)); intro w3 hF3 hz3) | ((with_reducible refine lst (by with_unfolding_all rfl) (wp_fst1 hF3 (by with_unfolding_all exact ⟨_, _, rfl, rfl, rfl⟩) (by kernel_rfl) rfl rfl (by rw [docL_len hcl hdl.out]; decide) (docL_73 (has' := true) hcl hdl.out) ?_)); intro w4 hF4 hz4))
   go_ret2
   unfold MMem
   rw [hr.out]
   exact ⟨_, es2, _, rfl, docL_len hcl hdl.out, docL_one hco hdo.out hE.one hN.one, hF4.tail, fun d' h => by cases h⟩
 have n6 : (s == [115, 117, 98, 106, 101, 99, 116]) = false := by rw [beq_eq_false_iff_ne]; exact h6
 by_cases h7 : s = kNotes
 ·skip
  have hr : Box (rStep d s (.mk k n t ns ks) = match (match mNotes (.mk k n t ns ks) with | .ok x => (.ok (({ d with notes := x } : MDoc), (⟨false, false, false, false, false⟩ : MGot)) : MR (MDoc × MGot)) | .error e => .error e) with | .ok x => .ok x.1 | .error e => .error e) := box (by unfold rStep mStep; rw [if_neg h0, if_neg h1, if_neg h2, if_neg h3, if_neg h4, if_neg h5, if_neg h6, if_pos h7]; rfl)
  have hsq : s = [97, 110, 110, 111, 116, 97, 116, 105, 111, 110, 115] := h7
  subst hsq
  clear h0 h1 h2 h3 h4 h5 h6 h7 n0 n1 n2 n3 n4 n5 n6
  have htx := box (fun w' hb hB' => mnotes_any (.mk k n t ns ks) _ w' (hv0.onB (w' := w') hb hB') hob)
  cases hm : mNotes (.mk k n t ns ks) with
  | ok x =>
   rw [hm] at hr htx
   go_enter Tryz.func66, Tryz.ntmps66
   go_wp2_with (first | ((with_reducible refine lst (by with_unfolding_all rfl) (wp_fbox hF0 (cs := (vlL k n ⟨t.toArray⟩ (.slice An nn cn) (.slice Ak nk ck))) rfl (by with_unfolding_all rfl) (by with_unfolding_all rfl) ?_)); intro w1 g1 hF1 hz1) | (with_reducible refine lst (by with_unfolding_all rfl) (wp_fld0 hF1 Tryz.underlying3 rfl (by with_unfolding_all exact ⟨_, rfl, rfl⟩) rfl ?_)) | (with_reducible refine lst (by with_unfolding_all rfl) (wp_fldA0 hF1 Tryz.underlying76 rfl (by with_unfolding_all exact ⟨_, rfl, rfl⟩) (ds := (vlL k n ⟨t.toArray⟩ (.slice An nn cn) (.slice Ak nk ck))) (by rw [vlL_len]; kernel_rfl) (take_all _) ?_)))
   refine (htx.out _ (hF1.belowG hg hB) (Nat.le_trans hB hF1.size)).mono ?_
   rintro e w2 ⟨e2, es2, rfl, hvd, h2⟩
   have hF2 := hF1.joinR h2
   simp only [List.cons_append, List.nil_append] at hF2
   obtain ⟨A2, l2, k2, hk2, hl2, rfl, hm2⟩ := hvd
   replace hl2 := box hl2
   simp only [mErr]
   go_wp2_with (first | ((with_reducible refine lst (by with_unfolding_all rfl) (wp_fst1 hF2 (by with_unfolding_all exact ⟨_, _, rfl, rfl, rfl⟩) (by kernel_rfl) rfl rfl (by rw [docL_len hcl hsl]; decide) (docL_74 (nt' := .slice A2 l2 k2) hcl hsl) ?_)); intro w3 hF3 hz3))
   go_ret2
   unfold MMem
   rw [hr.out]
   exact ⟨_, es2, _, rfl, docL_len hcl hsl, docL_one hco hso hE.one rfl, hF3.tail, fun d' h => by injection h with h; subst h; exact ⟨rfl, ⟨cf, eg, sj, _, hC.mono (fun _ h => List.mem_append_left _ h), hE.mono (fun _ h => List.mem_append_left _ h), hS.mono (fun _ h => List.mem_append_left _ h), ⟨A2, l2, k2, hk2, hl2.out, rfl, hm2.imp id (List.mem_append_right _)⟩, rfl⟩⟩⟩
  | error ee =>
   rw [hm] at hr htx
   go_enter Tryz.func66, Tryz.ntmps66
   go_wp2_with (first | ((with_reducible refine lst (by with_unfolding_all rfl) (wp_fbox hF0 (cs := (vlL k n ⟨t.toArray⟩ (.slice An nn cn) (.slice Ak nk ck))) rfl (by with_unfolding_all rfl) (by with_unfolding_all rfl) ?_)); intro w1 g1 hF1 hz1) | (with_reducible refine lst (by with_unfolding_all rfl) (wp_fld0 hF1 Tryz.underlying3 rfl (by with_unfolding_all exact ⟨_, rfl, rfl⟩) rfl ?_)) | (with_reducible refine lst (by with_unfolding_all rfl) (wp_fldA0 hF1 Tryz.underlying76 rfl (by with_unfolding_all exact ⟨_, rfl, rfl⟩) (ds := (vlL k n ⟨t.toArray⟩ (.slice An nn cn) (.slice Ak nk ck))) (by rw [vlL_len]; kernel_rfl) (take_all _) ?_)))
   refine (htx.out _ (hF1.belowG hg hB) (Nat.le_trans hB hF1.size)).mono ?_
   rintro e w2 ⟨e2, es2, rfl, hvd, h2⟩
   have hF2 := hF1.joinR h2
   simp only [List.cons_append, List.nil_append] at hF2
   obtain ⟨A2, l2, k2, hk2, hl2, rfl, hm2⟩ := hvd
   replace hl2 := box hl2
   simp only [mErr]
   go_wp2_with (first | ((with_reducible refine lst (by with_unfolding_all rfl) (wp_fst1 hF2 (by with_unfolding_all exact ⟨_, _, rfl, rfl, rfl⟩) (by kernel_rfl) rfl rfl (by rw [docL_len hcl hsl]; decide) (docL_74 (nt' := .slice A2 l2 k2) hcl hsl) ?_)); intro w3 hF3 hz3))
   go_ret2
   unfold MMem
   rw [hr.out]
   exact ⟨_, es2, _, rfl, docL_len hcl hsl, docL_one hco hso hE.one rfl, hF3.tail, fun d' h => by cases h⟩
 have n7 : (s == [97, 110, 110, 111, 116, 97, 116, 105, 111, 110, 115]) = false := by rw [beq_eq_false_iff_ne]; exact h7
 have hr : Box (rStep d s (.mk k n t ns ks) = .error 80) := box (by unfold rStep mStep; rw [if_neg h0, if_neg h1, if_neg h2, if_neg h3, if_neg h4, if_neg h5, if_neg h6, if_neg h7])
 clear h0 h1 h2 h3 h4 h5 h6 h7
 go_enter Tryz.func66, Tryz.ntmps66
 go_wp2_with (first | ((with_reducible refine lst (by with_unfolding_all rfl) (wp_fbox hF0 (cs := (vlL k n ⟨t.toArray⟩ (.slice An nn cn) (.slice Ak nk ck))) rfl (by with_unfolding_all rfl) (by with_unfolding_all rfl) ?_)); intro w1 g1 hF1 hz1) | (with_reducible refine lst (by with_unfolding_all rfl) (wp_fld0 hF1 Tryz.underlying3 rfl (by with_unfolding_all exact ⟨_, rfl, rfl⟩) rfl ?_)) | (with_reducible refine lst (by with_unfolding_all rfl) (wp_fldA0 hF1 Tryz.underlying76 rfl (by with_unfolding_all exact ⟨_, rfl, rfl⟩) (ds := (vlL k n ⟨t.toArray⟩ (.slice An nn cn) (.slice Ak nk ck))) (by rw [vlL_len]; kernel_rfl) (take_all _) ?_)))
 go_ret2
 unfold MMem
 rw [hr.out]
 exact ⟨_, [], _, rfl, docL_len hcl hsl, docL_one hco hso hE.one hN.one, hF1.tail, fun d' h => by cases h⟩
end Go.Proofs.YtlhicfpmlncomaaGreatDoor
