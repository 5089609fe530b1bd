/-
 Layer 8, plain words: which documents may be written, and as which value; what is written is read as that document. No program is named here.
 Layer 7: the walks of the document's IsMedia.
 Layer 8: the document's media, walked.
 Two structs compared, field by field: whole numbers, texts, yes-or-no, arrays of bytes. No program is named here.
 Layer 8: the document's notes, walked.
 Layer 8: the document's withNotes, walked.
 Layer 8: the program's put and text, walked: a member more, in the caller's frame.
 Layer 7: the walks of a sum's text, further: the document's Parse; both Text.
 Layer 8: the document's told, walked.
 Layer 8: the program's notes and told, walked.
 Layer 6: the document's Size and Valid, walked.
 Layer 6: the document's Size, walked.
 Layer 6: the document's Valid, walked.
-/
import Derived.Test.YtlhicfpmlncomaaGreatDoorL14
import Derived.Test.YtlhicfpmlncomaaGreatDoorL18
import Derived.Test.YtlhicfpmlncomaaGreatDoorL10
import Derived.Test.YtlhicfpmlncomaaGreatDoorL03
import Derived.Test.YtlhicfpmlncomaaGreatDoorL13
import Derived.Test.YtlhicfpmlncomaaGreatDoorL02
import Derived.Laws.StructEq
import Derived.Test.YtlhicfpmlncomaaGreatDoorL11
import Derived.Test.YtlhicfpmlncomaaGreatDoorL08
import Derived.Test.YtlhicfpmlncomaaGreatDoorL09
import Derived.Lib.ValidLaws
set_option linter.unusedSimpArgs false
namespace Go.Proofs.YtlhicfpmlncomaaGreatDoor
open Go.Lib
set_option linter.unusedSimpArgs false
set_option linter.unusedVariables false
def mRightN (l : List MNote) : Prop := l.length ≤ 32 ∧ (∀ x ∈ l, validD x.key = true ∧ validD x.val = true) ∧ (l.map (·.key)).Nodup
def mRightD (d : MDesc) : Prop := mediaB d.media = true ∧ 0 ≤ d.size ∧ d.size ≤ 1099511627776 ∧ mRightN d.notes
def mRight (d : MDoc) : Prop := (d.media = sImage ∨ d.media = sIndex) ∧ (d.type = [] ∨ mediaB d.type = true) ∧ d.edges.length ≤ 64 ∧ mRightN d.notes ∧ (∀ x ∈ d.edges, mRightD x) ∧ (d.media = sImage → mRightD d.config) ∧ (d.has = true → mRightD d.subject)
instance (l : List MNote) : Decidable (mRightN l) := by unfold mRightN; exact inferInstance
instance (d : MDesc) : Decidable (mRightD d) := by unfold mRightD; exact inferInstance
instance (d : MDoc) : Decidable (mRight d) := by unfold mRight; exact inferInstance
def jT (s : List UInt8) : JV := .mk 4 0 s [] []
def jN (n : Int) : JV := .mk 3 n [] [] []
def jO (ms : List (List UInt8 × JV)) : JV := .mk 6 0 [] (ms.map (·.1)) (ms.map (·.2))
def jL (ks : List JV) : JV := .mk 5 0 [] [] ks
def tNotes (l : List MNote) : JV := jO (l.map fun x => (x.key, jT x.val))
def tWith (l : List MNote) : List (List UInt8 × JV) := if l = [] then [] else [(kNotes, tNotes l)]
def tDesc (d : MDesc) : JV := jO ([(kMedia, jT d.media), (kDigest, jT (dgT d.dig)), (kSize, jN d.size)] ++ tWith d.notes)
def tType (s : List UInt8) : List (List UInt8 × JV) := if s = [] then [] else [(kType, jT s)]
def tMain (d : MDoc) : List (List UInt8 × JV) := if d.media = sImage then [(kConfig, tDesc d.config), (kLayers, jL (d.edges.map tDesc))] else [(kManifests, jL (d.edges.map tDesc))]
def tSubj (d : MDoc) : List (List UInt8 × JV) := if d.has = true then [(kSubject, tDesc d.subject)] else []
/-- A document's members. -/
def tMems (d : MDoc) : List (List UInt8 × JV) := [(kVersion, jN 2), (kMedia, jT d.media)] ++ (tType d.type ++ (tMain d ++ (tSubj d ++ tWith d.notes)))
def mTell (d : MDoc) : JV := jO (tMems d)
/-- A document without what isn't written. -/
def mBare (d : MDoc) : MDoc := { d with config := if d.media = sIndex then .zero else d.config, subject := if d.has = true then d.subject else .zero }
/-- The bytes of a document, or why there are none. -/
def mWrite (d : MDoc) : List UInt8 × Nat := if mRight d then (if (jWrite (mTell d)).2 = 0 then jWrite (mTell d) else ([], 8)) else ([], 1)
-- What is told is bare.
theorem jBare_T (s : List UInt8) : jBare (jT s) = jT s := by rw [jT, jBare]; rfl
theorem jBare_N (n : Int) : jBare (jN n) = jN n := by rw [jN, jBare]; rfl
theorem jBare_O {ms : List (List UInt8 × JV)} (h : ∀ x ∈ ms, jBare x.2 = x.2) : jBare (jO ms) = jO ms := by
 rw [jO, jBare, jBareL_map, List.map_map]
 have : ms.map (jBare ∘ fun x => x.2) = ms.map fun x => x.2 := List.map_congr_left fun x hx => h x hx
 rw [this]
 rfl
theorem jBare_L {ks : List JV} (h : ∀ x ∈ ks, jBare x = x) : jBare (jL ks) = jL ks := by
 rw [jL, jBare, jBareL_map]
 have : ks.map jBare = ks.map id := List.map_congr_left fun x hx => h x hx
 rw [this, List.map_id]
 rfl
theorem jBare_notes (l : List MNote) : jBare (tNotes l) = tNotes l := jBare_O fun x hx => by
 obtain ⟨y, _, rfl⟩ := List.mem_map.1 hx
 exact jBare_T _
theorem tWith_bare {l : List MNote} : ∀ x ∈ tWith l, jBare x.2 = x.2 := by
 intro x hx
 unfold tWith at hx
 split at hx
 ·cases hx
 ·rw [List.mem_singleton.1 hx]; exact jBare_notes l
theorem jBare_desc (d : MDesc) : jBare (tDesc d) = tDesc d := jBare_O fun x hx => by
 rcases List.mem_append.1 hx with hx | hx
 ·simp only [List.mem_cons, List.not_mem_nil, or_false] at hx
  rcases hx with rfl | rfl | rfl
  ·exact jBare_T _
  ·exact jBare_T _
  ·exact jBare_N _
 ·exact tWith_bare x hx
theorem mems_bare {d : MDoc} : ∀ x ∈ tMems d, jBare x.2 = x.2 := fun x hx => by
 have hl : jBare (jL (d.edges.map tDesc)) = jL (d.edges.map tDesc) := jBare_L fun x hx => by
  obtain ⟨y, _, rfl⟩ := List.mem_map.1 hx
  exact jBare_desc y
 unfold tMems at hx
 simp only [List.mem_append, List.mem_cons, List.not_mem_nil, or_false] at hx
 rcases hx with (rfl | rfl) | hx | hx | hx | hx
 ·exact jBare_N _
 ·exact jBare_T _
 ·unfold tType at hx
  split at hx
  ·cases hx
  ·rw [List.mem_singleton.1 hx]; exact jBare_T _
 ·unfold tMain at hx
  split at hx
  ·simp only [List.mem_cons, List.not_mem_nil, or_false] at hx
   rcases hx with rfl | rfl
   ·exact jBare_desc _
   ·exact hl
  ·rw [List.mem_singleton.1 hx]; exact hl
 ·unfold tSubj at hx
  split at hx
  ·rw [List.mem_singleton.1 hx]; exact jBare_desc _
  ·cases hx
 ·exact tWith_bare x hx
theorem jBare_tell (d : MDoc) : jBare (mTell d) = mTell d := jBare_O mems_bare
-- Reading members, one behind the other.
def mReadM (d : MDoc) (h : MGot) (ms : List (List UInt8 × JV)) : MR MDoc := mReadL d h (ms.map (·.1)) (ms.map (·.2))
theorem mReadM_cons {d d' : MDoc} {h h' : MGot} {x : List UInt8 × JV} {ms : List (List UInt8 × JV)} (hs : mStep d h x.1 x.2 = .ok (d', h')) : mReadM d h (x :: ms) = mReadM d' h' ms := by
 unfold mReadM
 rw [List.map_cons, List.map_cons, mReadL, hs]
theorem mReadM_nil {d : MDoc} {h : MGot} : mReadM d h [] = if mWhole d h = true then .ok d else .error 80 := by
 unfold mReadM
 rw [List.map_nil, List.map_nil, mReadL]
 intros; rename_i h1 h2; cases h1
theorem mNotesL_told : ∀ (l : List MNote), mNotesL ((l.map fun x => (x.key, jT x.val)).map (·.1)) ((l.map fun x => (x.key, jT x.val)).map (·.2)) = .ok l
 | [] => rfl
 | x :: l => by
  rw [List.map_cons, List.map_cons, List.map_cons, mNotesL, if_pos (show (x.key, jT x.val).snd.kind = 4 from rfl), mNotesL_told l]
  rfl
theorem mNotes_told {l : List MNote} (h : l.length ≤ 32) : mNotes (tNotes l) = .ok l := by
 have : mNotes (tNotes l) = if 32 < ((l.map fun x => (x.key, jT x.val)).map (·.2)).length then .error 8 else mNotesL ((l.map fun x => (x.key, jT x.val)).map (·.1)) ((l.map fun x => (x.key, jT x.val)).map (·.2)) := if_pos rfl
 rw [this, if_neg (by simp; omega), mNotesL_told]
theorem mMedia_told {s : List UInt8} (h : mediaB s = true) : mMedia (jT s) = .ok s := (if_pos rfl).trans (if_pos h)
theorem mDesc_told {d : MDesc} (hr : mRightD d) (hd : d.dig.length = 32) : mDesc (tDesc d) = .ok d := by
 obtain ⟨h1, h2, h3, h4⟩ := hr
 have e0 : mDesc (tDesc d) = mDescL .zero ⟨false, false, false⟩ (([(kMedia, jT d.media), (kDigest, jT (dgT d.dig)), (kSize, jN d.size)] ++ tWith d.notes).map (·.1)) (([(kMedia, jT d.media), (kDigest, jT (dgT d.dig)), (kSize, jN d.size)] ++ tWith d.notes).map (·.2)) := if_pos rfl
 rw [e0]
 simp only [List.cons_append, List.nil_append, List.map_cons]
 have s1 : ∀ (x : MDesc) (h : MHad), mdStep x h kMedia (jT d.media) = .ok ({ x with media := d.media }, { h with a := true }) := fun x h => by unfold mdStep; rw [if_pos rfl, mMedia_told h1]
 have s2 : ∀ (x : MDesc) (h : MHad), mdStep x h kDigest (jT (dgT d.dig)) = .ok ({ x with dig := d.dig }, { h with b := true }) := fun x h => by
  unfold mdStep
  rw [if_neg (by decide), if_pos rfl]
  exact (if_pos rfl).trans (by rw [show (jT (dgT d.dig)).text = dgT d.dig from rfl, dgP_T hd])
 have s3 : ∀ (x : MDesc) (h : MHad), mdStep x h kSize (jN d.size) = .ok ({ x with size := d.size }, { h with c := true }) := fun x h => by
  unfold mdStep
  rw [if_neg (by decide), if_neg (by decide), if_pos rfl]
  exact (if_pos rfl).trans (if_neg (by show ¬ (d.size < 0 ∨ 1099511627776 < d.size); omega))
 have s4 : ∀ (x : MDesc) (h : MHad), mdStep x h kNotes (tNotes d.notes) = .ok ({ x with notes := d.notes }, h) := fun x h => by
  unfold mdStep
  rw [if_neg (by decide), if_neg (by decide), if_neg (by decide), if_pos rfl, mNotes_told h4.1]
 rw [mDescL, s1]
 simp only []
 rw [mDescL, s2]
 simp only []
 rw [mDescL, s3]
 simp only []
 unfold tWith
 split
 ·rename_i hn
  rw [List.map_nil, List.map_nil, mDescL]
  ·rw [if_pos ⟨rfl, rfl, rfl⟩]
   obtain ⟨m, dg, z, nt⟩ := d
   simp only [MDesc.zero] at hn ⊢
   rw [hn]
  ·intros; rename_i h1 h2; cases h1
 ·rw [List.map_cons, List.map_cons, List.map_nil, List.map_nil, mDescL, s4]
  simp only []
  rw [mDescL]
  ·rw [if_pos ⟨rfl, rfl, rfl⟩]
  ·intros; rename_i h1 h2; cases h1
theorem mEdgesL_told : ∀ {l : List MDesc}, (∀ x ∈ l, mRightD x ∧ x.dig.length = 32) → mEdgesL (l.map tDesc) = .ok l
 | [], _ => rfl
 | x :: l, h => by
  rw [List.map_cons, mEdgesL, mDesc_told (h x List.mem_cons_self).1 (h x List.mem_cons_self).2]
  simp only []
  rw [mEdgesL_told fun y hy => h y (List.mem_cons_of_mem _ hy)]
theorem mEdges_told {l : List MDesc} (hl : l.length ≤ 64) (h : ∀ x ∈ l, mRightD x ∧ x.dig.length = 32) : mEdges (jL (l.map tDesc)) = .ok l := by
 have : mEdges (jL (l.map tDesc)) = if 64 < (l.map tDesc).length then .error 8 else mEdgesL (l.map tDesc) := if_pos rfl
 rw [this, if_neg (by simp; omega), mEdgesL_told h]
/-- Every sum of a document is a sum. -/
def MDig (d : MDoc) : Prop := d.config.dig.length = 32 ∧ d.subject.dig.length = 32 ∧ ∀ x ∈ d.edges, x.dig.length = 32
section
variable {d : MDoc}
theorem tell_step1 (x : MDoc) (h : MGot) : mStep x h kVersion (jN 2) = .ok (x, { h with v := true }) := by unfold mStep; rw [if_pos rfl]; exact if_pos ⟨rfl, rfl⟩
theorem tell_step2 {s : List UInt8} (hs : s = sImage ∨ s = sIndex) (x : MDoc) (h : MGot) : mStep x h kMedia (jT s) = .ok ({ x with media := s }, { h with m := true }) := by
 unfold mStep
 rw [if_neg (by decide), if_pos rfl]
 exact (if_pos rfl).trans (if_pos hs)
theorem tell_step3 {s : List UInt8} (hs : mediaB s = true) (x : MDoc) (h : MGot) : mStep x h kType (jT s) = .ok ({ x with type := s }, h) := by
 unfold mStep
 rw [if_neg (by decide), if_neg (by decide), if_pos rfl, mMedia_told hs]
theorem tell_step4 {y : MDesc} (hr : mRightD y) (hd : y.dig.length = 32) (x : MDoc) (h : MGot) : mStep x h kConfig (tDesc y) = .ok ({ x with config := y }, { h with c := true }) := by
 unfold mStep
 rw [if_neg (by decide), if_neg (by decide), if_neg (by decide), if_pos rfl, mDesc_told hr hd]
theorem tell_step5 {l : List MDesc} (hl : l.length ≤ 64) (hr : ∀ x ∈ l, mRightD x ∧ x.dig.length = 32) (x : MDoc) (h : MGot) : mStep x h kLayers (jL (l.map tDesc)) = .ok ({ x with edges := l }, { h with l := true }) := by
 unfold mStep
 rw [if_neg (by decide), if_neg (by decide), if_neg (by decide), if_neg (by decide), if_pos rfl, mEdges_told hl hr]
theorem tell_step6 {l : List MDesc} (hl : l.length ≤ 64) (hr : ∀ x ∈ l, mRightD x ∧ x.dig.length = 32) (x : MDoc) (h : MGot) : mStep x h kManifests (jL (l.map tDesc)) = .ok ({ x with edges := l }, { h with i := true }) := by
 unfold mStep
 rw [if_neg (by decide), if_neg (by decide), if_neg (by decide), if_neg (by decide), if_neg (by decide), if_pos rfl, mEdges_told hl hr]
theorem tell_step7 {y : MDesc} (hr : mRightD y) (hd : y.dig.length = 32) (x : MDoc) (h : MGot) : mStep x h kSubject (tDesc y) = .ok ({ x with subject := y, has := true }, h) := by
 unfold mStep
 rw [if_neg (by decide), if_neg (by decide), if_neg (by decide), if_neg (by decide), if_neg (by decide), if_neg (by decide), if_pos rfl, mDesc_told hr hd]
theorem tell_step8 {l : List MNote} (hr : l.length ≤ 32) (x : MDoc) (h : MGot) : mStep x h kNotes (tNotes l) = .ok ({ x with notes := l }, h) := by
 unfold mStep
 rw [if_neg (by decide), if_neg (by decide), if_neg (by decide), if_neg (by decide), if_neg (by decide), if_neg (by decide), if_neg (by decide), if_pos rfl, mNotes_told hr]
theorem read_with {l : List MNote} (hl : l.length ≤ 32) (x : MDoc) (h : MGot) (hx : x.notes = []) : mReadM x h (tWith l) = if mWhole x h = true then .ok { x with notes := l } else .error 80 := by
 unfold tWith
 split
 ·rename_i hn
  rw [mReadM_nil, hn, ← hx]
 ·rw [mReadM_cons (tell_step8 hl x h), mReadM_nil]
  rfl
theorem read_subj (hd : d.has = true → mRightD d.subject) (hg : d.subject.dig.length = 32) (x : MDoc) (h : MGot) (ms : List (List UInt8 × JV)) (hx : x.has = false) (hx2 : x.subject = .zero) :
  mReadM x h (tSubj d ++ ms) = mReadM { x with subject := if d.has = true then d.subject else .zero, has := d.has } h ms := by
 unfold tSubj
 split
 ·rename_i hh
  rw [List.cons_append, List.nil_append, mReadM_cons (tell_step7 (hd hh) hg x h), hh]
 ·rename_i hh
  have hf : d.has = false := by cases hq : d.has <;> simp_all
  rw [List.nil_append, hf, ← hx, ← hx2]
theorem read_type {s : List UInt8} (hs : s = [] ∨ mediaB s = true) (x : MDoc) (h : MGot) (ms : List (List UInt8 × JV)) (hx : x.type = []) : mReadM x h (tType s ++ ms) = mReadM { x with type := s } h ms := by
 unfold tType
 split
 ·rename_i hh
  rw [List.nil_append, hh, ← hx]
 ·rename_i hh
  rw [List.cons_append, List.nil_append, mReadM_cons (tell_step3 (hs.resolve_left hh) x h)]
theorem media_image_index : sIndex ≠ sImage := by decide
/-- What is told of a right document is read as that document. -/
theorem mRead_told (hr : mRight d) (hg : MDig d) : mRead (mTell d) = .ok (mBare d) := by
 obtain ⟨h1, h2, h3, h4, h5, h6, h7⟩ := hr
 obtain ⟨g1, g2, g3⟩ := hg
 have e0 : mRead (mTell d) = mReadM .zero ⟨false, false, false, false, false⟩ (tMems d) := if_pos rfl
 have hed : ∀ x ∈ d.edges, mRightD x ∧ x.dig.length = 32 := fun x hx => ⟨h5 x hx, g3 x hx⟩
 rw [e0]
 unfold tMems
 rw [List.cons_append, List.cons_append, List.nil_append, mReadM_cons (tell_step1 _ _), mReadM_cons (tell_step2 h1 _ _), read_type h2 _ _ _ rfl]
 unfold tMain
 by_cases hi : d.media = sImage
 ·rw [if_pos hi, List.cons_append, List.cons_append, List.nil_append, mReadM_cons (tell_step4 (h6 hi) g1 _ _), mReadM_cons (tell_step5 h3 hed _ _), read_subj h7 g2 _ _ _ rfl rfl, read_with h4.1 _ _ rfl]
  have hw : ¬ d.media = sIndex := fun h => media_image_index (h.symm.trans hi)
  rw [if_pos (by unfold mWhole; rw [if_neg hw]; rfl)]
  unfold mBare
  rw [if_neg hw]
 ·have hx := h1.resolve_left hi
  rw [if_neg hi, List.cons_append, List.nil_append, mReadM_cons (tell_step6 h3 hed _ _), read_subj h7 g2 _ _ _ rfl rfl, read_with h4.1 _ _ rfl]
  rw [if_pos (by unfold mWhole; rw [if_pos hx]; rfl)]
  unfold mBare
  rw [if_pos hx]
  rfl
end
/-- What is written of a bare value is read as that value. -/
theorem jParse_bare {v : JV} (hb : jBare v = v) {l : List UInt8} (h : jWrite v = (l, 0)) : jParse l = .ok v := by
 obtain ⟨x, hx⟩ : ∃ x, jRight 16 v 0 = some x := by
  cases hx : jRight 16 v 0 with
  | some x => exact ⟨x, rfl⟩
  | none =>
   unfold jWrite at h
   rw [hx] at h
   injection h with _ h; cases h
 unfold jWrite at h
 rw [hx] at h
 simp only [] at h
 split at h
 ·injection h with _ h; cases h
 ·rename_i hl
  injection h with h _
  subst h
  have hgd := good_bare (jW v) 16 v 0 x (Nat.le_refl _) hx
  rw [hb] at hgd
  exact jParse_written hgd hx (by omega)
/-- What is written is read as the document. -/
theorem mBack {d : MDoc} (hg : MDig d) {l : List UInt8} (h : mWrite d = (l, 0)) : mRight d ∧ jWrite (mTell d) = (l, 0) ∧ jParse l = .ok (mTell d) ∧ mParse l = .ok (mBare d) := by
 unfold mWrite at h
 split at h
 ·rename_i hr
  split at h
  ·have hp := jParse_bare (jBare_tell d) h
   refine ⟨hr, h, hp, ?_⟩
   unfold mParse
   rw [hp]
   exact mRead_told hr hg
  ·injection h with _ h; cases h
 ·injection h with _ h; cases h
theorem tMems_bare (d : MDoc) (h1 : d.media = sImage ∨ d.media = sIndex) : tMems (mBare d) = tMems d := by
 unfold tMems tMain tSubj mBare
 simp only []
 by_cases hi : d.media = sImage
 ·have hw : ¬ d.media = sIndex := fun h => media_image_index (h.symm.trans hi)
  rw [if_pos hi, if_neg hw, if_pos hi]
  by_cases hh : d.has = true
  ·rw [if_pos hh, if_pos hh, if_pos hh]
  ·rw [if_neg hh, if_neg hh]
 ·rw [if_neg hi, if_neg hi]
  by_cases hh : d.has = true
  ·rw [if_pos hh, if_pos hh, if_pos hh]
  ·rw [if_neg hh, if_neg hh]
theorem mRight_bare {d : MDoc} (h : mRight d) : mRight (mBare d) := by
 obtain ⟨h1, h2, h3, h4, h5, h6, h7⟩ := h
 refine ⟨h1, h2, h3, h4, h5, fun hi => ?_, fun hh => ?_⟩
 ·have hi' : d.media = sImage := hi
  have hw : ¬ d.media = sIndex := fun h => media_image_index (h.symm.trans hi')
  show mRightD (if d.media = sIndex then _ else _)
  rw [if_neg hw]; exact h6 hi'
 ·have hh' : d.has = true := hh
  show mRightD (if d.has = true then _ else _)
  rw [if_pos hh']; exact h7 hh'
/-- .. and written again it is the same. -/
theorem mWrite_bare {d : MDoc} (h : mRight d) : mWrite (mBare d) = mWrite d := by
 unfold mWrite
 rw [if_pos h, if_pos (mRight_bare h)]
 unfold mTell
 rw [tMems_bare d h.1]
end Go.Proofs.YtlhicfpmlncomaaGreatDoor

namespace Go.Proofs.YtlhicfpmlncomaaGreatDoor
open Go.RowKit
end Go.Proofs.YtlhicfpmlncomaaGreatDoor

namespace Go.Proofs.YtlhicfpmlncomaaGreatDoor
open Go.RowKit
set_option linter.unusedSimpArgs false
set_option linter.unusedVariables false
end Go.Proofs.YtlhicfpmlncomaaGreatDoor

namespace Go.Proofs.YtlhicfpmlncomaaGreatDoor
open Go.RowKit
/-- A field of two structs (cells xs, ys): compared, it is told b. -/
inductive FieldEq (P : Program) (xs ys : List Value) : Field → Bool → Prop
 | int {f : Field} {k k' : IntKind} {a b : Int} (hn : f.name ≠ "_") (ht : P.underlying f.type = some (.int k')) (hx : xs[f.offset]? = some (.int k a)) (hy : ys[f.offset]? = some (.int k b)) : FieldEq P xs ys f (a == b)
 | bool {f : Field} {a b : Bool} (hn : f.name ≠ "_") (ht : P.underlying f.type = some .bool) (hx : xs[f.offset]? = some (.bool a)) (hy : ys[f.offset]? = some (.bool b)) : FieldEq P xs ys f (a == b)
 | str {f : Field} {a b : ByteArray} (hn : f.name ≠ "_") (ht : P.underlying f.type = some .string) (hx : xs[f.offset]? = some (.string a)) (hy : ys[f.offset]? = some (.string b)) : FieldEq P xs ys f (a.toList == b.toList)
 | arr {f : Field} {n : Nat} {u8 : TypeId} {l m : List UInt8} (hn : f.name ≠ "_") (ht : P.underlying f.type = some (.array n u8)) (hs : (P.info? f.type).map (·.size) = some n) (hb : P.underlying u8 = some (.int .u8)) (h1 : (P.info? u8).map (·.size) = some 1)
  (hl : l.length = n) (hm : m.length = n) (hx : (xs.drop f.offset).take n = l.map bv) (hy : (ys.drop f.offset).take n = m.map bv) : FieldEq P xs ys f (l == m)
section
variable {P : Program} {o : Oper} {a : Act} {K : Act → World → Prop} {Q : Exit → Act → World → Prop}
theorem run_part1 {f : Field} {d : TypeDesc} {xs : List Value} {v : Value} (hu : P.underlying f.type = some d) (hd : aggT d = false) (hv : xs[f.offset]? = some v) (w : World) : (part f.type xs.toArray f.offset).run P w = .ok v w := by
 have hagg : (isAgg f.type).run P w = .ok false w := by rw [run_isAgg hu w, hd]
 simp [part, hagg, hv]
theorem run_partA {f : Field} {n : Nat} {u8 : TypeId} {xs ls : List Value} (hu : P.underlying f.type = some (.array n u8)) (hs : (P.info? f.type).map (·.size) = some n) (hv : (xs.drop f.offset).take n = ls) (w : World) : (part f.type xs.toArray f.offset).run P w = .ok (.agg ls.toArray) w := by
 have hagg : (isAgg f.type).run P w = .ok true w := by rw [run_isAgg hu w]; rfl
 obtain ⟨j, hj, hsz⟩ := Option.map_eq_some_iff.1 hs
 have hso : (sizeOf f.type).run P w = .ok n w := by simp [sizeOf, typeInfo, hj, hsz]
 have hex : xs.toArray.extract f.offset (f.offset + n) = ls.toArray := by
  apply Array.ext'
  rw [Array.toList_extract]
  simp only [List.extract]
  rw [Nat.add_sub_cancel_left]
  exact hv
 unfold part
 rw [Sem.run_bind, hagg, Result.andThen_ok]
 simp only [if_true, Sem.run_bind, hso, Result.andThen_ok, Sem.run_pure, hex]
theorem FieldEq.run {xs ys : List Value} {f : Field} {b : Bool} (h : FieldEq P xs ys f b) (k : Nat) (w : World) :
  f.name ≠ "_" ∧ ∃ u v, (part f.type xs.toArray f.offset).run P w = .ok u w ∧ (part f.type ys.toArray f.offset).run P w = .ok v w ∧ (Op.equalIn (k + 2) f.type u v).run P w = .ok b w := by
 cases h with
 | int hn ht hx hy => exact ⟨hn, _, _, run_part1 ht rfl hx w, run_part1 ht rfl hy w, run_equalIn_int w (k + 1) _ _ _ _ _ ht⟩
 | bool hn ht hx hy => exact ⟨hn, _, _, run_part1 ht rfl hx w, run_part1 ht rfl hy w, run_equalIn_bool' w (k + 1) _ _ _ ht⟩
 | str hn ht hx hy => exact ⟨hn, _, _, run_part1 ht rfl hx w, run_part1 ht rfl hy w, run_equalIn_string w (k + 1) _ _ _ ht⟩
 | arr hn ht hs hb h1 hl hm hx hy => exact ⟨hn, _, _, run_partA ht hs hx w, run_partA ht hs hy w, run_eqBytes ht hb h1 _ _ hl hm k w⟩
/-- All fields, one behind the other. -/
inductive FieldsEq (P : Program) (xs ys : List Value) : List Field → Bool → Prop
 | nil : FieldsEq P xs ys [] true
 | cons {f : Field} {fs : List Field} {b c : Bool} (h : FieldEq P xs ys f b) (hs : FieldsEq P xs ys fs c) : FieldsEq P xs ys (f :: fs) (b && c)
theorem FieldsEq.run {xs ys : List Value} (k : Nat) (w : World) : ∀ {fs : List Field} {b : Bool}, FieldsEq P xs ys fs b → (Op.eqFields (k + 2) xs.toArray ys.toArray fs).run P w = .ok b w := by
 intro fs b h
 induction h with
 | nil => simp [Op.eqFields]
 | cons h _ ih =>
  obtain ⟨hn, u, v, p1, p2, p3⟩ := h.run k w
  rename_i b c _
  simp only [Op.eqFields, hn, ne_eq, not_false_eq_true, if_true, Sem.run_bind, p1, p2, p3, Result.andThen_ok]
  cases b <;> simp [ih]
/-- Two structs: compared, they are told b. -/
structure StructEq (P : Program) (t : TypeId) (xs ys : List Value) (b : Bool) : Prop where
 und : P.underlying t = some (.struct (P.fieldsOf t))
 stood : P.stoodInHeld t = false
 grd : P.eqGuardType P.depth t = false
 flds : FieldsEq P xs ys (P.fieldsOf t).toList b
theorem StructEq.run {t : TypeId} {xs ys : List Value} {b : Bool} (h : StructEq P t xs ys b) (k : Nat) (w : World) : (Op.equalIn (k + 3) t (.agg xs.toArray) (.agg ys.toArray)).run P w = .ok b w := by
 rw [run_equalIn_struct w (k + 2) t _ _ h.und h.stood]
 exact FieldsEq.run k w h.flds
end
end Go.Proofs.YtlhicfpmlncomaaGreatDoor

namespace Go.Proofs.YtlhicfpmlncomaaGreatDoor
open Go.RowKit
set_option linter.unusedSimpArgs false
set_option linter.unusedVariables false
/-- An element's kind, number and text, where elements stand side by side. -/
theorem VRd.parts {w : World} {S : Nat → Prop} {u : JV} {ci xs : List Value} {i : Nat} (h : VRd w S u ci) (hc : (xs.drop (i * 5)).take 5 = ci) :
  xs[i * 5]? = some (.int .i64 u.kind) ∧ xs[i * 5 + 1]? = some (.int .i64 u.num) ∧ xs[i * 5 + 2]? = some (.string ⟨u.text.toArray⟩) := by
 obtain ⟨k, n, t, ns, ks⟩ := u
 rw [VRd] at h
 obtain ⟨An, nn, cn, Ak, nk, ck, ys, hcn, hck, rfl, hrn, hrk, hvk⟩ := h
 have hg : ∀ j, j < 5 → xs[i * 5 + j]? = (vlL k n ⟨t.toArray⟩ (.slice An nn cn) (.slice Ak nk ck))[j]? := by
  intro j hj
  rw [← hc, List.getElem?_take, if_pos hj, List.getElem?_drop]
 exact ⟨hg 0 (by decide), hg 1 (by decide), hg 2 (by decide)⟩
end Go.Proofs.YtlhicfpmlncomaaGreatDoor

namespace Go.Proofs.YtlhicfpmlncomaaGreatDoor
open Go.RowKit
set_option linter.unusedSimpArgs false
set_option linter.unusedVariables false
theorem take_snoc1 {α : Type} {l : List α} {i : Nat} {x : α} (h : l[i]? = some x) : l.take (i + 1) = l.take i ++ [x] := by rw [List.take_add_one, h]; rfl
/-- The members that notes are. -/
def tMem (l : List MNote) : List (List UInt8 × JV) := l.map fun x => (x.key, jT x.val)
theorem tNotes_mem (l : List MNote) : tNotes l = .mk 6 0 [] ((tMem l).map (·.1)) ((tMem l).map (·.2)) := rfl
theorem tMem_snoc {l : List MNote} {i : Nat} {x : MNote} (h : l[i]? = some x) : tMem (l.take (i + 1)) = tMem (l.take i) ++ [(x.key, jT x.val)] := by
 unfold tMem
 rw [take_snoc1 h, List.map_append]
 rfl
theorem tWith_nil : tWith [] = [] := rfl
theorem tWith_some {l : List MNote} (h : l ≠ []) : tWith l = [(kNotes, tNotes l)] := if_neg h
end Go.Proofs.YtlhicfpmlncomaaGreatDoor

namespace Go.Proofs.YtlhicfpmlncomaaGreatDoor
open Go.RowKit
set_option linter.unusedSimpArgs false
set_option linter.unusedVariables false
set_option maxRecDepth 20000 in
set_option maxHeartbeats 6400000 in
theorem oput_any {X : List Nat} {w0 w : World} {es : List Ent} {g : Nat} {k num : Int} {t : ByteArray} {An Ak : Option Addr} {nn cn nk ck : Nat} {ns : List (List UInt8)} {xs : List Value} (s : List UInt8) (cs : List Value)
  (hF : Fr X w0 w (.own w0.heap.size 9 1 (.slice An nn cn) nn (ns.map strv) :: .own w0.heap.size 76 5 (.slice Ak nk ck) nk xs :: .blk g 116 (vlL k num t (.slice An nn cn) (.slice Ak nk ck)) :: es)) (hnn : nn ≤ 1000000) (hnk : nk ≤ 1000000) (hcl : cs.length = 5) (hco : ∀ u ∈ cs, u.oneCell' = true) :
  Calls Tryz.prog 57 #[.pointer (some ⟨g, 0, none⟩), .string ⟨s.toArray⟩, .agg cs.toArray] w fun e w' => ∃ A1 c1 A2 c2, nn + 1 ≤ c1 ∧ nk + 1 ≤ c2 ∧ e = .returned (.tuple #[]) ∧ Fr X w0 w' (.own w0.heap.size 9 1 (.slice A1 (nn + 1) c1) (nn + 1) ((ns ++ [s]).map strv) :: .own w0.heap.size 76 5 (.slice A2 (nk + 1) c2) (nk + 1) (xs ++ cs) :: .blk g 116 (vlL k num t (.slice A1 (nn + 1) c1) (.slice A2 (nk + 1) c2)) :: es) := by
 have hxl := box (hF.ownLen (i := 1) rfl)
 replace hcl := box hcl
 replace hco := box hco
 go_enter Tryz.func57, Tryz.ntmps57
 go_upto_region 2 with (first | ((with_reducible refine lsx (wp_fbox hF (cs := cs) rfl (by with_unfolding_all rfl) (by with_unfolding_all rfl) ?_)); intro w1 g1 hF1 hz1) | (with_reducible refine lsx (wp_fld3 hF1 Tryz.underlying48 rfl (by with_unfolding_all exact ⟨_, rfl, rfl⟩) rfl ?_)) | ((with_reducible refine lsx (wp_fbsl T_strs hF1 (vs := [.string ⟨s.toArray⟩]) (by with_unfolding_all rfl) (by with_unfolding_all rfl) (by with_unfolding_all rfl) (by decide) (by simp [Value.cells]) ?_)); intro w2 g2 hF2 hz2) | ((with_reducible refine lsx (wp_fappG T_strs hF2 (i := 2) rfl (Nat.le_refl _) hF2.rdOwn0 (strs_one1 _) (by with_unfolding_all exact ⟨_, _, rfl, rfl, rfl⟩) (by unfold maxLen; omega) (by omega) ?_)); intro v3 w3 hF3 hz3; simp only [zZ, zN] at hF3; obtain ⟨A3, c3, rfl, hc3⟩ := hF3.ownParts (i := 2) rfl) | ((with_reducible refine lsx (wp_fst4 hF3 (by with_unfolding_all exact ⟨_, _, rfl, rfl, rfl⟩) (by kernel_rfl) rfl rfl (by rw [vlL_len]; decide) (vlL_3 (a' := .slice A3 (nn + 1) c3)) ?_)); intro w4 hF4 hz4))
 have hFd := hF4.drew
 clear hF1 hF2 hF3 hF4
 refine wp_region_held (S := fun w' => w'.heap[g1]? = some (.cells (List.toArray cs) 76 (0, 0))) (by kernel_rfl) ?_
 change wpAnyH _ _ _ _ _ _ _ _ (World.drew _)
 refine tkp 0 (hFd.blk (i := 1) rfl) ?_
 (try simp only [zP, zQ, zS, zZ, zN])
 refine tkp 1 (hFd.blk (i := 1) rfl) ?_
 (try simp only [zP, zQ, zS, zZ, zN])
 refine tkp 2 (hFd.blk (i := 1) rfl) ?_
 (try simp only [zP, zQ, zS, zZ, zN])
 refine tkp 3 (hFd.blk (i := 1) rfl) ?_
 (try simp only [zP, zQ, zS, zZ, zN])
 refine tky 5 (y := yi_fldA (by with_unfolding_all rfl) (fun _ h => h) Tryz.underlying76 rfl (by with_unfolding_all exact ⟨_, rfl, rfl⟩) (ds := cs) (by rw [hcl.out]; kernel_rfl) (take_all _)) (s := (hFd.blk (i := 1) rfl)) (h := ?_)
 (try simp only [zP, zQ, zS, zZ, zN])
 refine wpAnyH_ready (rs := [4, 7]) (by kernel_rfl) (by simp) ?_
 refine AllReadyH.cons (by simp only [List.getElem?_toArray, List.getElem?_cons_zero, List.getElem?_cons_succ]; rfl) (fun K hK => ?_) ?_
 ·refine stp (by with_unfolding_all rfl) (wp_fld hFd (i := 4) rfl Tryz.underlying74 rfl (by with_unfolding_all exact ⟨_, rfl, rfl⟩) rfl ?_)
  refine hK.out _ _ ((hFd.blk (i := 1) rfl)) (fun _ => ?_)
  clear hK K
  (try simp only [zP, zQ, zS, zZ, zN])
  refine tkp 6 (hFd.blk (i := 1) rfl) ?_
  (try simp only [zP, zQ, zS, zZ, zN])
  refine rdy1 7 (fun K hK => ?_)
  refine stp (by with_unfolding_all rfl) (wp_fbs1 T_vals hFd (by with_unfolding_all rfl) (ds := vl0) (by with_unfolding_all rfl) rfl (by decide) ?_)
  intro w31 g31 hF31 hz31
  refine hK.out _ _ ((hF31.blk (i := 2) rfl)) (fun _ => ?_)
  clear hK K
  (try simp only [zP, zQ, zS, zZ, zN])
  refine rdy1 8 (fun K hK => ?_)
  refine stp (by with_unfolding_all rfl) (wp_fappG T_vals hF31 (i := 4) rfl (Nat.le_refl _) (hF31.rdOwn (i := 0) rfl) vlL_one (by with_unfolding_all exact ⟨_, _, rfl, rfl, rfl⟩) (by unfold maxLen; omega) (by omega) ?_)
  intro v32 w32 hF32 hz32
  (try simp only [zZ, zN] at hF32)
  obtain ⟨A32, c32, rfl, hc32⟩ := hF32.ownParts (i := 4) rfl
  refine hK.out _ _ ((hF32.blk (i := 2) rfl)) (fun _ => ?_)
  clear hK K
  (try simp only [zP, zQ, zS, zZ, zN])
  refine tkp 11 (hF32.blk (i := 2) rfl) ?_
  (try simp only [zP, zQ, zS, zZ, zN])
  refine tkp 12 (hF32.blk (i := 2) rfl) ?_
  (try simp only [zP, zQ, zS, zZ, zN])
  refine tkp 13 (hF32.blk (i := 2) rfl) ?_
  (try simp only [zP, zQ, zS, zZ, zN])
  refine wpAnyH_ready (rs := [9, 14]) (by kernel_rfl) (by simp) ?_
  refine AllReadyH.cons (by simp only [List.getElem?_toArray, List.getElem?_cons_zero, List.getElem?_cons_succ]; rfl) (fun K hK => ?_) ?_
  ·refine stp (by with_unfolding_all rfl) (wp_indexAddr T_vals (hF32.rdOwn (i := 4) rfl) (by with_unfolding_all exact ⟨_, _, _, _, rfl, rfl, rfl⟩) (by omega) (by omega) ?_)
   refine hK.out _ _ ((hF32.blk (i := 2) rfl)) (fun _ => ?_)
   clear hK K
   (try simp only [zP, zQ, zS, zZ, zN])
   refine wpAnyH_ready (rs := [10, 14]) (by kernel_rfl) (by simp) ?_
   refine AllReadyH.cons (by simp only [List.getElem?_toArray, List.getElem?_cons_zero, List.getElem?_cons_succ]; rfl) (fun K hK => ?_) ?_
   ·refine stp (by with_unfolding_all rfl) (wp_fstO hF32 (i := 4) rfl hxl.out (by with_unfolding_all exact ⟨_, _, rfl, rfl, rfl⟩) (by kernel_rfl) hcl.out hco.out ?_)
    intro w33 hF33 hz33
    (try simp only [zZ, zN] at hF33)
    refine hK.out _ _ ((hF33.blk (i := 2) rfl)) (fun _ => ?_)
    clear hK K
    (try simp only [zP, zQ, zS, zZ, zN])
    refine rdy1 14 (fun K hK => ?_)
    refine stp (by with_unfolding_all rfl) (wp_fst hF33 (i := 5) rfl (v := .slice A32 (nk + 1) c32) (by with_unfolding_all exact ⟨_, _, rfl, rfl, rfl⟩) (by kernel_rfl) rfl rfl (by rw [vlL_len]; decide) ?_)
    intro w34 hF34 hz34
    (try simp only [zZ, zN] at hF34)
    rw [(vlL_4 (k := k) (n := num) (t := t) (a := .slice A3 (nn + 1) c3) (b := .slice Ak nk ck))] at hF34
    refine hK.out _ _ ((hF34.blk (i := 2) rfl)) (fun _ => ?_)
    clear hK K
    (try simp only [zP, zQ, zS, zZ, zN])
    refine wpAnyH_done (by kernel_rfl) ?_ _
    go_wp2_with fail
    go_end0
    exact ⟨A3, c3, A32, c32, hc3, hc32, rfl, by
     rw [List.map_append]
     exact hF34.tail.tail.tail⟩
   refine AllReadyH.cons (by simp only [List.getElem?_toArray, List.getElem?_cons_zero, List.getElem?_cons_succ]; rfl) (fun K hK => ?_) ?_
   ·refine stp (by with_unfolding_all rfl) (wp_fst hF32 (i := 5) rfl (v := .slice A32 (nk + 1) c32) (by with_unfolding_all exact ⟨_, _, rfl, rfl, rfl⟩) (by kernel_rfl) rfl rfl (by rw [vlL_len]; decide) ?_)
    intro w33 hF33 hz33
    (try simp only [zZ, zN] at hF33)
    rw [(vlL_4 (k := k) (n := num) (t := t) (a := .slice A3 (nn + 1) c3) (b := .slice Ak nk ck))] at hF33
    refine hK.out _ _ ((hF33.blk (i := 2) rfl)) (fun _ => ?_)
    clear hK K
    (try simp only [zP, zQ, zS, zZ, zN])
    refine rdy1 10 (fun K hK => ?_)
    refine stp (by with_unfolding_all rfl) (wp_fstO hF33 (i := 4) rfl hxl.out (by with_unfolding_all exact ⟨_, _, rfl, rfl, rfl⟩) (by kernel_rfl) hcl.out hco.out ?_)
    intro w34 hF34 hz34
    (try simp only [zZ, zN] at hF34)
    refine hK.out _ _ ((hF34.blk (i := 2) rfl)) (fun _ => ?_)
    clear hK K
    (try simp only [zP, zQ, zS, zZ, zN])
    refine wpAnyH_done (by kernel_rfl) ?_ _
    go_wp2_with fail
    go_end0
    exact ⟨A3, c3, A32, c32, hc3, hc32, rfl, by
     rw [List.map_append]
     exact hF34.tail.tail.tail⟩
   exact AllReadyH.nil
  refine AllReadyH.cons (by simp only [List.getElem?_toArray, List.getElem?_cons_zero, List.getElem?_cons_succ]; rfl) (fun K hK => ?_) ?_
  ·refine stp (by with_unfolding_all rfl) (wp_fst hF32 (i := 5) rfl (v := .slice A32 (nk + 1) c32) (by with_unfolding_all exact ⟨_, _, rfl, rfl, rfl⟩) (by kernel_rfl) rfl rfl (by rw [vlL_len]; decide) ?_)
   intro w33 hF33 hz33
   (try simp only [zZ, zN] at hF33)
   rw [(vlL_4 (k := k) (n := num) (t := t) (a := .slice A3 (nn + 1) c3) (b := .slice Ak nk ck))] at hF33
   refine hK.out _ _ ((hF33.blk (i := 2) rfl)) (fun _ => ?_)
   clear hK K
   (try simp only [zP, zQ, zS, zZ, zN])
   refine rdy1 9 (fun K hK => ?_)
   refine stp (by with_unfolding_all rfl) (wp_indexAddr T_vals (hF33.rdOwn (i := 4) rfl) (by with_unfolding_all exact ⟨_, _, _, _, rfl, rfl, rfl⟩) (by omega) (by omega) ?_)
   refine hK.out _ _ ((hF33.blk (i := 2) rfl)) (fun _ => ?_)
   clear hK K
   (try simp only [zP, zQ, zS, zZ, zN])
   refine rdy1 10 (fun K hK => ?_)
   refine stp (by with_unfolding_all rfl) (wp_fstO hF33 (i := 4) rfl hxl.out (by with_unfolding_all exact ⟨_, _, rfl, rfl, rfl⟩) (by kernel_rfl) hcl.out hco.out ?_)
   intro w34 hF34 hz34
   (try simp only [zZ, zN] at hF34)
   refine hK.out _ _ ((hF34.blk (i := 2) rfl)) (fun _ => ?_)
   clear hK K
   (try simp only [zP, zQ, zS, zZ, zN])
   refine wpAnyH_done (by kernel_rfl) ?_ _
   go_wp2_with fail
   go_end0
   exact ⟨A3, c3, A32, c32, hc3, hc32, rfl, by
    rw [List.map_append]
    exact hF34.tail.tail.tail⟩
  exact AllReadyH.nil
 refine AllReadyH.cons (by simp only [List.getElem?_toArray, List.getElem?_cons_zero, List.getElem?_cons_succ]; rfl) (fun K hK => ?_) ?_
 ·refine stp (by with_unfolding_all rfl) (wp_fbs1 T_vals hFd (by with_unfolding_all rfl) (ds := vl0) (by with_unfolding_all rfl) rfl (by decide) ?_)
  intro w31 g31 hF31 hz31
  refine hK.out _ _ ((hF31.blk (i := 2) rfl)) (fun _ => ?_)
  clear hK K
  (try simp only [zP, zQ, zS, zZ, zN])
  refine rdy1 4 (fun K hK => ?_)
  refine stp (by with_unfolding_all rfl) (wp_fld hF31 (i := 5) rfl Tryz.underlying74 rfl (by with_unfolding_all exact ⟨_, rfl, rfl⟩) rfl ?_)
  refine hK.out _ _ ((hF31.blk (i := 2) rfl)) (fun _ => ?_)
  clear hK K
  (try simp only [zP, zQ, zS, zZ, zN])
  refine tkp 6 (hF31.blk (i := 2) rfl) ?_
  (try simp only [zP, zQ, zS, zZ, zN])
  refine rdy1 8 (fun K hK => ?_)
  refine stp (by with_unfolding_all rfl) (wp_fappG T_vals hF31 (i := 4) rfl (Nat.le_refl _) (hF31.rdOwn (i := 0) rfl) vlL_one (by with_unfolding_all exact ⟨_, _, rfl, rfl, rfl⟩) (by unfold maxLen; omega) (by omega) ?_)
  intro v32 w32 hF32 hz32
  (try simp only [zZ, zN] at hF32)
  obtain ⟨A32, c32, rfl, hc32⟩ := hF32.ownParts (i := 4) rfl
  refine hK.out _ _ ((hF32.blk (i := 2) rfl)) (fun _ => ?_)
  clear hK K
  (try simp only [zP, zQ, zS, zZ, zN])
  refine tkp 11 (hF32.blk (i := 2) rfl) ?_
  (try simp only [zP, zQ, zS, zZ, zN])
  refine tkp 12 (hF32.blk (i := 2) rfl) ?_
  (try simp only [zP, zQ, zS, zZ, zN])
  refine tkp 13 (hF32.blk (i := 2) rfl) ?_
  (try simp only [zP, zQ, zS, zZ, zN])
  refine wpAnyH_ready (rs := [9, 14]) (by kernel_rfl) (by simp) ?_
  refine AllReadyH.cons (by simp only [List.getElem?_toArray, List.getElem?_cons_zero, List.getElem?_cons_succ]; rfl) (fun K hK => ?_) ?_
  ·refine stp (by with_unfolding_all rfl) (wp_indexAddr T_vals (hF32.rdOwn (i := 4) rfl) (by with_unfolding_all exact ⟨_, _, _, _, rfl, rfl, rfl⟩) (by omega) (by omega) ?_)
   refine hK.out _ _ ((hF32.blk (i := 2) rfl)) (fun _ => ?_)
   clear hK K
   (try simp only [zP, zQ, zS, zZ, zN])
   refine wpAnyH_ready (rs := [10, 14]) (by kernel_rfl) (by simp) ?_
   refine AllReadyH.cons (by simp only [List.getElem?_toArray, List.getElem?_cons_zero, List.getElem?_cons_succ]; rfl) (fun K hK => ?_) ?_
   ·refine stp (by with_unfolding_all rfl) (wp_fstO hF32 (i := 4) rfl hxl.out (by with_unfolding_all exact ⟨_, _, rfl, rfl, rfl⟩) (by kernel_rfl) hcl.out hco.out ?_)
    intro w33 hF33 hz33
    (try simp only [zZ, zN] at hF33)
    refine hK.out _ _ ((hF33.blk (i := 2) rfl)) (fun _ => ?_)
    clear hK K
    (try simp only [zP, zQ, zS, zZ, zN])
    refine rdy1 14 (fun K hK => ?_)
    refine stp (by with_unfolding_all rfl) (wp_fst hF33 (i := 5) rfl (v := .slice A32 (nk + 1) c32) (by with_unfolding_all exact ⟨_, _, rfl, rfl, rfl⟩) (by kernel_rfl) rfl rfl (by rw [vlL_len]; decide) ?_)
    intro w34 hF34 hz34
    (try simp only [zZ, zN] at hF34)
    rw [(vlL_4 (k := k) (n := num) (t := t) (a := .slice A3 (nn + 1) c3) (b := .slice Ak nk ck))] at hF34
    refine hK.out _ _ ((hF34.blk (i := 2) rfl)) (fun _ => ?_)
    clear hK K
    (try simp only [zP, zQ, zS, zZ, zN])
    refine wpAnyH_done (by kernel_rfl) ?_ _
    go_wp2_with fail
    go_end0
    exact ⟨A3, c3, A32, c32, hc3, hc32, rfl, by
     rw [List.map_append]
     exact hF34.tail.tail.tail⟩
   refine AllReadyH.cons (by simp only [List.getElem?_toArray, List.getElem?_cons_zero, List.getElem?_cons_succ]; rfl) (fun K hK => ?_) ?_
   ·refine stp (by with_unfolding_all rfl) (wp_fst hF32 (i := 5) rfl (v := .slice A32 (nk + 1) c32) (by with_unfolding_all exact ⟨_, _, rfl, rfl, rfl⟩) (by kernel_rfl) rfl rfl (by rw [vlL_len]; decide) ?_)
    intro w33 hF33 hz33
    (try simp only [zZ, zN] at hF33)
    rw [(vlL_4 (k := k) (n := num) (t := t) (a := .slice A3 (nn + 1) c3) (b := .slice Ak nk ck))] at hF33
    refine hK.out _ _ ((hF33.blk (i := 2) rfl)) (fun _ => ?_)
    clear hK K
    (try simp only [zP, zQ, zS, zZ, zN])
    refine rdy1 10 (fun K hK => ?_)
    refine stp (by with_unfolding_all rfl) (wp_fstO hF33 (i := 4) rfl hxl.out (by with_unfolding_all exact ⟨_, _, rfl, rfl, rfl⟩) (by kernel_rfl) hcl.out hco.out ?_)
    intro w34 hF34 hz34
    (try simp only [zZ, zN] at hF34)
    refine hK.out _ _ ((hF34.blk (i := 2) rfl)) (fun _ => ?_)
    clear hK K
    (try simp only [zP, zQ, zS, zZ, zN])
    refine wpAnyH_done (by kernel_rfl) ?_ _
    go_wp2_with fail
    go_end0
    exact ⟨A3, c3, A32, c32, hc3, hc32, rfl, by
     rw [List.map_append]
     exact hF34.tail.tail.tail⟩
   exact AllReadyH.nil
  refine AllReadyH.cons (by simp only [List.getElem?_toArray, List.getElem?_cons_zero, List.getElem?_cons_succ]; rfl) (fun K hK => ?_) ?_
  ·refine stp (by with_unfolding_all rfl) (wp_fst hF32 (i := 5) rfl (v := .slice A32 (nk + 1) c32) (by with_unfolding_all exact ⟨_, _, rfl, rfl, rfl⟩) (by kernel_rfl) rfl rfl (by rw [vlL_len]; decide) ?_)
   intro w33 hF33 hz33
   (try simp only [zZ, zN] at hF33)
   rw [(vlL_4 (k := k) (n := num) (t := t) (a := .slice A3 (nn + 1) c3) (b := .slice Ak nk ck))] at hF33
   refine hK.out _ _ ((hF33.blk (i := 2) rfl)) (fun _ => ?_)
   clear hK K
   (try simp only [zP, zQ, zS, zZ, zN])
   refine rdy1 9 (fun K hK => ?_)
   refine stp (by with_unfolding_all rfl) (wp_indexAddr T_vals (hF33.rdOwn (i := 4) rfl) (by with_unfolding_all exact ⟨_, _, _, _, rfl, rfl, rfl⟩) (by omega) (by omega) ?_)
   refine hK.out _ _ ((hF33.blk (i := 2) rfl)) (fun _ => ?_)
   clear hK K
   (try simp only [zP, zQ, zS, zZ, zN])
   refine rdy1 10 (fun K hK => ?_)
   refine stp (by with_unfolding_all rfl) (wp_fstO hF33 (i := 4) rfl hxl.out (by with_unfolding_all exact ⟨_, _, rfl, rfl, rfl⟩) (by kernel_rfl) hcl.out hco.out ?_)
   intro w34 hF34 hz34
   (try simp only [zZ, zN] at hF34)
   refine hK.out _ _ ((hF34.blk (i := 2) rfl)) (fun _ => ?_)
   clear hK K
   (try simp only [zP, zQ, zS, zZ, zN])
   refine wpAnyH_done (by kernel_rfl) ?_ _
   go_wp2_with fail
   go_end0
   exact ⟨A3, c3, A32, c32, hc3, hc32, rfl, by
    rw [List.map_append]
    exact hF34.tail.tail.tail⟩
  exact AllReadyH.nil
 exact AllReadyH.nil
set_option maxRecDepth 20000 in
set_option maxHeartbeats 6400000 in
theorem otext_any {X : List Nat} {w0 w : World} {es : List Ent} {g : Nat} {k num : Int} {t : ByteArray} {An Ak : Option Addr} {nn cn nk ck : Nat} {ns : List (List UInt8)} {xs : List Value} (s x : List UInt8)
  (hF : Fr X w0 w (.own w0.heap.size 9 1 (.slice An nn cn) nn (ns.map strv) :: .own w0.heap.size 76 5 (.slice Ak nk ck) nk xs :: .blk g 116 (vlL k num t (.slice An nn cn) (.slice Ak nk ck)) :: es)) (hnn : nn ≤ 1000000) (hnk : nk ≤ 1000000) :
  Calls Tryz.prog 58 #[.pointer (some ⟨g, 0, none⟩), .string ⟨s.toArray⟩, .string ⟨x.toArray⟩] w fun e w' => ∃ A1 c1 A2 c2, nn + 1 ≤ c1 ∧ nk + 1 ≤ c2 ∧ e = .returned (.tuple #[]) ∧ Fr X w0 w' (.own w0.heap.size 9 1 (.slice A1 (nn + 1) c1) (nn + 1) ((ns ++ [s]).map strv) :: .own w0.heap.size 76 5 (.slice A2 (nk + 1) c2) (nk + 1) (xs ++ (vlL 4 0 ⟨x.toArray⟩ (.slice none 0 0) (.slice none 0 0))) :: .blk g 116 (vlL k num t (.slice A1 (nn + 1) c1) (.slice A2 (nk + 1) c2)) :: es) := by
 go_enter Tryz.func58, Tryz.ntmps58
 go_wp2_with (first | (with_reducible refine lsx (wp_fbuild Tryz.underlying76 (z := .agg (List.toArray vl0)) (by kernel_rfl) (pl := vlP) (by kernel_rfl) (cs := (vlL 4 0 ⟨x.toArray⟩ (.slice none 0 0) (.slice none 0 0))) rfl (vs := [(0, .int .i64 4), (2, .string ⟨x.toArray⟩)]) (by with_unfolding_all rfl) (by with_unfolding_all rfl) ?_)))
 refine (oput_any s _ hF hnn hnk rfl vlL_one).mono ?_
 rintro e w2 ⟨A1, c1, A2, c2, h1, h2, rfl, hF2⟩
 go_wp2_with fail
 go_end0
 exact ⟨A1, c1, A2, c2, h1, h2, rfl, hF2⟩
end Go.Proofs.YtlhicfpmlncomaaGreatDoor

namespace Go.Proofs.YtlhicfpmlncomaaGreatDoor
open Go.RowKit
def part (l m : List UInt8) (j : Nat) : List UInt8 := l.take j ++ m.drop j
theorem str_app (a b : ByteArray) : (a ++ b).data.toList = a.data.toList ++ b.data.toList := by simp
theorem str_ext {a b : ByteArray} (h : a.data.toList = b.data.toList) : a = b := ByteArray.ext (Array.ext' h)
theorem dgT_str (d : List UInt8) : (⟨(dgT d).toArray⟩ : ByteArray) = ⟨#[115, 104, 97, 50, 53, 54, 58]⟩ ++ ⟨(hexL d).toArray⟩ := str_ext (by rw [str_app]; rfl)
set_option maxRecDepth 20000 in
set_option maxHeartbeats 800000 in
theorem dgText_any (d : List UInt8) (w : World) (hd : d.length = 32) : Calls Tryz.prog 82 #[.agg (d.map bv).toArray] w fun e w' => e = .returned (.string ⟨(dgT d).toArray⟩) ∧ Below w.heap.size w w' := by
 have hF0 := Fr.nil w
 replace hd := box hd
 have hdm : Box ((d.map bv).length = 32) := box (by rw [List.length_map]; exact hd.out)
 go_enter Tryz.func82, Tryz.ntmps82
 go_wp2_with (first | ((with_reducible refine lsx (wp_fbox hF0 (cs := (d.map bv)) rfl (by with_unfolding_all rfl) (by with_unfolding_all rfl) ?_)); intro w1 g1 hF1 hz1))
 have hr := hF1.rdBlk (i := 0) (off := 0) (n := 32) (xs := d.map bv) rfl hdm.out (by rw [List.drop_zero, List.take_of_length_le (by have := hdm.out; omega)])
 refine (hex_any _ 32 _ d _ (by omega) hr).mono ?_
 rintro e w2 ⟨rfl, hb2⟩
 have hF2 := hF1.call hb2
 have hlen : (hexL d).length ≤ 64 := by rw [hexL_len2, hd.out]; exact Nat.le_refl _
 go_wp2_with fail
 go_ret
 exact ⟨by rw [dgT_str]; rfl, hF2.below⟩
end Go.Proofs.YtlhicfpmlncomaaGreatDoor

namespace Go.Proofs.YtlhicfpmlncomaaGreatDoor
open Go.RowKit
set_option linter.unusedSimpArgs false
set_option linter.unusedVariables false
theorem VTL.app : ∀ {ks ks' : List JV} {xs xs' : List Value} {TE TE' : List Ent}, VTL ks xs TE → VTL ks' xs' TE' → VTL (ks ++ ks') (xs ++ xs') (TE ++ TE')
 | [], ks', xs, xs', TE, TE', h, h' => by
  unfold VTL at h
  obtain ⟨rfl, rfl⟩ := h
  exact h'
 | k :: ks, ks', xs, xs', TE, TE', h, h' => by
  rw [VTL] at h
  obtain ⟨c1, ys, E1, E2, rfl, rfl, h1, h2⟩ := h
  rw [List.cons_append, VTL]
  exact ⟨c1, ys ++ xs', E1, E2 ++ TE', by simp, by simp, h1, VTL.app h2 h'⟩
theorem perm12 {α : Type} (a n k : α) (r : List α) : (a :: n :: k :: r).Perm (n :: k :: a :: r) := (List.Perm.swap _ _ _).trans ((List.Perm.swap _ _ _).cons _)
/-- What stands behind a value that has no members. -/
abbrev tLf : List Ent := [.rd none 1 0 [], .rd none 5 0 []]
theorem Fr.lf {X : List Nat} {w0 w : World} {es es' : List Ent} {a b : Ent} (h : Fr X w0 w (a :: b :: (es ++ es'))) : Fr X w0 w (a :: b :: ((es ++ tLf) ++ es')) :=
 ((h.pushNone 5).pushNone 1).perm (by
  have e1 : (Ent.rd none 1 0 [] :: Ent.rd none 5 0 [] :: a :: b :: (es ++ es')) = tLf ++ ((a :: b :: es) ++ es') := rfl
  have e2 : (a :: b :: ((es ++ tLf) ++ es')) = (a :: b :: es) ++ (tLf ++ es') := by simp
  rw [e1, e2]
  exact List.perm_append_comm_assoc _ _ _)
/-- What a desc is told as. -/
def TDesc (w : World) (v : JV) (e : Ending) (w' : World) : Prop := ∃ cs es, e = .returned (.agg cs.toArray) ∧ VT v cs es ∧ Fr [] w w' es
end Go.Proofs.YtlhicfpmlncomaaGreatDoor

namespace Go.Proofs.YtlhicfpmlncomaaGreatDoor
open Go.RowKit
set_option linter.unusedSimpArgs false
set_option linter.unusedVariables false
def objP : List (Nat × Nat) := [(0, 5)]
/-- An object with members more, in the caller's frame. -/
def OMore (w0 : World) (es : List Ent) (g : Nat) (num : Int) (t : ByteArray) (nn nk : Nat) (ns : List (List UInt8)) (xs : List Value) (ms : List (List UInt8 × JV)) (e : Ending) (w' : World) : Prop :=
 ∃ A1 c1 A2 c2 zs E2, nn + ms.length ≤ c1 ∧ nk + ms.length ≤ c2 ∧ e = .returned (.tuple #[]) ∧ VTL (ms.map (·.2)) zs E2 ∧
  Fr [] w0 w' (.own w0.heap.size 9 1 (.slice A1 (nn + ms.length) c1) (nn + ms.length) ((ns ++ ms.map (·.1)).map strv) :: .own w0.heap.size 76 5 (.slice A2 (nk + ms.length) c2) (nk + ms.length) (xs ++ zs) :: .blk g 116 (vlL 6 num t (.slice A1 (nn + ms.length) c1) (.slice A2 (nk + ms.length) c2)) :: (es ++ E2))
theorem perm13 {α : Type} (a n k o : α) (r : List α) : (a :: n :: k :: o :: r).Perm (n :: k :: o :: a :: r) := (perm12 a n k (o :: r)).trans (((List.Perm.swap _ _ _).cons _).cons _)
theorem operm {α : Type} (a b p n k o : α) (es te : List α) : (a :: b :: p :: n :: k :: o :: (es ++ te)).Perm (n :: k :: o :: p :: (es ++ (a :: b :: te))) := by
 have e1 : (a :: b :: p :: n :: k :: o :: (es ++ te)) = [a, b] ++ (([p] ++ [n, k, o]) ++ (es ++ te)) := rfl
 have e2 : (n :: k :: o :: p :: (es ++ (a :: b :: te))) = ([n, k, o] ++ [p]) ++ (es ++ ([a, b] ++ te)) := by simp
 rw [e1, e2]
 refine List.Perm.trans (List.perm_append_comm_assoc _ _ _) ?_
 exact List.Perm.append List.perm_append_comm (List.perm_append_comm_assoc _ _ _)
set_option maxRecDepth 20000 in
set_option maxHeartbeats 12800000 in
theorem onotes_any {w0 w : World} {es : List Ent} {g : Nat} {num : Int} {t : ByteArray} {An Ak : Option Addr} {nn cn nk ck : Nat} {ns : List (List UInt8)} {xs : List Value} (l : List MNote) (Al : Option Addr) (nl cl : Nat)
  (hF : Fr [] w0 w (.own w0.heap.size 9 1 (.slice An nn cn) nn (ns.map strv) :: .own w0.heap.size 76 5 (.slice Ak nk ck) nk xs :: .blk g 116 (vlL 6 num t (.slice An nn cn) (.slice Ak nk ck)) :: es)) (hnn : nn ≤ 1000) (hnk : nk ≤ 1000) (hcn : nn ≤ cn) (hck : nk ≤ ck) (hl : nl = l.length) (hll : nl ≤ 1000000) (hr : Rd w0 (· < w0.heap.size) Al 2 nl (ntsL l)) :
  Calls Tryz.prog 60 #[.pointer (some ⟨g, 0, none⟩), .slice Al nl cl] w (OMore w0 es g num t nn nk ns xs (tWith l)) := by
 by_cases hl0 : l = []
 ·subst hl0
  obtain rfl : nl = 0 := hl
  go_enter Tryz.func60, Tryz.ntmps60
  go_wp2_with fail
  ((try simp only [Exit.inBlock, Exit.then]); refine bodyPost_ret (results_none rfl _ _ _) rfl ?_)
  unfold OMore
  exact ⟨An, cn, Ak, ck, [], [], hcn, hck, rfl, VTL.nil, by simpa [tWith_nil] using hF⟩
 ·have hlp : 0 < l.length := List.length_pos_iff.2 hl0
  have hq : ((nl : Int) == 0) = false := by rw [beq_eq_false_iff_ne]; omega
  have hw := tWith_some hl0
  replace hl := box hl
  replace hl0 := box hl0
  replace hw := box hw
  clear hlp
  go_enter Tryz.func60, Tryz.ntmps60
  go_wp2_with (first | (with_reducible refine lsx (wp_fbuild Tryz.underlying76 (z := .agg (List.toArray vl0)) (by kernel_rfl) (pl := vlP) (by kernel_rfl) (cs := (vlL 6 0 ⟨#[]⟩ (.slice none 0 0) (.slice none 0 0))) rfl (vs := [(0, .int .i64 6)]) (by with_unfolding_all rfl) (by with_unfolding_all rfl) ?_)) | (with_reducible refine lsx (wp_fbuild Tryz.underlying116 (z := .agg (List.toArray vl0)) (by kernel_rfl) (pl := objP) (by kernel_rfl) (cs := (vlL 6 0 ⟨#[]⟩ (.slice none 0 0) (.slice none 0 0))) rfl (vs := [(0, .agg (vlL 6 0 ⟨#[]⟩ (.slice none 0 0) (.slice none 0 0)).toArray)]) (by with_unfolding_all rfl) (by with_unfolding_all rfl) ?_)) | ((with_reducible refine lsx (wp_falloc hF (cs := vl0) (z := .agg (List.toArray (vl0))) rfl (by kernel_rfl) (by with_unfolding_all rfl) ?_)); intro w3 g3 hF3 hz3) | ((with_reducible refine lsx (wp_fstA0 hF3 (by with_unfolding_all exact ⟨_, _, rfl, rfl, rfl⟩) (by rw [vlL_len]; kernel_rfl) vlL_one vlL_fit vlL_spl ?_)); intro w4 hF4 hz4))
  have hF5 := (hF4.none_ w0.heap.size 76 5).none_ w0.heap.size 9 1
  clear hF3 hF4
  go_loopg [14] nl (fun gg iv wr => ∃ (i : Nat) (A : Option Addr) (c : Nat) (B : Option Addr) (d : Nat) (ys : List Value) (TE : List Ent), i ≤ nl ∧ Box (gg = nl - i) ∧ iv = .int .i64 (i : Int) ∧ i ≤ c ∧ i ≤ d ∧ Box (VTL ((tMem (l.take i)).map (·.2)) ys TE) ∧ Fr [] w0 wr (.own w0.heap.size 9 1 (.slice A i c) i (((tMem (l.take i)).map (·.1)).map strv) :: .own w0.heap.size 76 5 (.slice B i d) i ys :: .blk g3 116 (vlL 6 0 ⟨#[]⟩ (.slice A i c) (.slice B i d)) :: .own w0.heap.size 9 1 (.slice An nn cn) nn (ns.map strv) :: .own w0.heap.size 76 5 (.slice Ak nk ck) nk xs :: .blk g 116 (vlL 6 num t (.slice An nn cn) (.slice Ak nk ck)) :: (es ++ TE)))
  case atStart => exact ⟨0, none, 0, none, 0, [], [], by omega, box rfl, rfl, Nat.le_refl _, Nat.le_refl _, box VTL.nil, by simpa [tMem] using hF5⟩
  case round =>
   clear hF5 hF
   obtain ⟨i, A, c, B, d, ys, TE, hi, hgi, rfl, hic, hid, hT, hF⟩ := hrel
   have hkk : Box (_ = nl - i) := hgi
   clear hgi
   by_cases hlt : i < nl
   ·obtain ⟨x, hx'⟩ : ∃ x, l[i]? = some x := ⟨l[i]'(by rw [← hl.out]; exact hlt), by simp⟩
    have hx := box hx'
    have hxa := box (ntsL_at hx')
    have hrl := hr.below hF.below
    clear hx'
    go_wp2_with (first | (with_reducible refine lsx (wp_indexAddr T_notes hrl (by with_unfolding_all exact ⟨_, _, _, _, rfl, rfl, rfl⟩) (by omega) (by omega) ?_)) | (with_reducible refine lsx (wp_loadA hrl Tryz.underlying70 rfl (by with_unfolding_all exact ⟨_, rfl, rfl⟩) (ds := (ntL x)) (by kernel_rfl) (by with_unfolding_all exact hxa.out) ?_)) | ((with_reducible refine lsx (wp_falloc hF (cs := [.string ⟨#[]⟩, .string ⟨#[]⟩]) (z := .agg (List.toArray ([.string ⟨#[]⟩, .string ⟨#[]⟩]))) rfl (by kernel_rfl) (by with_unfolding_all rfl) ?_)); intro w6 g6 hF6 hz6) | ((with_reducible refine lsx (wp_fstA0 hF6 (by with_unfolding_all exact ⟨_, _, rfl, rfl, rfl⟩) (by kernel_rfl) (ntL_one _) (Nat.le_refl 2) (spl_all rfl : spl [.string ⟨#[]⟩, .string ⟨#[]⟩] 0 (ntL x) = ntL x) ?_)); intro w7 hF7 hz7) | (with_reducible refine lsx (wp_fld0 hF7 Tryz.underlying9 rfl (by with_unfolding_all exact ⟨_, rfl, rfl⟩) rfl ?_)))
    have hF8 := hF7.perm (perm13 _ _ _ _ _)
    refine (otext_any x.key x.val hF8 (by omega) (by omega)).mono ?_
    rintro e w9 ⟨A9, c9, B9, d9, hc9, hd9, rfl, hF9⟩
    clear hF6 hF7 hF8
    go_wp2_with fail
    go_roundg (nl - (i + 1))
    case rel => exact ⟨i + 1, A9, c9, B9, d9, ys ++ (vlL 4 0 ⟨x.val.toArray⟩ (.slice none 0 0) (.slice none 0 0)), TE ++ [.rd none 1 0 [], .rd none 5 0 []], by omega, box rfl, by go_num, hc9, hd9, box (by rw [tMem_snoc hx.out, List.map_append]; exact hT.out.snoc VT.leaf), (((hF9.sub (List.Sublist.cons_cons _ (List.Sublist.cons_cons _ (List.Sublist.cons_cons _ (List.Sublist.cons _ (List.Sublist.refl _)))))).pushNone 5).pushNone 1).perm (by rw [tMem_snoc hx.out, List.map_append]; refine (List.perm_append_comm (l₁ := [Ent.rd none 1 0 [], Ent.rd none 5 0 []])).trans (by simp))⟩
    case measure => have := hkk.out; omega
   ·obtain rfl : nl = i := by omega
    have htk : l.take nl = l := by rw [hl.out]; exact List.take_length
    rw [htk] at hT hF
    clear htk
    have hG := ((hF.toRd (i := 0) rfl).toRd (i := 1) rfl).perm (es' := .own w0.heap.size 9 1 (.slice An nn cn) nn (ns.map strv) :: .own w0.heap.size 76 5 (.slice Ak nk ck) nk xs :: .blk g 116 (vlL 6 num t (.slice An nn cn) (.slice Ak nk ck)) :: .blk g3 116 (vlL 6 0 ⟨#[]⟩ (.slice A nl c) (.slice B nl d)) :: (es ++ (.rd A 1 nl (((tMem l).map (·.1)).map strv) :: .rd B 5 nl ys :: TE))) (by
     simp only [zZ, zN]
     exact operm _ _ _ _ _ _ _ _)
    have hVN : VT (tNotes l) (vlL 6 0 ⟨#[]⟩ (.slice A nl c) (.slice B nl d)) (.rd A 1 nl (((tMem l).map (·.1)).map strv) :: .rd B 5 nl ys :: TE) := by
     rw [tNotes_mem]; exact VT.mk_ hic hid hT.out
    clear hF
    go_wp2_with (first | (with_reducible refine lsx (wp_fldA3 hG Tryz.underlying76 rfl (by with_unfolding_all exact ⟨_, rfl, rfl⟩) (ds := (vlL 6 0 ⟨#[]⟩ (.slice A nl c) (.slice B nl d))) (by rw [vlL_len]; kernel_rfl) (take_all _) ?_)))
    refine (oput_any kNotes _ hG (by omega) (by omega) rfl vlL_one).mono ?_
    rintro e w7 ⟨A7, c7, B7, d7, hc7, hd7, rfl, hF7⟩
    clear hG
    go_wp2_with fail
    go_end0
    unfold OMore
    rw [hw.out]
    exact ⟨A7, c7, B7, d7, _, _, hc7, hd7, rfl, VTL.snoc VTL.nil hVN, hF7.sub (List.Sublist.cons_cons _ (List.Sublist.cons_cons _ (List.Sublist.cons_cons _ (List.Sublist.cons _ (List.Sublist.refl _)))))⟩
set_option maxRecDepth 20000 in
set_option maxHeartbeats 12800000 in
theorem ptold_any (d : MDesc) (cs : List Value) (w : World) (hD : RdD w d cs) (hB : d.notes.length ≤ 1000000) :
  Calls Tryz.prog 59 #[.agg cs.toArray] w (TDesc w (tDesc d)) := by
 obtain ⟨nt, hd', ⟨A, n, c, hnc, hn', rfl, hr'⟩, rfl⟩ := hD
 have htd : Box (tDesc d = .mk 6 0 [] (([] ++ [kMedia] ++ [kDigest] ++ [kSize]) ++ (tWith d.notes).map (·.1)) (([] ++ [jT d.media] ++ [jT (dgT d.dig)] ++ [jN d.size]) ++ (tWith d.notes).map (·.2))) := box (by
  show jO _ = _
  unfold jO
  rw [List.map_append, List.map_append]
  rfl)
 have hbd := box (show n ≤ 1000000 by omega)
 obtain ⟨m, hm⟩ : ∃ m, m = d.media := ⟨_, rfl⟩
 obtain ⟨dg, hdg⟩ : ∃ dg, dg = d.dig := ⟨_, rfl⟩
 obtain ⟨z, hz0⟩ : ∃ z, z = d.size := ⟨_, rfl⟩
 rw [← hm, ← hdg, ← hz0] at htd
 rw [← hm, ← hdg, ← hz0]
 rw [← hdg] at hd'
 clear hm hdg hz0
 have hd := box hd'
 have hr := box hr'
 have hn := box hn'
 have hdl := box (dsL_len (m := m) (z := z) (nt := .slice A n c) hd')
 clear hd' hr' hn' hB
 have hF0 := Fr.nil w
 go_enter Tryz.func59, Tryz.ntmps59
 go_wp2_with (first | ((with_reducible refine lsx (wp_fbox hF0 (cs := (dsL m dg z (.slice A n c))) rfl (by with_unfolding_all rfl) (by with_unfolding_all rfl) ?_)); intro w1 g1 hF1 hz1) | ((with_reducible refine lsx (wp_falloc hF1 (cs := vl0) (z := .agg (List.toArray (vl0))) rfl (by kernel_rfl) (by with_unfolding_all rfl) ?_)); intro w2 g2 hF2 hz2) | (with_reducible refine lsx (wp_fbuild Tryz.underlying76 (z := .agg (List.toArray vl0)) (by kernel_rfl) (pl := vlP) (by kernel_rfl) (cs := (vlL 6 0 ⟨#[]⟩ (.slice none 0 0) (.slice none 0 0))) rfl (vs := [(0, .int .i64 6)]) (by with_unfolding_all rfl) (by with_unfolding_all rfl) ?_)) | (with_reducible refine lsx (wp_fbuild Tryz.underlying116 (z := .agg (List.toArray vl0)) (by kernel_rfl) (pl := objP) (by kernel_rfl) (cs := (vlL 6 0 ⟨#[]⟩ (.slice none 0 0) (.slice none 0 0))) rfl (vs := [(0, .agg (vlL 6 0 ⟨#[]⟩ (.slice none 0 0) (.slice none 0 0)).toArray)]) (by with_unfolding_all rfl) (by with_unfolding_all rfl) ?_)) | ((with_reducible refine lsx (wp_falloc hF2 (cs := vl0) (z := .agg (List.toArray (vl0))) rfl (by kernel_rfl) (by with_unfolding_all rfl) ?_)); intro w3 g3 hF3 hz3) | ((with_reducible refine lsx (wp_fstA0 hF3 (by with_unfolding_all exact ⟨_, _, rfl, rfl, rfl⟩) (by rw [vlL_len]; kernel_rfl) vlL_one vlL_fit vlL_spl ?_)); intro w4 hF4 hz4) | (with_reducible refine lsx (wp_fld2 hF4 Tryz.underlying9 rfl (by with_unfolding_all exact ⟨_, rfl, rfl⟩) dsL_m0 ?_)))
 have hG4 := (hF4.none_ w.heap.size 76 5).none_ w.heap.size 9 1
 clear hF0 hF1 hF2 hF3 hF4
 refine (otext_any (ns := []) kMedia m hG4 (by omega) (by omega)).mono ?_
 rintro e w5 ⟨A5, c5, B5, d5, hc5, hd5, rfl, hF5⟩
 clear hG4
 go_wp2_with (first | (with_reducible refine lsx (wp_fldA4 hF5 Tryz.underlying25 rfl (by with_unfolding_all exact ⟨_, rfl, rfl⟩) (ds := (dg.map bv)) (by rw [List.length_map, hd.out]; kernel_rfl) (by rw [List.length_map, hd.out]; exact dsL_dig hd.out) ?_)))
 refine (dgText_any dg _ hd.out).mono ?_
 rintro e w6 ⟨rfl, hb6⟩
 have hF6 := hF5.call hb6
 clear hF5
 go_wp2_with fail
 refine (otext_any kDigest (dgT dg) hF6 (by omega) (by omega)).mono ?_
 rintro e w7 ⟨A7, c7, B7, d7, hc7, hd7, rfl, hF7⟩
 clear hF6
 go_wp2_with (first | (with_reducible refine lsx (wp_fld4 hF7 Tryz.underlying3 rfl (by with_unfolding_all exact ⟨_, rfl, rfl⟩) (dsL_size hd.out) ?_)) | (with_reducible refine lsx (wp_fbuild Tryz.underlying76 (z := .agg (List.toArray vl0)) (by kernel_rfl) (pl := vlP) (by kernel_rfl) (cs := (vlL 3 z ⟨#[]⟩ (.slice none 0 0) (.slice none 0 0))) rfl (vs := [(0, .int .i64 3), (1, .int .i64 z)]) (by with_unfolding_all rfl) (by with_unfolding_all rfl) ?_)))
 refine (oput_any kSize (vlL 3 z ⟨#[]⟩ (.slice none 0 0) (.slice none 0 0)) hF7 (by omega) (by omega) rfl vlL_one).mono ?_
 rintro e w50 ⟨A50, c50, B50, d50, hc50, hd50, rfl, hF50⟩
 clear hF7
 go_wp2_with (first | (with_reducible refine lsx (wp_fld4 hF50 Tryz.underlying26 rfl (by with_unfolding_all exact ⟨_, rfl, rfl⟩) (dsL_notes hd.out) ?_)))
 refine (onotes_any d.notes A n c hF50 (by omega) (by omega) hc50 hd50 hn.out hbd.out hr.out).mono ?_
 rintro e w52 ⟨A52, c52, B52, d52, zs, E2, hc52, hd52, rfl, hz, hF52⟩
 clear hF50
 go_wp2_with (first | (with_reducible refine lsx (wp_fldA2 hF52 Tryz.underlying76 rfl (by with_unfolding_all exact ⟨_, rfl, rfl⟩) (ds := (vlL 6 0 ⟨#[]⟩ (.slice A52 (0 + 1 + 1 + 1 + (tWith d.notes).length) c52) (.slice B52 (0 + 1 + 1 + 1 + (tWith d.notes).length) d52))) (by rw [vlL_len]; kernel_rfl) (take_all _) ?_)) | ((with_reducible refine lsx (wp_fstA3 hF52 (by with_unfolding_all exact ⟨_, _, rfl, rfl, rfl⟩) (by rw [vlL_len]; kernel_rfl) vlL_one vlL_fit vlL_spl ?_)); intro w53 hF53 hz53))
 exact bodyPost_ret (results_cellF rfl _ hF53 (i := 3) rfl rfl Tryz.underlying76 rfl (by rw [vlL_len]; kernel_rfl)) rfl (by
  unfold TDesc
  have hG := (((hF53.toRd (i := 0) rfl).toRd (i := 1) rfl).sub (es' := .rd A52 1 (0 + 1 + 1 + 1 + (tWith d.notes).length) ((([] ++ [kMedia] ++ [kDigest] ++ [kSize]) ++ (tWith d.notes).map (fun x : List UInt8 × JV => x.1)).map strv) :: .rd B52 5 (0 + 1 + 1 + 1 + (tWith d.notes).length) ((([] ++ (vlL 4 0 ⟨(m).toArray⟩ (.slice none 0 0) (.slice none 0 0)) ++ (vlL 4 0 ⟨(dgT dg).toArray⟩ (.slice none 0 0) (.slice none 0 0))) ++ (vlL 3 z ⟨#[]⟩ (.slice none 0 0) (.slice none 0 0))) ++ zs) :: E2) (List.Sublist.cons_cons _ (List.Sublist.cons_cons _ (List.Sublist.cons _ (List.Sublist.cons _ (List.Sublist.cons _ (List.Sublist.refl _)))))))
  refine ⟨_, _, rfl, ?_, (Fr.lf (es := tLf ++ tLf) (Fr.lf (es := tLf) (Fr.lf (es := []) hG)))⟩
  rw [htd.out]
  exact VT.mk_ (t := []) hc52 hd52 (VTL.app (((VTL.nil.snoc VT.leaf).snoc VT.leaf).snoc VT.leaf) hz))
end Go.Proofs.YtlhicfpmlncomaaGreatDoor

namespace Go.Proofs.YtlhicfpmlncomaaGreatDoor
open Go.RowKit Go.Lib
set_option linter.unusedSimpArgs false
/-- The number that a sign's bytes make, behind its first. -/
def szv (n : Int) (xs : List UInt8) : Int := xs.foldl (fun n x => n * 64 + (x.toNat : Int) - 128) n
/-- What is told of a sign of k bytes of which the first is c. -/
def szOk (k : Nat) (base : Nat) (c : UInt8) (xs : List UInt8) : Prop :=
 xs.all jCont = true ∧ (k = 3 → ¬ (szv ((c.toNat : Int) - base) xs < 2048 ∨ 55296 ≤ szv ((c.toNat : Int) - base) xs ∧ szv ((c.toNat : Int) - base) xs < 57344)) ∧ (k = 4 → ¬ (szv ((c.toNat : Int) - base) xs < 65536 ∨ 1114111 < szv ((c.toNat : Int) - base) xs))
instance (k base : Nat) (c : UInt8) (xs : List UInt8) : Decidable (szOk k base c xs) := by unfold szOk; exact inferInstance
end Go.Proofs.YtlhicfpmlncomaaGreatDoor

namespace Go.Proofs.YtlhicfpmlncomaaGreatDoor
open Go.RowKit
set_option linter.unusedSimpArgs false
end Go.Proofs.YtlhicfpmlncomaaGreatDoor

namespace Go.Proofs.YtlhicfpmlncomaaGreatDoor
open Go.RowKit Go.Lib
set_option linter.unusedSimpArgs false
end Go.Proofs.YtlhicfpmlncomaaGreatDoor
