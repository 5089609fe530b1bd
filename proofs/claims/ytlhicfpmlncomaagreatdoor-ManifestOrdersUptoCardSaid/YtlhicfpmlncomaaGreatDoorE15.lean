/-
 Layer 8, plain words: which documents may be written, and as which value; what is written is read as that document. No program is named here.
 Layer 7: the walks of the document's IsMedia.
 Layer 8: the document's media, walked.
 Two structs compared, field by field: whole numbers, texts, yes-or-no, arrays of bytes. No program is named here.
 Layer 8: the document's notes, walked.
 Layer 8: the document's withNotes, walked.
 Layer 6: the document's Size and Valid, walked.
-/
import Derived.Test.YtlhicfpmlncomaaGreatDoorE14
import Derived.Test.YtlhicfpmlncomaaGreatDoorE09
import Derived.Test.YtlhicfpmlncomaaGreatDoorE13
import Derived.Test.YtlhicfpmlncomaaGreatDoorE02
import Derived.Laws.StructEq
import Derived.Test.YtlhicfpmlncomaaGreatDoorE08
import Derived.Lib.ValidLaws
namespace Go.Proofs.YtlhicfpmlncomaaGreatDoor
open Go.Lib
set_option linter.unusedSimpArgs false
set_option linter.unusedVariables false
def mRightN (l : List MNote) : Prop := l.length ≤ 32 ∧ (∀ x ∈ l, validD x.key = true ∧ validD x.val = true) ∧ (l.map (·.key)).Nodup
def mRightD (d : MDesc) : Prop := mediaB d.media = true ∧ 0 ≤ d.size ∧ d.size ≤ 1099511627776 ∧ mRightN d.notes
def mRight (d : MDoc) : Prop := (d.media = sImage ∨ d.media = sIndex) ∧ (d.type = [] ∨ mediaB d.type = true) ∧ d.edges.length ≤ 64 ∧ mRightN d.notes ∧ (∀ x ∈ d.edges, mRightD x) ∧ (d.media = sImage → mRightD d.config) ∧ (d.has = true → mRightD d.subject)
instance (l : List MNote) : Decidable (mRightN l) := by unfold mRightN; exact inferInstance
instance (d : MDesc) : Decidable (mRightD d) := by unfold mRightD; exact inferInstance
instance (d : MDoc) : Decidable (mRight d) := by unfold mRight; exact inferInstance
def jT (s : List UInt8) : JV := .mk 4 0 s [] []
def jN (n : Int) : JV := .mk 3 n [] [] []
def jO (ms : List (List UInt8 × JV)) : JV := .mk 6 0 [] (ms.map (·.1)) (ms.map (·.2))
def jL (ks : List JV) : JV := .mk 5 0 [] [] ks
def tNotes (l : List MNote) : JV := jO (l.map fun x => (x.key, jT x.val))
def tWith (l : List MNote) : List (List UInt8 × JV) := if l = [] then [] else [(kNotes, tNotes l)]
def tDesc (d : MDesc) : JV := jO ([(kMedia, jT d.media), (kDigest, jT (dgT d.dig)), (kSize, jN d.size)] ++ tWith d.notes)
def tType (s : List UInt8) : List (List UInt8 × JV) := if s = [] then [] else [(kType, jT s)]
def tMain (d : MDoc) : List (List UInt8 × JV) := if d.media = sImage then [(kConfig, tDesc d.config), (kLayers, jL (d.edges.map tDesc))] else [(kManifests, jL (d.edges.map tDesc))]
def tSubj (d : MDoc) : List (List UInt8 × JV) := if d.has = true then [(kSubject, tDesc d.subject)] else []
/-- A document's members. -/
def tMems (d : MDoc) : List (List UInt8 × JV) := [(kVersion, jN 2), (kMedia, jT d.media)] ++ (tType d.type ++ (tMain d ++ (tSubj d ++ tWith d.notes)))
def mTell (d : MDoc) : JV := jO (tMems d)
/-- A document without what isn't written. -/
def mBare (d : MDoc) : MDoc := { d with config := if d.media = sIndex then .zero else d.config, subject := if d.has = true then d.subject else .zero }
-- What is told is bare.
theorem jBare_T (s : List UInt8) : jBare (jT s) = jT s := by rw [jT, jBare]; rfl
theorem jBare_N (n : Int) : jBare (jN n) = jN n := by rw [jN, jBare]; rfl
theorem jBare_O {ms : List (List UInt8 × JV)} (h : ∀ x ∈ ms, jBare x.2 = x.2) : jBare (jO ms) = jO ms := by
 rw [jO, jBare, jBareL_map, List.map_map]
 have : ms.map (jBare ∘ fun x => x.2) = ms.map fun x => x.2 := List.map_congr_left fun x hx => h x hx
 rw [this]
 rfl
theorem jBare_L {ks : List JV} (h : ∀ x ∈ ks, jBare x = x) : jBare (jL ks) = jL ks := by
 rw [jL, jBare, jBareL_map]
 have : ks.map jBare = ks.map id := List.map_congr_left fun x hx => h x hx
 rw [this, List.map_id]
 rfl
theorem jBare_notes (l : List MNote) : jBare (tNotes l) = tNotes l := jBare_O fun x hx => by
 obtain ⟨y, _, rfl⟩ := List.mem_map.1 hx
 exact jBare_T _
theorem tWith_bare {l : List MNote} : ∀ x ∈ tWith l, jBare x.2 = x.2 := by
 intro x hx
 unfold tWith at hx
 split at hx
 ·cases hx
 ·rw [List.mem_singleton.1 hx]; exact jBare_notes l
theorem jBare_desc (d : MDesc) : jBare (tDesc d) = tDesc d := jBare_O fun x hx => by
 rcases List.mem_append.1 hx with hx | hx
 ·simp only [List.mem_cons, List.not_mem_nil, or_false] at hx
  rcases hx with rfl | rfl | rfl
  ·exact jBare_T _
  ·exact jBare_T _
  ·exact jBare_N _
 ·exact tWith_bare x hx
theorem mems_bare {d : MDoc} : ∀ x ∈ tMems d, jBare x.2 = x.2 := fun x hx => by
 have hl : jBare (jL (d.edges.map tDesc)) = jL (d.edges.map tDesc) := jBare_L fun x hx => by
  obtain ⟨y, _, rfl⟩ := List.mem_map.1 hx
  exact jBare_desc y
 unfold tMems at hx
 simp only [List.mem_append, List.mem_cons, List.not_mem_nil, or_false] at hx
 rcases hx with (rfl | rfl) | hx | hx | hx | hx
 ·exact jBare_N _
 ·exact jBare_T _
 ·unfold tType at hx
  split at hx
  ·cases hx
  ·rw [List.mem_singleton.1 hx]; exact jBare_T _
 ·unfold tMain at hx
  split at hx
  ·simp only [List.mem_cons, List.not_mem_nil, or_false] at hx
   rcases hx with rfl | rfl
   ·exact jBare_desc _
   ·exact hl
  ·rw [List.mem_singleton.1 hx]; exact hl
 ·unfold tSubj at hx
  split at hx
  ·rw [List.mem_singleton.1 hx]; exact jBare_desc _
  ·cases hx
 ·exact tWith_bare x hx
-- Reading members, one behind the other.
def mReadM (d : MDoc) (h : MGot) (ms : List (List UInt8 × JV)) : MR MDoc := mReadL d h (ms.map (·.1)) (ms.map (·.2))
theorem mReadM_cons {d d' : MDoc} {h h' : MGot} {x : List UInt8 × JV} {ms : List (List UInt8 × JV)} (hs : mStep d h x.1 x.2 = .ok (d', h')) : mReadM d h (x :: ms) = mReadM d' h' ms := by
 unfold mReadM
 rw [List.map_cons, List.map_cons, mReadL, hs]
theorem mReadM_nil {d : MDoc} {h : MGot} : mReadM d h [] = if mWhole d h = true then .ok d else .error 80 := by
 unfold mReadM
 rw [List.map_nil, List.map_nil, mReadL]
 intros; rename_i h1 h2; cases h1
theorem mNotesL_told : ∀ (l : List MNote), mNotesL ((l.map fun x => (x.key, jT x.val)).map (·.1)) ((l.map fun x => (x.key, jT x.val)).map (·.2)) = .ok l
 | [] => rfl
 | x :: l => by
  rw [List.map_cons, List.map_cons, List.map_cons, mNotesL, if_pos (show (x.key, jT x.val).snd.kind = 4 from rfl), mNotesL_told l]
  rfl
theorem mNotes_told {l : List MNote} (h : l.length ≤ 32) : mNotes (tNotes l) = .ok l := by
 have : mNotes (tNotes l) = if 32 < ((l.map fun x => (x.key, jT x.val)).map (·.2)).length then .error 8 else mNotesL ((l.map fun x => (x.key, jT x.val)).map (·.1)) ((l.map fun x => (x.key, jT x.val)).map (·.2)) := if_pos rfl
 rw [this, if_neg (by simp; omega), mNotesL_told]
theorem mMedia_told {s : List UInt8} (h : mediaB s = true) : mMedia (jT s) = .ok s := (if_pos rfl).trans (if_pos h)
theorem mDesc_told {d : MDesc} (hr : mRightD d) (hd : d.dig.length = 32) : mDesc (tDesc d) = .ok d := by
 obtain ⟨h1, h2, h3, h4⟩ := hr
 have e0 : mDesc (tDesc d) = mDescL .zero ⟨false, false, false⟩ (([(kMedia, jT d.media), (kDigest, jT (dgT d.dig)), (kSize, jN d.size)] ++ tWith d.notes).map (·.1)) (([(kMedia, jT d.media), (kDigest, jT (dgT d.dig)), (kSize, jN d.size)] ++ tWith d.notes).map (·.2)) := if_pos rfl
 rw [e0]
 simp only [List.cons_append, List.nil_append, List.map_cons]
 have s1 : ∀ (x : MDesc) (h : MHad), mdStep x h kMedia (jT d.media) = .ok ({ x with media := d.media }, { h with a := true }) := fun x h => by unfold mdStep; rw [if_pos rfl, mMedia_told h1]
 have s2 : ∀ (x : MDesc) (h : MHad), mdStep x h kDigest (jT (dgT d.dig)) = .ok ({ x with dig := d.dig }, { h with b := true }) := fun x h => by
  unfold mdStep
  rw [if_neg (by decide), if_pos rfl]
  exact (if_pos rfl).trans (by rw [show (jT (dgT d.dig)).text = dgT d.dig from rfl, dgP_T hd])
 have s3 : ∀ (x : MDesc) (h : MHad), mdStep x h kSize (jN d.size) = .ok ({ x with size := d.size }, { h with c := true }) := fun x h => by
  unfold mdStep
  rw [if_neg (by decide), if_neg (by decide), if_pos rfl]
  exact (if_pos rfl).trans (if_neg (by show ¬ (d.size < 0 ∨ 1099511627776 < d.size); omega))
 have s4 : ∀ (x : MDesc) (h : MHad), mdStep x h kNotes (tNotes d.notes) = .ok ({ x with notes := d.notes }, h) := fun x h => by
  unfold mdStep
  rw [if_neg (by decide), if_neg (by decide), if_neg (by decide), if_pos rfl, mNotes_told h4.1]
 rw [mDescL, s1]
 simp only []
 rw [mDescL, s2]
 simp only []
 rw [mDescL, s3]
 simp only []
 unfold tWith
 split
 ·rename_i hn
  rw [List.map_nil, List.map_nil, mDescL]
  ·rw [if_pos ⟨rfl, rfl, rfl⟩]
   obtain ⟨m, dg, z, nt⟩ := d
   simp only [MDesc.zero] at hn ⊢
   rw [hn]
  ·intros; rename_i h1 h2; cases h1
 ·rw [List.map_cons, List.map_cons, List.map_nil, List.map_nil, mDescL, s4]
  simp only []
  rw [mDescL]
  ·rw [if_pos ⟨rfl, rfl, rfl⟩]
  ·intros; rename_i h1 h2; cases h1
theorem mEdgesL_told : ∀ {l : List MDesc}, (∀ x ∈ l, mRightD x ∧ x.dig.length = 32) → mEdgesL (l.map tDesc) = .ok l
 | [], _ => rfl
 | x :: l, h => by
  rw [List.map_cons, mEdgesL, mDesc_told (h x List.mem_cons_self).1 (h x List.mem_cons_self).2]
  simp only []
  rw [mEdgesL_told fun y hy => h y (List.mem_cons_of_mem _ hy)]
theorem mEdges_told {l : List MDesc} (hl : l.length ≤ 64) (h : ∀ x ∈ l, mRightD x ∧ x.dig.length = 32) : mEdges (jL (l.map tDesc)) = .ok l := by
 have : mEdges (jL (l.map tDesc)) = if 64 < (l.map tDesc).length then .error 8 else mEdgesL (l.map tDesc) := if_pos rfl
 rw [this, if_neg (by simp; omega), mEdgesL_told h]
/-- Every sum of a document is a sum. -/
def MDig (d : MDoc) : Prop := d.config.dig.length = 32 ∧ d.subject.dig.length = 32 ∧ ∀ x ∈ d.edges, x.dig.length = 32
section
variable {d : MDoc}
theorem tell_step1 (x : MDoc) (h : MGot) : mStep x h kVersion (jN 2) = .ok (x, { h with v := true }) := by unfold mStep; rw [if_pos rfl]; exact if_pos ⟨rfl, rfl⟩
theorem tell_step2 {s : List UInt8} (hs : s = sImage ∨ s = sIndex) (x : MDoc) (h : MGot) : mStep x h kMedia (jT s) = .ok ({ x with media := s }, { h with m := true }) := by
 unfold mStep
 rw [if_neg (by decide), if_pos rfl]
 exact (if_pos rfl).trans (if_pos hs)
theorem tell_step3 {s : List UInt8} (hs : mediaB s = true) (x : MDoc) (h : MGot) : mStep x h kType (jT s) = .ok ({ x with type := s }, h) := by
 unfold mStep
 rw [if_neg (by decide), if_neg (by decide), if_pos rfl, mMedia_told hs]
theorem tell_step4 {y : MDesc} (hr : mRightD y) (hd : y.dig.length = 32) (x : MDoc) (h : MGot) : mStep x h kConfig (tDesc y) = .ok ({ x with config := y }, { h with c := true }) := by
 unfold mStep
 rw [if_neg (by decide), if_neg (by decide), if_neg (by decide), if_pos rfl, mDesc_told hr hd]
theorem tell_step5 {l : List MDesc} (hl : l.length ≤ 64) (hr : ∀ x ∈ l, mRightD x ∧ x.dig.length = 32) (x : MDoc) (h : MGot) : mStep x h kLayers (jL (l.map tDesc)) = .ok ({ x with edges := l }, { h with l := true }) := by
 unfold mStep
 rw [if_neg (by decide), if_neg (by decide), if_neg (by decide), if_neg (by decide), if_pos rfl, mEdges_told hl hr]
theorem tell_step6 {l : List MDesc} (hl : l.length ≤ 64) (hr : ∀ x ∈ l, mRightD x ∧ x.dig.length = 32) (x : MDoc) (h : MGot) : mStep x h kManifests (jL (l.map tDesc)) = .ok ({ x with edges := l }, { h with i := true }) := by
 unfold mStep
 rw [if_neg (by decide), if_neg (by decide), if_neg (by decide), if_neg (by decide), if_neg (by decide), if_pos rfl, mEdges_told hl hr]
theorem tell_step7 {y : MDesc} (hr : mRightD y) (hd : y.dig.length = 32) (x : MDoc) (h : MGot) : mStep x h kSubject (tDesc y) = .ok ({ x with subject := y, has := true }, h) := by
 unfold mStep
 rw [if_neg (by decide), if_neg (by decide), if_neg (by decide), if_neg (by decide), if_neg (by decide), if_neg (by decide), if_pos rfl, mDesc_told hr hd]
theorem tell_step8 {l : List MNote} (hr : l.length ≤ 32) (x : MDoc) (h : MGot) : mStep x h kNotes (tNotes l) = .ok ({ x with notes := l }, h) := by
 unfold mStep
 rw [if_neg (by decide), if_neg (by decide), if_neg (by decide), if_neg (by decide), if_neg (by decide), if_neg (by decide), if_neg (by decide), if_pos rfl, mNotes_told hr]
theorem read_with {l : List MNote} (hl : l.length ≤ 32) (x : MDoc) (h : MGot) (hx : x.notes = []) : mReadM x h (tWith l) = if mWhole x h = true then .ok { x with notes := l } else .error 80 := by
 unfold tWith
 split
 ·rename_i hn
  rw [mReadM_nil, hn, ← hx]
 ·rw [mReadM_cons (tell_step8 hl x h), mReadM_nil]
  rfl
theorem read_subj (hd : d.has = true → mRightD d.subject) (hg : d.subject.dig.length = 32) (x : MDoc) (h : MGot) (ms : List (List UInt8 × JV)) (hx : x.has = false) (hx2 : x.subject = .zero) :
  mReadM x h (tSubj d ++ ms) = mReadM { x with subject := if d.has = true then d.subject else .zero, has := d.has } h ms := by
 unfold tSubj
 split
 ·rename_i hh
  rw [List.cons_append, List.nil_append, mReadM_cons (tell_step7 (hd hh) hg x h), hh]
 ·rename_i hh
  have hf : d.has = false := by cases hq : d.has <;> simp_all
  rw [List.nil_append, hf, ← hx, ← hx2]
theorem read_type {s : List UInt8} (hs : s = [] ∨ mediaB s = true) (x : MDoc) (h : MGot) (ms : List (List UInt8 × JV)) (hx : x.type = []) : mReadM x h (tType s ++ ms) = mReadM { x with type := s } h ms := by
 unfold tType
 split
 ·rename_i hh
  rw [List.nil_append, hh, ← hx]
 ·rename_i hh
  rw [List.cons_append, List.nil_append, mReadM_cons (tell_step3 (hs.resolve_left hh) x h)]
theorem media_image_index : sIndex ≠ sImage := by decide
/-- What is told of a right document is read as that document. -/
theorem mRead_told (hr : mRight d) (hg : MDig d) : mRead (mTell d) = .ok (mBare d) := by
 obtain ⟨h1, h2, h3, h4, h5, h6, h7⟩ := hr
 obtain ⟨g1, g2, g3⟩ := hg
 have e0 : mRead (mTell d) = mReadM .zero ⟨false, false, false, false, false⟩ (tMems d) := if_pos rfl
 have hed : ∀ x ∈ d.edges, mRightD x ∧ x.dig.length = 32 := fun x hx => ⟨h5 x hx, g3 x hx⟩
 rw [e0]
 unfold tMems
 rw [List.cons_append, List.cons_append, List.nil_append, mReadM_cons (tell_step1 _ _), mReadM_cons (tell_step2 h1 _ _), read_type h2 _ _ _ rfl]
 unfold tMain
 by_cases hi : d.media = sImage
 ·rw [if_pos hi, List.cons_append, List.cons_append, List.nil_append, mReadM_cons (tell_step4 (h6 hi) g1 _ _), mReadM_cons (tell_step5 h3 hed _ _), read_subj h7 g2 _ _ _ rfl rfl, read_with h4.1 _ _ rfl]
  have hw : ¬ d.media = sIndex := fun h => media_image_index (h.symm.trans hi)
  rw [if_pos (by unfold mWhole; rw [if_neg hw]; rfl)]
  unfold mBare
  rw [if_neg hw]
 ·have hx := h1.resolve_left hi
  rw [if_neg hi, List.cons_append, List.nil_append, mReadM_cons (tell_step6 h3 hed _ _), read_subj h7 g2 _ _ _ rfl rfl, read_with h4.1 _ _ rfl]
  rw [if_pos (by unfold mWhole; rw [if_pos hx]; rfl)]
  unfold mBare
  rw [if_pos hx]
  rfl
end
/-- What is written of a bare value is read as that value. -/
theorem jParse_bare {v : JV} (hb : jBare v = v) {l : List UInt8} (h : jWrite v = (l, 0)) : jParse l = .ok v := by
 obtain ⟨x, hx⟩ : ∃ x, jRight 16 v 0 = some x := by
  cases hx : jRight 16 v 0 with
  | some x => exact ⟨x, rfl⟩
  | none =>
   unfold jWrite at h
   rw [hx] at h
   injection h with _ h; cases h
 unfold jWrite at h
 rw [hx] at h
 simp only [] at h
 split at h
 ·injection h with _ h; cases h
 ·rename_i hl
  injection h with h _
  subst h
  have hgd := good_bare (jW v) 16 v 0 x (Nat.le_refl _) hx
  rw [hb] at hgd
  exact jParse_written hgd hx (by omega)
end Go.Proofs.YtlhicfpmlncomaaGreatDoor

namespace Go.Proofs.YtlhicfpmlncomaaGreatDoor
open Go.RowKit
theorem macc_step {l : List UInt8} {k h : Nat} {b : Bool} {c : UInt8} (hc : l[k]? = some c) : macc h b (l.drop k) = if c = 47 ∧ b = true then macc (h + 1) false (l.drop (k + 1)) else if (signB c || (b && moreB c)) = true then macc h true (l.drop (k + 1)) else false := by
 obtain ⟨hk, rfl⟩ := List.getElem?_eq_some_iff.1 hc
 rw [List.drop_eq_getElem_cons hk, macc]
theorem any_take {p : UInt8 → Bool} {l : List UInt8} {k : Nat} {c : UInt8} (h : l[k]? = some c) : (l.take (k + 1)).any p = ((l.take k).any p || p c) := by rw [take_snoc h]; simp
set_option maxRecDepth 20000 in
set_option maxHeartbeats 3200000 in
theorem mediaF_any (s : ByteArray) (w : World) (hs : s.size ≤ 4294967281) : Calls Tryz.prog 46 #[.string s] w fun e w' => e = .returned (.bool (mediaB s.data.toList)) ∧ w = w' := by
 have hlb := box (str_len s)
 have hRB : Box (mediaB s.data.toList = (macc 1 false s.data.toList && decide (s.size ≤ 127))) := box (media_macc _)
 generalize mediaB s.data.toList = R at *
 go_enter Tryz.func46, Tryz.ntmps46
 go_wp2
 go_loop [3, 4, 6] (fun x3 x4 x6 => ∃ (k h : Nat) (b : Bool), k ≤ s.size ∧ h ≤ k + 1 ∧ x3 = .int .i64 h ∧ x4 = .bool b ∧ x6 = .int .i64 k ∧ Box (macc 1 false s.data.toList = macc h b (s.data.toList.drop k))) (fun _ _ i => s.size - (intOf i).toNat)
 case atStart => exact ⟨0, 1, false, by omega, by omega, rfl, rfl, rfl, box rfl⟩
 case round =>
  obtain ⟨k, h, b, hk, hh, rfl, rfl, rfl, hA⟩ := hrel
  by_cases hlt : k < s.size
  ·obtain ⟨c, hc⟩ := str_at hlt
   have hix := fun W => run_strIx (P := Tryz.prog) Tryz.underlying9 hc (i := (k : Int)) rfl .i64 W
   have hA2 : Box (macc 1 false s.data.toList = if c = 47 ∧ b = true then macc (h + 1) false (s.data.toList.drop (k + 1)) else if (signB c || (b && moreB c)) = true then macc h true (s.data.toList.drop (k + 1)) else false) := box (hA.out.trans (macc_step hc))
   clear hA
   replace hc := box hc
   by_cases h47 : c = 47
   ·subst h47
    replace hix : ∀ W, (Instr.index 9 (.string s) (.int .i64 (k : Int))).run Tryz.prog W = .ok (.int .u8 47) W := hix
    cases b with
    | true =>
     have hA3 : Box (macc 1 false s.data.toList = macc (h + 1) false (s.data.toList.drop (k + 1))) := box (by rw [hA2.out]; simp)
     clear hA2
     go_wp2
     go_round
     case rel => exact ⟨k + 1, h + 1, false, by omega, by omega, by go_num, rfl, by go_num, hA3⟩
     case measure => simp [intOf]; omega
    | false =>
     have hfin : Box (R = false) := box (by rw [hRB.out, hA2.out]; simp [sign47])
     have hs47 := sign47
     clear hA2 hRB
     go_wp2_with (go_at_call 77; refine (signF_any 47 _ rfl _).mono ?_; rintro e w' ⟨rfl, rfl⟩)
     go_loop [8, 9] (fun o i => o = .bool false ∧ i = .int .i64 0) (fun _ _ => 0)
     case atStart => exact ⟨rfl, rfl⟩
     case round =>
      obtain ⟨rfl, rfl⟩ := hrel
      go_wp2
      go_ret
      exact ⟨by rw [hfin.out]; rfl, rfl⟩
   ·have e47 : ((c.toNat : Int) == 47) = false := u8_ne (d := 47) h47
    have hA3 : Box (macc 1 false s.data.toList = if (signB c || (b && moreB c)) = true then macc h true (s.data.toList.drop (k + 1)) else false) := box (by rw [hA2.out, if_neg (fun hh => h47 hh.1)])
    clear hA2 h47
    cases b with
    | false =>
     cases hsg : signB c with
     | true =>
      have hA4 : Box (macc 1 false s.data.toList = macc h true (s.data.toList.drop (k + 1))) := box (by rw [hA3.out, hsg]; rfl)
      clear hA3
      go_wp2_with (go_at_call 77; refine (signF_any c _ rfl _).mono ?_; rintro e w' ⟨rfl, rfl⟩)
      go_loop [8, 9] (fun o i => o = .bool true ∧ i = .int .i64 0) (fun _ _ => 0)
      case atStart => exact ⟨rfl, rfl⟩
      case round =>
       obtain ⟨rfl, rfl⟩ := hrel
       go_wp2
       go_round
       case rel => exact ⟨k + 1, h, true, by omega, by omega, rfl, rfl, by go_num, hA4⟩
       case measure => simp [intOf]; omega
     | false =>
      have hfin : Box (R = false) := box (by rw [hRB.out, hA3.out, hsg]; rfl)
      clear hA3 hRB
      go_wp2_with (go_at_call 77; refine (signF_any c _ rfl _).mono ?_; rintro e w' ⟨rfl, rfl⟩)
      go_loop [8, 9] (fun o i => o = .bool false ∧ i = .int .i64 0) (fun _ _ => 0)
      case atStart => exact ⟨rfl, rfl⟩
      case round =>
       obtain ⟨rfl, rfl⟩ := hrel
       go_wp2
       go_ret
       exact ⟨by rw [hfin.out]; rfl, rfl⟩
    | true =>
     have hm9 : Box (moreS.data.toList.length = 9) := box rfl
     have hmB : Box (moreB c = moreS.data.toList.any (· == c)) := box rfl
     go_wp2_with (go_at_call 77; refine (signF_any c _ rfl _).mono ?_; rintro e w' ⟨rfl, rfl⟩)
     clear hix
     go_loop [8, 9] (fun o i => ∃ (q : Nat) (y : Bool), q ≤ 9 ∧ o = .bool y ∧ i = .int .i64 q ∧ Box (y = (signB c || (moreS.data.toList.take q).any (· == c)))) (fun _ i => 9 - (intOf i).toNat)
     case atStart => exact ⟨0, signB c, by omega, rfl, rfl, box (by simp)⟩
     case round =>
      obtain ⟨q, y, hq, rfl, rfl, hy⟩ := hrel
      by_cases hq9 : q < 9
      ·obtain ⟨d, hd⟩ : ∃ d, moreS.data.toList[q]? = some d := ⟨moreS.data.toList[q]'(by have := hm9.out; omega), by simp⟩
       have hix : ∀ W, (Instr.index 9 (.string ⟨#[33, 35, 36, 38, 45, 94, 95, 46, 43]⟩) (.int .i64 (q : Int))).run Tryz.prog W = .ok (.int .u8 (d.toNat : Int)) W := fun W => run_strIx (P := Tryz.prog) Tryz.underlying9 hd (i := (q : Int)) rfl .i64 W
       have hnext := box (fun (z : Bool) (hz : z = (y || d == c)) => show z = (signB c || (moreS.data.toList.take (q + 1)).any (· == c)) by rw [hz, hy.out, any_take hd, Bool.or_assoc])
       clear hy
       replace hd := box hd
       cases y with
       | true =>
        go_wp2
        go_round
        case rel => exact ⟨q + 1, true, by omega, rfl, by go_num, box (hnext.out true (by simp))⟩
        case measure => simp [intOf]; omega
       | false =>
        by_cases hdc : d = c
        ·subst hdc
         go_wp2
         go_round
         case rel => exact ⟨q + 1, true, by omega, by simp, by go_num, box (hnext.out true (by simp))⟩
         case measure => simp [intOf]; omega
        ·have hne : ((c.toNat : Int) == (d.toNat : Int)) = false := u8_ne (fun h => hdc h.symm)
         have hdf : Box ((d == c) = false) := box (beq_eq_false_iff_ne.2 hdc)
         clear hdc
         go_wp2
         go_round
         case rel => exact ⟨q + 1, false, by omega, rfl, by go_num, box (hnext.out false (by rw [hdf.out]; rfl))⟩
         case measure => simp [intOf]; omega
      ·have hyo : Box (y = (signB c || moreB c)) := box (by rw [hy.out, hmB.out, List.take_of_length_le (by have := hm9.out; omega)])
       clear hy
       cases y with
       | true =>
        have hA4 : Box (macc 1 false s.data.toList = macc h true (s.data.toList.drop (k + 1))) := box (by rw [hA3.out, Bool.true_and, ← hyo.out]; rfl)
        clear hA3
        go_wp2
        go_round
        case rel => exact ⟨k + 1, h, true, by omega, by omega, rfl, rfl, by go_num, hA4⟩
        case measure => simp [intOf]; omega
       | false =>
        have hfin : Box (R = false) := box (by rw [hRB.out, hA3.out, Bool.true_and, ← hyo.out]; rfl)
        clear hA3 hRB
        go_wp2
        go_ret
        exact ⟨by rw [hfin.out]; rfl, rfl⟩
  ·have hfin : Box (R = ((b && h == 2) && decide (s.size ≤ 127))) := box (by rw [hRB.out, hA.out, List.drop_of_length_le (by have := hlb.out; omega)]; rfl)
   clear hA hRB
   cases b with
   | false =>
    have hR : Box (R = false) := box (by rw [hfin.out]; rfl)
    go_wp2
    go_ret
    exact ⟨by rw [hR.out]; rfl, rfl⟩
   | true =>
    cases h2 : (h == 2) with
    | true =>
     obtain rfl : h = 2 := by simpa using h2
     by_cases h127 : s.size ≤ 127
     ·have hR : Box (R = true) := box (by rw [hfin.out, decide_eq_true h127]; rfl)
      clear hfin
      go_wp2
      go_ret
      exact ⟨ret1 (by rw [hR.out]; first | rfl | (simp; omega)), rfl⟩
     ·have hR : Box (R = false) := box (by rw [hfin.out, decide_eq_false h127]; rfl)
      clear hfin
      go_wp2
      go_ret
      exact ⟨ret1 (by rw [hR.out]; first | rfl | (simp; omega)), rfl⟩
    | false =>
     have hR : Box (R = false) := box (by rw [hfin.out, h2]; rfl)
     have hne : ((h : Int) == 2) = false := by rw [beq_eq_false_iff_ne] at h2 ⊢; omega
     clear hfin
     go_wp2
     go_ret
     exact ⟨by rw [hR.out]; rfl, rfl⟩
end Go.Proofs.YtlhicfpmlncomaaGreatDoor

namespace Go.Proofs.YtlhicfpmlncomaaGreatDoor
open Go.RowKit
set_option linter.unusedSimpArgs false
set_option linter.unusedVariables false
end Go.Proofs.YtlhicfpmlncomaaGreatDoor

namespace Go.Proofs.YtlhicfpmlncomaaGreatDoor
open Go.RowKit
/-- A field of two structs (cells xs, ys): compared, it is told b. -/
inductive FieldEq (P : Program) (xs ys : List Value) : Field → Bool → Prop
 | int {f : Field} {k k' : IntKind} {a b : Int} (hn : f.name ≠ "_") (ht : P.underlying f.type = some (.int k')) (hx : xs[f.offset]? = some (.int k a)) (hy : ys[f.offset]? = some (.int k b)) : FieldEq P xs ys f (a == b)
 | bool {f : Field} {a b : Bool} (hn : f.name ≠ "_") (ht : P.underlying f.type = some .bool) (hx : xs[f.offset]? = some (.bool a)) (hy : ys[f.offset]? = some (.bool b)) : FieldEq P xs ys f (a == b)
 | str {f : Field} {a b : ByteArray} (hn : f.name ≠ "_") (ht : P.underlying f.type = some .string) (hx : xs[f.offset]? = some (.string a)) (hy : ys[f.offset]? = some (.string b)) : FieldEq P xs ys f (a.toList == b.toList)
 | arr {f : Field} {n : Nat} {u8 : TypeId} {l m : List UInt8} (hn : f.name ≠ "_") (ht : P.underlying f.type = some (.array n u8)) (hs : (P.info? f.type).map (·.size) = some n) (hb : P.underlying u8 = some (.int .u8)) (h1 : (P.info? u8).map (·.size) = some 1)
  (hl : l.length = n) (hm : m.length = n) (hx : (xs.drop f.offset).take n = l.map bv) (hy : (ys.drop f.offset).take n = m.map bv) : FieldEq P xs ys f (l == m)
section
variable {P : Program} {o : Oper} {a : Act} {K : Act → World → Prop} {Q : Exit → Act → World → Prop}
theorem run_part1 {f : Field} {d : TypeDesc} {xs : List Value} {v : Value} (hu : P.underlying f.type = some d) (hd : aggT d = false) (hv : xs[f.offset]? = some v) (w : World) : (part f.type xs.toArray f.offset).run P w = .ok v w := by
 have hagg : (isAgg f.type).run P w = .ok false w := by rw [run_isAgg hu w, hd]
 simp [part, hagg, hv]
theorem run_partA {f : Field} {n : Nat} {u8 : TypeId} {xs ls : List Value} (hu : P.underlying f.type = some (.array n u8)) (hs : (P.info? f.type).map (·.size) = some n) (hv : (xs.drop f.offset).take n = ls) (w : World) : (part f.type xs.toArray f.offset).run P w = .ok (.agg ls.toArray) w := by
 have hagg : (isAgg f.type).run P w = .ok true w := by rw [run_isAgg hu w]; rfl
 obtain ⟨j, hj, hsz⟩ := Option.map_eq_some_iff.1 hs
 have hso : (sizeOf f.type).run P w = .ok n w := by simp [sizeOf, typeInfo, hj, hsz]
 have hex : xs.toArray.extract f.offset (f.offset + n) = ls.toArray := by
  apply Array.ext'
  rw [Array.toList_extract]
  simp only [List.extract]
  rw [Nat.add_sub_cancel_left]
  exact hv
 unfold part
 rw [Sem.run_bind, hagg, Result.andThen_ok]
 simp only [if_true, Sem.run_bind, hso, Result.andThen_ok, Sem.run_pure, hex]
theorem FieldEq.run {xs ys : List Value} {f : Field} {b : Bool} (h : FieldEq P xs ys f b) (k : Nat) (w : World) :
  f.name ≠ "_" ∧ ∃ u v, (part f.type xs.toArray f.offset).run P w = .ok u w ∧ (part f.type ys.toArray f.offset).run P w = .ok v w ∧ (Op.equalIn (k + 2) f.type u v).run P w = .ok b w := by
 cases h with
 | int hn ht hx hy => exact ⟨hn, _, _, run_part1 ht rfl hx w, run_part1 ht rfl hy w, run_equalIn_int w (k + 1) _ _ _ _ _ ht⟩
 | bool hn ht hx hy => exact ⟨hn, _, _, run_part1 ht rfl hx w, run_part1 ht rfl hy w, run_equalIn_bool' w (k + 1) _ _ _ ht⟩
 | str hn ht hx hy => exact ⟨hn, _, _, run_part1 ht rfl hx w, run_part1 ht rfl hy w, run_equalIn_string w (k + 1) _ _ _ ht⟩
 | arr hn ht hs hb h1 hl hm hx hy => exact ⟨hn, _, _, run_partA ht hs hx w, run_partA ht hs hy w, run_eqBytes ht hb h1 _ _ hl hm k w⟩
/-- All fields, one behind the other. -/
inductive FieldsEq (P : Program) (xs ys : List Value) : List Field → Bool → Prop
 | nil : FieldsEq P xs ys [] true
 | cons {f : Field} {fs : List Field} {b c : Bool} (h : FieldEq P xs ys f b) (hs : FieldsEq P xs ys fs c) : FieldsEq P xs ys (f :: fs) (b && c)
theorem FieldsEq.run {xs ys : List Value} (k : Nat) (w : World) : ∀ {fs : List Field} {b : Bool}, FieldsEq P xs ys fs b → (Op.eqFields (k + 2) xs.toArray ys.toArray fs).run P w = .ok b w := by
 intro fs b h
 induction h with
 | nil => simp [Op.eqFields]
 | cons h _ ih =>
  obtain ⟨hn, u, v, p1, p2, p3⟩ := h.run k w
  rename_i b c _
  simp only [Op.eqFields, hn, ne_eq, not_false_eq_true, if_true, Sem.run_bind, p1, p2, p3, Result.andThen_ok]
  cases b <;> simp [ih]
/-- Two structs: compared, they are told b. -/
structure StructEq (P : Program) (t : TypeId) (xs ys : List Value) (b : Bool) : Prop where
 und : P.underlying t = some (.struct (P.fieldsOf t))
 stood : P.stoodInHeld t = false
 grd : P.eqGuardType P.depth t = false
 flds : FieldsEq P xs ys (P.fieldsOf t).toList b
theorem StructEq.run {t : TypeId} {xs ys : List Value} {b : Bool} (h : StructEq P t xs ys b) (k : Nat) (w : World) : (Op.equalIn (k + 3) t (.agg xs.toArray) (.agg ys.toArray)).run P w = .ok b w := by
 rw [run_equalIn_struct w (k + 2) t _ _ h.und h.stood]
 exact FieldsEq.run k w h.flds
end
end Go.Proofs.YtlhicfpmlncomaaGreatDoor

namespace Go.Proofs.YtlhicfpmlncomaaGreatDoor
open Go.RowKit
set_option linter.unusedSimpArgs false
set_option linter.unusedVariables false
/-- An element's kind, number and text, where elements stand side by side. -/
theorem VRd.parts {w : World} {S : Nat → Prop} {u : JV} {ci xs : List Value} {i : Nat} (h : VRd w S u ci) (hc : (xs.drop (i * 5)).take 5 = ci) :
  xs[i * 5]? = some (.int .i64 u.kind) ∧ xs[i * 5 + 1]? = some (.int .i64 u.num) ∧ xs[i * 5 + 2]? = some (.string ⟨u.text.toArray⟩) := by
 obtain ⟨k, n, t, ns, ks⟩ := u
 rw [VRd] at h
 obtain ⟨An, nn, cn, Ak, nk, ck, ys, hcn, hck, rfl, hrn, hrk, hvk⟩ := h
 have hg : ∀ j, j < 5 → xs[i * 5 + j]? = (vlL k n ⟨t.toArray⟩ (.slice An nn cn) (.slice Ak nk ck))[j]? := by
  intro j hj
  rw [← hc, List.getElem?_take, if_pos hj, List.getElem?_drop]
 exact ⟨hg 0 (by decide), hg 1 (by decide), hg 2 (by decide)⟩
theorem atp_fld (A : Option Addr) (i j : Nat) (hj : j ≠ 0) : (⟨(atp A i).block, (atp A i).off + j, none⟩ : Addr) = atp A (i + j) := by
 unfold atp Addr.add
 rw [if_neg (show ¬ i + j = 0 by omega)]
 by_cases h : i = 0
 ·subst h; rw [if_pos rfl, Nat.zero_add]
 ·rw [if_neg h, Nat.add_assoc]
theorem T_rnote15 : SlT Tryz.prog 35 149 2 32 (.agg #[.string ⟨#[]⟩, .string ⟨#[]⟩]) := ⟨Tryz.underlying35, by kernel_rfl, rfl, by decide⟩
end Go.Proofs.YtlhicfpmlncomaaGreatDoor

namespace Go.Proofs.YtlhicfpmlncomaaGreatDoor
open Go.RowKit
set_option linter.unusedSimpArgs false
set_option linter.unusedVariables false
theorem take_snoc1 {α : Type} {l : List α} {i : Nat} {x : α} (h : l[i]? = some x) : l.take (i + 1) = l.take i ++ [x] := by rw [List.take_add_one, h]; rfl
theorem ntsL_key {l : List MNote} {i : Nat} {x : MNote} (h : l[i]? = some x) : (ntsL l)[i * 2]? = some (.string ⟨x.key.toArray⟩) := by
 have h1 := ntsL_at h
 have h2 := congrArg (fun z => z[0]?) h1
 simpa [List.getElem?_take, List.getElem?_drop, ntL, strv] using h2
theorem ntsL_val {l : List MNote} {i : Nat} {x : MNote} (h : l[i]? = some x) : (ntsL l)[i * 2 + 1]? = some (.string ⟨x.val.toArray⟩) := by
 have h1 := ntsL_at h
 have h2 := congrArg (fun z => z[1]?) h1
 simpa [List.getElem?_take, List.getElem?_drop, ntL, strv] using h2
/-- The members that notes are. -/
def tMem (l : List MNote) : List (List UInt8 × JV) := l.map fun x => (x.key, jT x.val)
theorem tNotes_mem (l : List MNote) : tNotes l = .mk 6 0 [] ((tMem l).map (·.1)) ((tMem l).map (·.2)) := rfl
theorem tMem_snoc {l : List MNote} {i : Nat} {x : MNote} (h : l[i]? = some x) : tMem (l.take (i + 1)) = tMem (l.take i) ++ [(x.key, jT x.val)] := by
 unfold tMem
 rw [take_snoc1 h, List.map_append]
 rfl
theorem tWith_nil : tWith [] = [] := rfl
theorem tWith_some {l : List MNote} (h : l ≠ []) : tWith l = [(kNotes, tNotes l)] := if_neg h
theorem tperm {α : Type} (a b p g2 g1 n k : α) (es te : List α) : (a :: b :: p :: g2 :: g1 :: n :: k :: (es ++ te)).Perm (n :: k :: g2 :: p :: g1 :: (es ++ (a :: b :: te))) := by
 have h1 : (a :: b :: p :: g2 :: g1 :: n :: k :: (es ++ te)).Perm (a :: b :: (n :: k :: g2 :: p :: g1 :: (es ++ te))) := by
  refine List.Perm.cons _ (List.Perm.cons _ ?_)
  have h2 : (p :: g2 :: g1 :: n :: k :: (es ++ te)) = [p, g2, g1, n, k] ++ (es ++ te) := rfl
  have h3 : (n :: k :: g2 :: p :: g1 :: (es ++ te)) = [n, k, g2, p, g1] ++ (es ++ te) := rfl
  rw [h2, h3]
  refine List.Perm.append_right _ ?_
  have e1 : [p, g2, g1, n, k] = [p, g2, g1] ++ [n, k] := rfl
  rw [e1]
  refine List.perm_append_comm.trans ?_
  exact List.Perm.cons _ (List.Perm.cons _ (List.Perm.swap _ _ _))
 refine h1.trans ?_
 have h4 : (n :: k :: g2 :: p :: g1 :: (es ++ (a :: b :: te))) = ([n, k, g2, p, g1] ++ es) ++ ([a, b] ++ te) := by simp
 have h5 : (a :: b :: (n :: k :: g2 :: p :: g1 :: (es ++ te))) = [a, b] ++ (([n, k, g2, p, g1] ++ es) ++ te) := by simp
 rw [h4, h5]
 exact List.perm_append_comm_assoc _ _ _
/-- An object with members more, in the caller's frame. -/
def More (w0 : World) (es : List Ent) (num : Int) (t : ByteArray) (nn nk : Nat) (ns : List (List UInt8)) (xs : List Value) (ms : List (List UInt8 × JV)) (e : Ending) (w' : World) : Prop :=
 ∃ A1 c1 A2 c2 zs E2, nn + ms.length ≤ c1 ∧ nk + ms.length ≤ c2 ∧ e = .returned (.agg (vlL 6 num t (.slice A1 (nn + ms.length) c1) (.slice A2 (nk + ms.length) c2)).toArray) ∧ VTL (ms.map (·.2)) zs E2 ∧
  Fr [] w0 w' (.own w0.heap.size 9 1 (.slice A1 (nn + ms.length) c1) (nn + ms.length) ((ns ++ ms.map (·.1)).map strv) :: .own w0.heap.size 51 5 (.slice A2 (nk + ms.length) c2) (nk + ms.length) (xs ++ zs) :: (es ++ E2))
set_option maxRecDepth 20000 in
set_option maxHeartbeats 12800000 in
theorem rwith_any {w0 w : World} {es : List Ent} {num : Int} {t : ByteArray} {An Ak : Option Addr} {nn cn nk ck : Nat} {ns : List (List UInt8)} {xs : List Value} (l : List MNote) (Al : Option Addr) (nl cl : Nat)
  (hF : Fr [] w0 w (.own w0.heap.size 9 1 (.slice An nn cn) nn (ns.map strv) :: .own w0.heap.size 51 5 (.slice Ak nk ck) nk xs :: es)) (hnn : nn ≤ 1000) (hnk : nk ≤ 1000) (hcn : nn ≤ cn) (hck : nk ≤ ck) (hl : nl = l.length) (hll : nl ≤ 1000000) (hr : Rd w0 (· < w0.heap.size) Al 2 nl (ntsL l)) :
  Calls Tryz.prog 52 #[.agg (vlL 6 num t (.slice An nn cn) (.slice Ak nk ck)).toArray, .slice Al nl cl] w (More w0 es num t nn nk ns xs (tWith l)) := by
 by_cases hl0 : l = []
 ·subst hl0
  obtain rfl : nl = 0 := hl
  go_enter Tryz.func52, Tryz.ntmps52
  go_wp2_with (first | ((with_reducible refine lst (by with_unfolding_all rfl) (wp_fbox hF (cs := (vlL 6 num t (.slice An nn cn) (.slice Ak nk ck))) rfl (by with_unfolding_all rfl) (by with_unfolding_all rfl) ?_)); intro w1 g1 hF1 hz1) | ((with_reducible refine lst (by with_unfolding_all rfl) (wp_falloc hF1 (cs := vl0) (z := .agg (List.toArray (vl0))) rfl (by kernel_rfl) (by with_unfolding_all rfl) ?_)); intro w2 g2 hF2 hz2) | (with_reducible refine lst (by with_unfolding_all rfl) (wp_fldA1 hF2 Tryz.underlying51 rfl (by with_unfolding_all exact ⟨_, rfl, rfl⟩) (ds := (vlL 6 num t (.slice An nn cn) (.slice Ak nk ck))) (by rw [vlL_len]; kernel_rfl) (take_all _) ?_)) | ((with_reducible refine lst (by with_unfolding_all rfl) (wp_fstA0 hF2 (by with_unfolding_all exact ⟨_, _, rfl, rfl, rfl⟩) (by rw [vlL_len]; kernel_rfl) vlL_one vlL_fit vlL_spl ?_)); intro w3 hF3 hz3))
  exact bodyPost_ret (results_cellF rfl _ hF3 (i := 0) rfl rfl Tryz.underlying51 rfl (by rw [vlL_len]; kernel_rfl)) rfl (by
   unfold More
   exact ⟨An, cn, Ak, ck, [], [], hcn, hck, rfl, VTL.nil, by simpa [tWith_nil] using hF3.tail.tail⟩)
 ·have hlp : 0 < l.length := List.length_pos_iff.2 hl0
  have hq : ((nl : Int) == 0) = false := by rw [beq_eq_false_iff_ne]; omega
  have hw := tWith_some hl0
  replace hl := box hl
  replace hl0 := box hl0
  replace hw := box hw
  clear hlp
  go_enter Tryz.func52, Tryz.ntmps52
  go_wp2_with (first | ((with_reducible refine lst (by with_unfolding_all rfl) (wp_fbox hF (cs := (vlL 6 num t (.slice An nn cn) (.slice Ak nk ck))) rfl (by with_unfolding_all rfl) (by with_unfolding_all rfl) ?_)); intro w1 g1 hF1 hz1) | ((with_reducible refine lst (by with_unfolding_all rfl) (wp_falloc hF1 (cs := vl0) (z := .agg (List.toArray (vl0))) rfl (by kernel_rfl) (by with_unfolding_all rfl) ?_)); intro w2 g2 hF2 hz2) | (with_reducible refine lst (by with_unfolding_all rfl) (wp_fbuild Tryz.underlying51 (z := .agg (List.toArray vl0)) (by kernel_rfl) (pl := vlP) (by kernel_rfl) (cs := (vlL 6 0 ⟨#[]⟩ (.slice none 0 0) (.slice none 0 0))) rfl (vs := [(0, .int .i64 6)]) (by with_unfolding_all rfl) (by with_unfolding_all rfl) ?_)) | ((with_reducible refine lst (by with_unfolding_all rfl) (wp_falloc hF2 (cs := vl0) (z := .agg (List.toArray (vl0))) rfl (by kernel_rfl) (by with_unfolding_all rfl) ?_)); intro w3 g3 hF3 hz3) | ((with_reducible refine lst (by with_unfolding_all rfl) (wp_fstA0 hF3 (by with_unfolding_all exact ⟨_, _, rfl, rfl, rfl⟩) (by rw [vlL_len]; kernel_rfl) vlL_one vlL_fit vlL_spl ?_)); intro w4 hF4 hz4))
  have hF5 := (hF4.none_ w0.heap.size 51 5).none_ w0.heap.size 9 1
  clear hF1 hF2 hF3 hF4
  go_loopg [6] nl (fun g iv wr => ∃ (i : Nat) (A : Option Addr) (c : Nat) (B : Option Addr) (d : Nat) (ys : List Value) (TE : List Ent), i ≤ nl ∧ Box (g = nl - i) ∧ iv = .int .i64 (i : Int) ∧ i ≤ c ∧ i ≤ d ∧ Box (VTL ((tMem (l.take i)).map (·.2)) ys TE) ∧ Fr [] w0 wr (.own w0.heap.size 9 1 (.slice A i c) i (((tMem (l.take i)).map (·.1)).map strv) :: .own w0.heap.size 51 5 (.slice B i d) i ys :: .blk g3 51 (vlL 6 0 ⟨#[]⟩ (.slice A i c) (.slice B i d)) :: .blk g2 51 vl0 :: .blk g1 51 (vlL 6 num t (.slice An nn cn) (.slice Ak nk ck)) :: .own w0.heap.size 9 1 (.slice An nn cn) nn (ns.map strv) :: .own w0.heap.size 51 5 (.slice Ak nk ck) nk xs :: (es ++ TE)))
  case atStart => exact ⟨0, none, 0, none, 0, [], [], by omega, box rfl, rfl, Nat.le_refl _, Nat.le_refl _, box VTL.nil, by simpa [tMem] using hF5⟩
  case round =>
   clear hF5 hF
   obtain ⟨i, A, c, B, d, ys, TE, hi, hgi, rfl, hic, hid, hT, hF⟩ := hrel
   have hkk : Box (_ = nl - i) := hgi
   clear hgi
   by_cases hlt : i < nl
   ·obtain ⟨x, hx'⟩ : ∃ x, l[i]? = some x := ⟨l[i]'(by rw [← hl.out]; exact hlt), by simp⟩
    have hx := box hx'
    have hxk := box (ntsL_key hx')
    have hxv := box (ntsL_val hx')
    have hrlb := box hr
    clear hx'
    go_upto_region 7 with fail
    have hFd := hF.drew
    clear hF
    refine wp_region_held (S := fun w' => Rd w' (· < w0.heap.size) Al 2 nl (ntsL l)) (by kernel_rfl) ?_
    change wpAnyH _ _ _ _ _ _ _ _ (World.drew _)
    refine tkp 1 (hr.below hFd.below) ?_
    (try simp only [Act.put, List.setIfInBounds_toArray, List.set_cons_zero, List.set_cons_succ])
    refine tkp 2 (hr.below hFd.below) ?_
    (try simp only [Act.put, List.setIfInBounds_toArray, List.set_cons_zero, List.set_cons_succ])
    refine tky 3 (y := yi_ix (by with_unfolding_all rfl) T_rnote15 (fun h => hrlb.out.some_ h) (k := i) (by with_unfolding_all exact ⟨_, _, _, _, rfl, rfl, rfl⟩) rfl (by omega)) (s := (hr.below hFd.below)) (h := ?_)
    (try simp only [Act.put, List.setIfInBounds_toArray, List.set_cons_zero, List.set_cons_succ])
    refine tkp 4 (hr.below hFd.below) ?_
    (try simp only [Act.put, List.setIfInBounds_toArray, List.set_cons_zero, List.set_cons_succ])
    refine tky 5 (y := yi_ld (by with_unfolding_all rfl) (j := i * 2) (fun _ h => h) Tryz.underlying9 rfl (by with_unfolding_all exact ⟨_, rfl, rfl⟩) hxk.out) (s := (hr.below hFd.below)) (h := ?_)
    (try simp only [Act.put, List.setIfInBounds_toArray, List.set_cons_zero, List.set_cons_succ])
    refine tkp 6 (hr.below hFd.below) ?_
    (try simp only [Act.put, List.setIfInBounds_toArray, List.set_cons_zero, List.set_cons_succ])
    refine tkp 7 (hr.below hFd.below) ?_
    (try simp only [Act.put, List.setIfInBounds_toArray, List.set_cons_zero, List.set_cons_succ])
    refine tky 8 (y := yi_ix (by with_unfolding_all rfl) T_rnote15 (fun h => hrlb.out.some_ h) (k := i) (by with_unfolding_all exact ⟨_, _, _, _, rfl, rfl, rfl⟩) rfl (by omega)) (s := (hr.below hFd.below)) (h := ?_)
    (try simp only [Act.put, List.setIfInBounds_toArray, List.set_cons_zero, List.set_cons_succ])
    refine tkp 9 (hr.below hFd.below) ?_
    (try simp only [Act.put, List.setIfInBounds_toArray, List.set_cons_zero, List.set_cons_succ])
    refine tky 10 (y := yi_ld (by with_unfolding_all rfl) (j := i * 2 + 1) (fun _ h => h) Tryz.underlying9 rfl (by with_unfolding_all exact ⟨_, rfl, congrArg (fun p => Value.pointer (some p)) (atp_fld Al (i * 2) 1 (by decide))⟩) hxv.out) (s := (hr.below hFd.below)) (h := ?_)
    (try simp only [Act.put, List.setIfInBounds_toArray, List.set_cons_zero, List.set_cons_succ])
    refine wpAnyH_ready (rs := [0, 11]) (by kernel_rfl) (by simp) ?_
    refine AllReadyH.cons (by simp only [List.getElem?_toArray, List.getElem?_cons_zero]; rfl) (fun K hK => ?_) ?_
    ·refine stp (by with_unfolding_all rfl) (wp_fldA hFd (i := 2) rfl Tryz.underlying51 rfl (by with_unfolding_all exact ⟨_, rfl, rfl⟩) (ds := (vlL 6 0 ⟨#[]⟩ (.slice A i c) (.slice B i d))) (by rw [vlL_len]; kernel_rfl) (take_all _) ?_)
     refine hK.out _ _ ((hr.below hFd.below)) (fun _ => ?_)
     clear hK K
     (try simp only [Act.put, List.setIfInBounds_toArray, List.set_cons_zero, List.set_cons_succ])
     refine rdy1 11 (fun K hK => ?_)
     refine stp (by with_unfolding_all rfl) (wp_call Tryz.func50 rfl (by with_unfolding_all rfl) (by with_unfolding_all rfl) (by with_unfolding_all rfl) (rtext_any x.val _) ?_)
     rintro e w31 ⟨rfl, hb31⟩
     refine ⟨_, rfl, ?_⟩
     have hF31 := hFd.call hb31
     refine hK.out _ _ ((hr.below hF31.below)) (fun _ => ?_)
     clear hK K
     (try simp only [Act.put, List.setIfInBounds_toArray, List.set_cons_zero, List.set_cons_succ])
     refine rdy1 12 (fun K hK => ?_)
     refine stp (by with_unfolding_all rfl) (wp_call Tryz.func49 rfl (by with_unfolding_all rfl) (by with_unfolding_all rfl) (by with_unfolding_all rfl) (rput_any x.key (vlL 4 0 ⟨x.val.toArray⟩ (.slice none 0 0) (.slice none 0 0)) hF31 (by omega) (by omega) rfl vlL_one) ?_)
     rintro e w32 ⟨A32, c32, B32, d32, hc32, hd32, rfl, hF32⟩
     refine ⟨_, rfl, ?_⟩
     refine hK.out _ _ ((hr.below hF32.below)) (fun _ => ?_)
     clear hK K
     (try simp only [Act.put, List.setIfInBounds_toArray, List.set_cons_zero, List.set_cons_succ])
     refine rdy1 13 (fun K hK => ?_)
     refine stp (by with_unfolding_all rfl) (wp_fstA hF32 (i := 2) rfl (ds := (vlL 6 0 ⟨#[]⟩ (.slice A32 (i + 1) c32) (.slice B32 (i + 1) d32))) (by with_unfolding_all exact ⟨_, _, rfl, rfl, rfl⟩) (by rw [vlL_len]; kernel_rfl) vlL_one vlL_fit ?_)
     intro w33 hF33 hz33
     (try simp only [List.set_cons_zero, List.set_cons_succ] at hF33)
     rw [(vlL_spl (k' := 6) : spl _ 0 (vlL 6 0 ⟨#[]⟩ (.slice A32 (i + 1) c32) (.slice B32 (i + 1) d32)) = (vlL 6 0 ⟨#[]⟩ (.slice A32 (i + 1) c32) (.slice B32 (i + 1) d32)))] at hF33
     refine hK.out _ _ ((hr.below hF33.below)) (fun _ => ?_)
     clear hK K
     (try simp only [Act.put, List.setIfInBounds_toArray, List.set_cons_zero, List.set_cons_succ])
     refine wpAnyH_done (by kernel_rfl) ?_ _
     go_wp2_with fail
     go_roundg (nl - (i + 1))
     case rel => exact ⟨i + 1, A32, c32, B32, d32, ys ++ (vlL 4 0 ⟨x.val.toArray⟩ (.slice none 0 0) (.slice none 0 0)), TE ++ [.rd none 1 0 [], .rd none 5 0 []], by omega, box rfl, by go_num, hc32, hd32, box (by rw [tMem_snoc hx.out, List.map_append]; exact hT.out.snoc VT.leaf), ((hF33.pushNone 5).pushNone 1).perm (by rw [tMem_snoc hx.out, List.map_append]; refine (List.perm_append_comm (l₁ := [Ent.rd none 1 0 [], Ent.rd none 5 0 []])).trans (by simp))⟩
     case measure => have := hkk.out; omega
    refine AllReadyH.cons (by simp only [List.getElem?_toArray, List.getElem?_cons_zero, List.getElem?_cons_succ]; rfl) (fun K hK => ?_) ?_
    ·refine stp (by with_unfolding_all rfl) (wp_call Tryz.func50 rfl (by with_unfolding_all rfl) (by with_unfolding_all rfl) (by with_unfolding_all rfl) (rtext_any x.val _) ?_)
     rintro e w31 ⟨rfl, hb31⟩
     refine ⟨_, rfl, ?_⟩
     have hF31 := hFd.call hb31
     refine hK.out _ _ ((hr.below hF31.below)) (fun _ => ?_)
     clear hK K
     (try simp only [Act.put, List.setIfInBounds_toArray, List.set_cons_zero, List.set_cons_succ])
     refine rdy1 0 (fun K hK => ?_)
     refine stp (by with_unfolding_all rfl) (wp_fldA hF31 (i := 2) rfl Tryz.underlying51 rfl (by with_unfolding_all exact ⟨_, rfl, rfl⟩) (ds := (vlL 6 0 ⟨#[]⟩ (.slice A i c) (.slice B i d))) (by rw [vlL_len]; kernel_rfl) (take_all _) ?_)
     refine hK.out _ _ ((hr.below hF31.below)) (fun _ => ?_)
     clear hK K
     (try simp only [Act.put, List.setIfInBounds_toArray, List.set_cons_zero, List.set_cons_succ])
     refine rdy1 12 (fun K hK => ?_)
     refine stp (by with_unfolding_all rfl) (wp_call Tryz.func49 rfl (by with_unfolding_all rfl) (by with_unfolding_all rfl) (by with_unfolding_all rfl) (rput_any x.key (vlL 4 0 ⟨x.val.toArray⟩ (.slice none 0 0) (.slice none 0 0)) hF31 (by omega) (by omega) rfl vlL_one) ?_)
     rintro e w32 ⟨A32, c32, B32, d32, hc32, hd32, rfl, hF32⟩
     refine ⟨_, rfl, ?_⟩
     refine hK.out _ _ ((hr.below hF32.below)) (fun _ => ?_)
     clear hK K
     (try simp only [Act.put, List.setIfInBounds_toArray, List.set_cons_zero, List.set_cons_succ])
     refine rdy1 13 (fun K hK => ?_)
     refine stp (by with_unfolding_all rfl) (wp_fstA hF32 (i := 2) rfl (ds := (vlL 6 0 ⟨#[]⟩ (.slice A32 (i + 1) c32) (.slice B32 (i + 1) d32))) (by with_unfolding_all exact ⟨_, _, rfl, rfl, rfl⟩) (by rw [vlL_len]; kernel_rfl) vlL_one vlL_fit ?_)
     intro w33 hF33 hz33
     (try simp only [List.set_cons_zero, List.set_cons_succ] at hF33)
     rw [(vlL_spl (k' := 6) : spl _ 0 (vlL 6 0 ⟨#[]⟩ (.slice A32 (i + 1) c32) (.slice B32 (i + 1) d32)) = (vlL 6 0 ⟨#[]⟩ (.slice A32 (i + 1) c32) (.slice B32 (i + 1) d32)))] at hF33
     refine hK.out _ _ ((hr.below hF33.below)) (fun _ => ?_)
     clear hK K
     (try simp only [Act.put, List.setIfInBounds_toArray, List.set_cons_zero, List.set_cons_succ])
     refine wpAnyH_done (by kernel_rfl) ?_ _
     go_wp2_with fail
     go_roundg (nl - (i + 1))
     case rel => exact ⟨i + 1, A32, c32, B32, d32, ys ++ (vlL 4 0 ⟨x.val.toArray⟩ (.slice none 0 0) (.slice none 0 0)), TE ++ [.rd none 1 0 [], .rd none 5 0 []], by omega, box rfl, by go_num, hc32, hd32, box (by rw [tMem_snoc hx.out, List.map_append]; exact hT.out.snoc VT.leaf), ((hF33.pushNone 5).pushNone 1).perm (by rw [tMem_snoc hx.out, List.map_append]; refine (List.perm_append_comm (l₁ := [Ent.rd none 1 0 [], Ent.rd none 5 0 []])).trans (by simp))⟩
     case measure => have := hkk.out; omega
    exact AllReadyH.nil
   ·obtain rfl : nl = i := by omega
    have htk : l.take nl = l := by rw [hl.out]; exact List.take_length
    rw [htk] at hT hF
    clear htk
    go_wp2_with (first | (with_reducible refine lst (by with_unfolding_all rfl) (wp_fldA4 hF Tryz.underlying51 rfl (by with_unfolding_all exact ⟨_, rfl, rfl⟩) (ds := (vlL 6 num t (.slice An nn cn) (.slice Ak nk ck))) (by rw [vlL_len]; kernel_rfl) (take_all _) ?_)) | (with_reducible refine lst (by with_unfolding_all rfl) (wp_fldA2 hF Tryz.underlying51 rfl (by with_unfolding_all exact ⟨_, rfl, rfl⟩) (ds := (vlL 6 0 ⟨#[]⟩ (.slice A nl c) (.slice B nl d))) (by rw [vlL_len]; kernel_rfl) (take_all _) ?_)))
    have hG := ((hF.toRd (i := 0) rfl).toRd (i := 1) rfl).perm (es' := .own w0.heap.size 9 1 (.slice An nn cn) nn (ns.map strv) :: .own w0.heap.size 51 5 (.slice Ak nk ck) nk xs :: .blk g2 51 vl0 :: .blk g3 51 (vlL 6 0 ⟨#[]⟩ (.slice A nl c) (.slice B nl d)) :: .blk g1 51 (vlL 6 num t (.slice An nn cn) (.slice Ak nk ck)) :: (es ++ (.rd A 1 nl (((tMem l).map (·.1)).map strv) :: .rd B 5 nl ys :: TE))) (by
     simp only [List.set_cons_zero, List.set_cons_succ]
     exact tperm _ _ _ _ _ _ _ _ _)
    have hVN : VT (tNotes l) (vlL 6 0 ⟨#[]⟩ (.slice A nl c) (.slice B nl d)) (.rd A 1 nl (((tMem l).map (·.1)).map strv) :: .rd B 5 nl ys :: TE) := by
     rw [tNotes_mem]; exact VT.mk_ hic hid hT.out
    clear hF
    refine (rput_any kNotes _ hG (by omega) (by omega) rfl vlL_one).mono ?_
    rintro e w7 ⟨A7, c7, B7, d7, hc7, hd7, rfl, hF7⟩
    clear hG
    go_wp2_with (first | ((with_reducible refine lst (by with_unfolding_all rfl) (wp_fstA2 hF7 (by with_unfolding_all exact ⟨_, _, rfl, rfl, rfl⟩) (by rw [vlL_len]; kernel_rfl) vlL_one vlL_fit vlL_spl ?_)); intro w8 hF8 hz8))
    exact bodyPost_ret (results_cellF rfl _ hF8 (i := 2) rfl rfl Tryz.underlying51 rfl (by rw [vlL_len]; kernel_rfl)) rfl (by
     unfold More
     rw [hw.out]
     exact ⟨A7, c7, B7, d7, _, _, hc7, hd7, rfl, VTL.snoc VTL.nil hVN, hF8.sub (List.Sublist.cons_cons _ (List.Sublist.cons_cons _ (List.Sublist.cons _ (List.Sublist.cons _ (List.Sublist.cons _ (List.Sublist.refl _))))))⟩)
end Go.Proofs.YtlhicfpmlncomaaGreatDoor

namespace Go.Proofs.YtlhicfpmlncomaaGreatDoor
open Go.RowKit Go.Lib
set_option linter.unusedSimpArgs false
/-- The number that a sign's bytes make, behind its first. -/
def szv (n : Int) (xs : List UInt8) : Int := xs.foldl (fun n x => n * 64 + (x.toNat : Int) - 128) n
theorem szv_snoc (n : Int) (xs : List UInt8) (x : UInt8) : szv n (xs ++ [x]) = szv n xs * 64 + (x.toNat : Int) - 128 := by unfold szv; rw [List.foldl_append]; rfl
theorem jSize1 {c : UInt8} {t : List UInt8} (h : c.toNat < 128) : jSize (c :: t) = 1 := by rw [jSize.eq_def]; simp only []; rw [if_pos h]
theorem jSize0 {c : UInt8} {t : List UInt8} (h : 128 ≤ c.toNat ∧ c.toNat < 194 ∨ 245 ≤ c.toNat) : jSize (c :: t) = 0 := by
 rw [jSize.eq_def]
 simp only []
 rw [if_neg (by omega)]
 by_cases h1 : c.toNat < 194
 ·rw [if_pos h1]
 ·rw [if_neg h1, if_neg (by omega), if_neg (by omega), if_neg (by omega)]
theorem cont_eq (x : UInt8) : jCont x = true ↔ 128 ≤ x.toNat ∧ x.toNat ≤ 191 := by unfold jCont; rw [Bool.and_eq_true, decide_eq_true_eq, decide_eq_true_eq]
/-- What is told of a sign of k bytes of which the first is c. -/
def szOk (k : Nat) (base : Nat) (c : UInt8) (xs : List UInt8) : Prop :=
 xs.all jCont = true ∧ (k = 3 → ¬ (szv ((c.toNat : Int) - base) xs < 2048 ∨ 55296 ≤ szv ((c.toNat : Int) - base) xs ∧ szv ((c.toNat : Int) - base) xs < 57344)) ∧ (k = 4 → ¬ (szv ((c.toNat : Int) - base) xs < 65536 ∨ 1114111 < szv ((c.toNat : Int) - base) xs))
instance (k base : Nat) (c : UInt8) (xs : List UInt8) : Decidable (szOk k base c xs) := by unfold szOk; exact inferInstance
theorem jSize_k {c : UInt8} {t : List UInt8} {k base : Nat} (h : k = 2 ∧ base = 192 ∧ 194 ≤ c.toNat ∧ c.toNat < 224 ∨ k = 3 ∧ base = 224 ∧ 224 ≤ c.toNat ∧ c.toNat < 240 ∨ k = 4 ∧ base = 240 ∧ 240 ≤ c.toNat ∧ c.toNat < 245) :
  jSize (c :: t) = if k ≤ t.length + 1 ∧ szOk k base c (t.take (k - 1)) then k else 0 := by
 rw [jSize.eq_def]
 simp only []
 rw [if_neg (by omega), if_neg (by omega)]
 rcases h with ⟨rfl, rfl, h1, h2⟩ | ⟨rfl, rfl, h1, h2⟩ | ⟨rfl, rfl, h1, h2⟩
 ·rw [if_pos h2]
  match t with
  | [] => simp
  | x :: t => simp [szOk]
 ·rw [if_neg (by omega), if_pos h2]
  match t with
  | [] => simp
  | [x] => simp
  | x :: y :: t =>
   simp only [List.length_cons, szOk, szv, List.take_succ_cons, List.take_zero, List.all_cons, List.all_nil, Bool.and_true, Bool.and_eq_true, List.foldl_cons, List.foldl_nil]
   by_cases hx : jCont x = true
   ·by_cases hy : jCont y = true
    ·have h3 := (cont_eq x).1 hx
     have h4 := (cont_eq y).1 hy
     congr 1
     simp only [hx, hy, true_and, eq_iff_iff]
     constructor
     ·intro h; refine ⟨by omega, fun _ => by omega, fun h => by omega⟩
     ·intro h; have := h.2.1 trivial; omega
    ·simp [hy]
   ·simp [hx]
 ·rw [if_neg (by omega), if_neg (by omega), if_pos h2]
  match t with
  | [] => simp
  | [x] => simp
  | [x, y] => simp
  | x :: y :: z :: t =>
   simp only [List.length_cons, szOk, szv, List.take_succ_cons, List.take_zero, List.all_cons, List.all_nil, Bool.and_true, Bool.and_eq_true, List.foldl_cons, List.foldl_nil]
   by_cases hx : jCont x = true
   ·by_cases hy : jCont y = true
    ·by_cases hz : jCont z = true
     ·have h3 := (cont_eq x).1 hx
      have h4 := (cont_eq y).1 hy
      have h5 := (cont_eq z).1 hz
      congr 1
      simp only [hx, hy, hz, true_and, eq_iff_iff]
      constructor
      ·intro h; refine ⟨by omega, fun h => by omega, fun _ => by omega⟩
      ·intro h; have := h.2.2 trivial; omega
     ·simp [hz]
    ·simp [hy]
   ·simp [hx]
end Go.Proofs.YtlhicfpmlncomaaGreatDoor
