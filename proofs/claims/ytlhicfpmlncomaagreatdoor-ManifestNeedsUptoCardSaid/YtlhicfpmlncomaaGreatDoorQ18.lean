/-
 Layer 8: documents laid anew: the laws' From and To.
 Layer 8: the document's text and put, walked: a member more, in the caller's frame.
 Layer 8, plain law: what is read is small.
 Layer 6: the walk of the program's Write.
 Layer 6, plain words: how many values a value has; which values are right, as the document counts it. No program is named here.
 Layer 6, plain law: texts that are read are texts. No program is named here.
 Layer 6, plain law: what is read is right, bare, and not too long when it is written. No program is named here.
 Layer 6, plain law: a text that is written is read as that text. No program is named here.
 Layer 6, plain law: a value that is written is read as that value. No program is named here.
 Layer 6, plain law: lists and objects that are written are read as themselves. No program is named here.
 Layer 6, plain law: what is written of a bare value that is right is read as that value. No program is named here.
 Layer 6, plain law: a value that is right is no deeper than it may be. No program is named here.
 Layer 6, plain words: a value without what isn't written. No program is named here.
 Layer 8, plain words: which documents may be written, and as which value; what is written is read as that document. No program is named here.
 Layer 7: the walks of the document's IsMedia.
 Layer 8: the document's media, walked.
 Two structs compared, field by field: whole numbers, texts, yes-or-no, arrays of bytes. No program is named here.
 Layer 8: the document's notes, walked.
 Layer 8: the document's withNotes, walked.
 Layer 6: the document's Size and Valid, walked.
 Layer 6: the document's Size, walked.
 Layer 6: the document's Valid, walked.
 Layer 8: the document's RightNotes and RightDesc, walked.
 Layer 7: the walks of a sum's text, further: the document's Parse; both Text.
 Layer 8: the document's desc, walked.
 Layer 8: the document's edges, walked.
 Layer 8: the document's RightDesc and Right, walked.
-/
import Derived.Test.YtlhicfpmlncomaaGreatDoorQ17
import Derived.Test.YtlhicfpmlncomaaGreatDoorQ03
import Derived.Test.YtlhicfpmlncomaaGreatDoorQ13
import Derived.Test.YtlhicfpmlncomaaGreatDoorQ14
import Derived.Test.YtlhicfpmlncomaaGreatDoorQ11
import Derived.Lib.ValidLaws
import Derived.Test.YtlhicfpmlncomaaGreatDoorQ12
import Derived.Test.YtlhicfpmlncomaaGreatDoorQ02
import Derived.Laws.StructEq
namespace Go.Proofs.YtlhicfpmlncomaaGreatDoor
open Go.RowKit
set_option linter.unusedSimpArgs false
set_option linter.unusedVariables false
/-- Memory reads as notes, a descriptor, descriptors, a document. -/
def RdN (w : World) (l : List MNote) (nt : Value) : Prop := ∃ A n c, n ≤ c ∧ n = l.length ∧ nt = .slice A n c ∧ Rd w (· < w.heap.size) A 2 n (ntsL l)
def RdD (w : World) (d : MDesc) (cs : List Value) : Prop := ∃ nt, d.dig.length = 32 ∧ RdN w d.notes nt ∧ cs = dsL d.media d.dig d.size nt
def RdE (w : World) (l : List MDesc) (v : Value) : Prop := ∃ A n c xs, n ≤ c ∧ n = l.length ∧ v = .slice A n c ∧ Rd w (· < w.heap.size) A 35 n xs ∧ ∀ i d, l[i]? = some d → RdD w d ((xs.drop (i * 35)).take 35)
def RdDoc (w : World) (d : MDoc) (cs : List Value) : Prop := ∃ cf eg sj nt, RdD w d.config cf ∧ RdE w d.edges eg ∧ RdD w d.subject sj ∧ RdN w d.notes nt ∧ cs = docL d.media d.type cf eg sj d.has nt
/-- No list of a document is longer than any machine bears. -/
def MB (d : MDoc) : Prop := d.config.notes.length ≤ 1048576 ∧ d.edges.length ≤ 1048576 ∧ (∀ x ∈ d.edges, x.notes.length ≤ 1048576) ∧ d.subject.notes.length ≤ 1048576 ∧ d.notes.length ≤ 1048576
section
variable {w w' : World}
theorem RdN.on {l : List MNote} {nt : Value} (h : RdN w l nt) (hb : Below w.heap.size w w') : RdN w' l nt := by
 obtain ⟨A, n, c, h1, h2, h3, h4⟩ := h
 exact ⟨A, n, c, h1, h2, h3, h4.on hb⟩
theorem RdD.on {d : MDesc} {cs : List Value} (h : RdD w d cs) (hb : Below w.heap.size w w') : RdD w' d cs := by
 obtain ⟨nt, h1, h2, h3⟩ := h
 exact ⟨nt, h1, h2.on hb, h3⟩
theorem RdE.on {l : List MDesc} {v : Value} (h : RdE w l v) (hb : Below w.heap.size w w') : RdE w' l v := by
 obtain ⟨A, n, c, xs, h1, h2, h3, h4, h5⟩ := h
 exact ⟨A, n, c, xs, h1, h2, h3, h4.on hb, fun i d hi => (h5 i d hi).on hb⟩
theorem RdDoc.on {d : MDoc} {cs : List Value} (h : RdDoc w d cs) (hb : Below w.heap.size w w') : RdDoc w' d cs := by
 obtain ⟨cf, eg, sj, nt, h1, h2, h3, h4, h5⟩ := h
 exact ⟨cf, eg, sj, nt, h1.on hb, h2.on hb, h3.on hb, h4.on hb, h5⟩
theorem RdD.len {d : MDesc} {cs : List Value} (h : RdD w d cs) : cs.length = 35 := by
 obtain ⟨nt, h1, _, rfl⟩ := h
 exact dsL_len h1
theorem RdD.ones {d : MDesc} {cs : List Value} (h : RdD w d cs) : ∀ u ∈ cs, u.oneCell' = true := by
 obtain ⟨nt, h1, ⟨A, n, c, _, _, rfl, _⟩, rfl⟩ := h
 exact dsL_one
variable {X : List Nat} {w0 : World} {es es' : List Ent}
theorem VN.rdN {l : List MNote} {nt : Value} (h : VN l nt es) (hF : Fr X w0 w es') (hs : ∀ e ∈ es, e ∈ es') : RdN w l nt := (h.mono hs).rd hF
theorem VD.rdD {d : MDesc} {cs : List Value} (h : VD d cs es) (hF : Fr X w0 w es') (hs : ∀ e ∈ es, e ∈ es') : RdD w d cs := by
 obtain ⟨nt, h1, h2, h3⟩ := h
 exact ⟨nt, h1, h2.rdN hF hs, h3⟩
theorem VE.rdE {l : List MDesc} {v : Value} (h : VE l v es) (hF : Fr X w0 w es') (hs : ∀ e ∈ es, e ∈ es') : RdE w l v := by
 obtain ⟨A, n, c, xs, h1, h2, h3, h4, h5⟩ := (h.mono hs).rd hF
 exact ⟨A, n, c, xs, h1, h2, h3, h5, fun i d hi => (h4.at hi).rdD hF (fun _ h => h)⟩
theorem VDoc.rdDoc {d : MDoc} {cs : List Value} (h : VDoc d cs es) (hF : Fr X w0 w es') (hs : ∀ e ∈ es, e ∈ es') : RdDoc w d cs := by
 obtain ⟨cf, eg, sj, nt, h1, h2, h3, h4, h5⟩ := h
 exact ⟨cf, eg, sj, nt, h1.rdD hF hs, h2.rdE hF hs, h3.rdD hF hs, h4.rdN hF hs, h5⟩
end
theorem doc_fill {m t : List UInt8} {cf sj : List Value} {A B : Option Addr} {n c n' c' : Nat} {has : Bool} (h1 : cf.length = 35) (h2 : sj.length = 35) :
  Instr.fill (fun i : Nat => docP[i]?) doc0.toArray [(0, .string ⟨m.toArray⟩), (1, .string ⟨t.toArray⟩), (2, .agg cf.toArray), (3, .slice A n c), (4, .agg sj.toArray), (5, .bool has), (6, .slice B n' c')] = some (docL m t cf (.slice A n c) sj has (.slice B n' c')).toArray := by
 unfold doc0
 rw [fill_step (off := 0) (size := 1) rfl rfl (by rw [docL_len ds0_len ds0_len]; omega), show (Value.string ⟨m.toArray⟩).cells.toList = [.string ⟨m.toArray⟩] from rfl, docL_0s,
  fill_step (off := 1) (size := 1) rfl rfl (by rw [docL_len ds0_len ds0_len]; omega), show (Value.string ⟨t.toArray⟩).cells.toList = [.string ⟨t.toArray⟩] from rfl, docL_1s,
  fill_step (off := 2) (size := 35) rfl (by simpa [Value.cells] using h1) (by rw [docL_len ds0_len ds0_len]; omega), show (Value.agg cf.toArray).cells.toList = cf from rfl, docL_2 (by rw [ds0_len, h1]),
  fill_step (off := 37) (size := 1) rfl rfl (by rw [docL_len h1 ds0_len]; omega), show (Value.slice A n c).cells.toList = [.slice A n c] from rfl, docL_37 h1,
  fill_step (off := 38) (size := 35) rfl (by simpa [Value.cells] using h2) (by rw [docL_len h1 ds0_len]; omega), show (Value.agg sj.toArray).cells.toList = sj from rfl, docL_38 h1 (by rw [ds0_len, h2]),
  fill_step (off := 73) (size := 1) rfl rfl (by rw [docL_len h1 h2]; omega), show (Value.bool has).cells.toList = [.bool has] from rfl, docL_73 h1 h2,
  fill_step (off := 74) (size := 1) rfl rfl (by rw [docL_len h1 h2]; omega), show (Value.slice B n' c').cells.toList = [.slice B n' c'] from rfl, docL_74 h1 h2]
 rfl
set_option maxRecDepth 20000 in
set_option maxHeartbeats 6400000 in
theorem From_any (d : MDoc) (cs : List Value) (w : World) (hD : RdDoc w d cs) (hB : MB d) :
  Calls Tryz.prog 15 #[.agg cs.toArray] w fun e w' => ∃ cs' es, e = .returned (.agg cs'.toArray) ∧ VDoc d cs' es ∧ Fr [] w w' es := by
 have hF0 := Fr.nil w
 obtain ⟨cf, eg, sj, nt, hC, hE, hS, hN, rfl⟩ := hD
 have hcl := box hC.len
 have hsl := box hS.len
 have hco := hC.ones
 have hso := hS.ones
 obtain ⟨hB1, hB2, hB3, hB4, hB5⟩ := hB
 have hcC : Box (∀ w', Below w.heap.size w w' → Calls Tryz.prog 36 #[.agg cf.toArray] w' fun e w2 => ∃ cs' es, e = .returned (.agg cs'.toArray) ∧ VD d.config cs' es ∧ Fr [] w' w2 es) := box (fun w' hb => by
  obtain ⟨nt, h1, ⟨A, n, c, _, h3, rfl, h5⟩, rfl⟩ := hC.on hb
  exact backDesc_any d.config _ A n c w' h1 rfl h3 (by omega) h5)
 have hcS : Box (∀ w', Below w.heap.size w w' → Calls Tryz.prog 36 #[.agg sj.toArray] w' fun e w2 => ∃ cs' es, e = .returned (.agg cs'.toArray) ∧ VD d.subject cs' es ∧ Fr [] w' w2 es) := box (fun w' hb => by
  obtain ⟨nt, h1, ⟨A, n, c, _, h3, rfl, h5⟩, rfl⟩ := hS.on hb
  exact backDesc_any d.subject _ A n c w' h1 rfl h3 (by omega) h5)
 have hcE : Box (∀ w', Below w.heap.size w w' → Calls Tryz.prog 26 #[eg] w' fun e w2 => ∃ eg' es, e = .returned eg' ∧ VE d.edges eg' es ∧ Fr [] w' w2 es) := box (fun w' hb => by
  obtain ⟨A, n, c, xs, _, h2, rfl, h4, h5⟩ := hE.on hb
  exact backDescs_any A n c d.edges xs w' h2 (by omega) h4 (fun i x hx => by
   obtain ⟨nt, h6, ⟨B, k, q, _, h8, rfl, h9⟩, h10⟩ := h5 i x hx
   have := hB3 x (List.mem_of_getElem? hx)
   exact ⟨B, k, q, h6, h10, h8, by omega, h9⟩))
 have hcN : Box (∀ w', Below w.heap.size w w' → Calls Tryz.prog 37 #[nt] w' fun e w2 => ∃ nt' es, e = .returned nt' ∧ VN d.notes nt' es ∧ Fr [] w' w2 es) := box (fun w' hb => by
  obtain ⟨A, n, c, _, h2, rfl, h4⟩ := hN.on hb
  exact backNotes_any A n c d.notes w' h2 (by omega) h4)
 obtain ⟨Ae, ne, ce, _, _, _, rfl, _, _⟩ := hE
 obtain ⟨An, nn, cn, _, _, rfl, _⟩ := hN
 clear hC hS hB1 hB2 hB3 hB4 hB5 hco hso
 go_enter Tryz.func15, Tryz.ntmps15
 go_upto_region 1 with (first | ((with_reducible refine lst (by with_unfolding_all rfl) (wp_fbox hF0 (cs := (docL d.media d.type cf (.slice Ae ne ce) sj d.has (.slice An nn cn))) rfl (by with_unfolding_all rfl) (by with_unfolding_all rfl) ?_)); intro w1 g1 hF1 hz1) | ((with_reducible refine lst (by with_unfolding_all rfl) (wp_falloc hF1 (cs := doc0) (z := .agg (List.toArray (doc0))) rfl (by kernel_rfl) (by with_unfolding_all rfl) ?_)); intro w2 g2 hF2 hz2))
 have hFd := (hF2.perm (List.Perm.swap _ _ _)).drew
 clear hF0 hF1 hF2
 refine wp_region_held (S := fun w' => w'.heap[g1]? = some (.cells (List.toArray (docL d.media d.type cf (.slice Ae ne ce) sj d.has (.slice An nn cn))) 31 (0, 0))) (by kernel_rfl) ?_
 change wpAnyH _ _ _ _ _ _ _ _ (World.drew _)
 refine tkp 0 (hFd.blk (i := 0) rfl) ?_
 (try simp only [Act.put, List.setIfInBounds_toArray, List.set_cons_zero, List.set_cons_succ])
 refine tky 1 (y := yi_fld (by with_unfolding_all rfl) (fun _ h => h) Tryz.underlying9 rfl (by with_unfolding_all exact ⟨_, rfl, rfl⟩) docL_m0) (s := (hFd.blk (i := 0) rfl)) (h := ?_)
 (try simp only [Act.put, List.setIfInBounds_toArray, List.set_cons_zero, List.set_cons_succ])
 refine tkp 2 (hFd.blk (i := 0) rfl) ?_
 (try simp only [Act.put, List.setIfInBounds_toArray, List.set_cons_zero, List.set_cons_succ])
 refine tky 3 (y := yi_fld (by with_unfolding_all rfl) (fun _ h => h) Tryz.underlying9 rfl (by with_unfolding_all exact ⟨_, rfl, rfl⟩) docL_t0) (s := (hFd.blk (i := 0) rfl)) (h := ?_)
 (try simp only [Act.put, List.setIfInBounds_toArray, List.set_cons_zero, List.set_cons_succ])
 refine tkp 4 (hFd.blk (i := 0) rfl) ?_
 (try simp only [Act.put, List.setIfInBounds_toArray, List.set_cons_zero, List.set_cons_succ])
 refine tky 5 (y := yi_fldA (by with_unfolding_all rfl) (fun _ h => h) Tryz.underlying28 rfl (by with_unfolding_all exact ⟨_, rfl, rfl⟩) (ds := cf) (by rw [hcl.out]; kernel_rfl) (by rw [hcl.out]; exact docL_cf hcl.out)) (s := (hFd.blk (i := 0) rfl)) (h := ?_)
 (try simp only [Act.put, List.setIfInBounds_toArray, List.set_cons_zero, List.set_cons_succ])
 refine tkp 7 (hFd.blk (i := 0) rfl) ?_
 (try simp only [Act.put, List.setIfInBounds_toArray, List.set_cons_zero, List.set_cons_succ])
 refine tky 8 (y := yi_fld (by with_unfolding_all rfl) (fun _ h => h) Tryz.underlying29 rfl (by with_unfolding_all exact ⟨_, rfl, rfl⟩) (docL_eg hcl.out)) (s := (hFd.blk (i := 0) rfl)) (h := ?_)
 (try simp only [Act.put, List.setIfInBounds_toArray, List.set_cons_zero, List.set_cons_succ])
 refine tkp 10 (hFd.blk (i := 0) rfl) ?_
 (try simp only [Act.put, List.setIfInBounds_toArray, List.set_cons_zero, List.set_cons_succ])
 refine tky 11 (y := yi_fldA (by with_unfolding_all rfl) (fun _ h => h) Tryz.underlying28 rfl (by with_unfolding_all exact ⟨_, rfl, rfl⟩) (ds := sj) (by rw [hsl.out]; kernel_rfl) (by rw [hsl.out]; exact docL_sj hcl.out hsl.out)) (s := (hFd.blk (i := 0) rfl)) (h := ?_)
 (try simp only [Act.put, List.setIfInBounds_toArray, List.set_cons_zero, List.set_cons_succ])
 refine tkp 13 (hFd.blk (i := 0) rfl) ?_
 (try simp only [Act.put, List.setIfInBounds_toArray, List.set_cons_zero, List.set_cons_succ])
 refine tky 14 (y := yi_fld (by with_unfolding_all rfl) (fun _ h => h) Tryz.underlying4 rfl (by with_unfolding_all exact ⟨_, rfl, rfl⟩) (docL_has hcl.out hsl.out)) (s := (hFd.blk (i := 0) rfl)) (h := ?_)
 (try simp only [Act.put, List.setIfInBounds_toArray, List.set_cons_zero, List.set_cons_succ])
 refine tkp 15 (hFd.blk (i := 0) rfl) ?_
 (try simp only [Act.put, List.setIfInBounds_toArray, List.set_cons_zero, List.set_cons_succ])
 refine tky 16 (y := yi_fld (by with_unfolding_all rfl) (fun _ h => h) Tryz.underlying26 rfl (by with_unfolding_all exact ⟨_, rfl, rfl⟩) (docL_nt hcl.out hsl.out)) (s := (hFd.blk (i := 0) rfl)) (h := ?_)
 (try simp only [Act.put, List.setIfInBounds_toArray, List.set_cons_zero, List.set_cons_succ])
 refine rdy1 6 (fun K hK => ?_)
 refine stp (by with_unfolding_all rfl) (wp_call Tryz.func36 rfl (by with_unfolding_all rfl) (by with_unfolding_all rfl) (by with_unfolding_all rfl) (hcC.out _ hFd.below) ?_)
 rintro e w31 ⟨nt31, es31, rfl, hvn31, hv31⟩
 refine ⟨_, rfl, ?_⟩
 have hF31 := hFd.joinR hv31
 simp only [List.cons_append, List.nil_append] at hF31
 have hdl31 := box hvn31.len
 have hdo31 := hvn31.ones
 replace hdo31 := box hdo31
 refine hK.out _ _ ((hF31.blk (i := 0) rfl)) (fun _ => ?_)
 clear hK K
 (try simp only [Act.put, List.setIfInBounds_toArray, List.set_cons_zero, List.set_cons_succ])
 refine rdy1 9 (fun K hK => ?_)
 refine stp (by with_unfolding_all rfl) (wp_call Tryz.func26 rfl (by with_unfolding_all rfl) (by with_unfolding_all rfl) (by with_unfolding_all rfl) (hcE.out _ hF31.below) ?_)
 rintro e w32 ⟨nt32, es32, rfl, hvn32, hv32⟩
 refine ⟨_, rfl, ?_⟩
 have hF32 := hF31.joinR hv32
 simp only [List.cons_append, List.nil_append] at hF32
 obtain ⟨A32, l32, c32, xs32, hlc32, hll32, rfl, hT32, hm32⟩ := hvn32
 replace hll32 := box hll32
 refine hK.out _ _ ((hF32.blk (i := 0) rfl)) (fun _ => ?_)
 clear hK K
 (try simp only [Act.put, List.setIfInBounds_toArray, List.set_cons_zero, List.set_cons_succ])
 refine rdy1 12 (fun K hK => ?_)
 refine stp (by with_unfolding_all rfl) (wp_call Tryz.func36 rfl (by with_unfolding_all rfl) (by with_unfolding_all rfl) (by with_unfolding_all rfl) (hcS.out _ hF32.below) ?_)
 rintro e w33 ⟨nt33, es33, rfl, hvn33, hv33⟩
 refine ⟨_, rfl, ?_⟩
 have hF33 := hF32.joinR hv33
 simp only [List.cons_append, List.nil_append] at hF33
 have hdl33 := box hvn33.len
 have hdo33 := hvn33.ones
 replace hdo33 := box hdo33
 refine hK.out _ _ ((hF33.blk (i := 0) rfl)) (fun _ => ?_)
 clear hK K
 (try simp only [Act.put, List.setIfInBounds_toArray, List.set_cons_zero, List.set_cons_succ])
 refine rdy1 17 (fun K hK => ?_)
 refine stp (by with_unfolding_all rfl) (wp_call Tryz.func37 rfl (by with_unfolding_all rfl) (by with_unfolding_all rfl) (by with_unfolding_all rfl) (hcN.out _ hF33.below) ?_)
 rintro e w34 ⟨nt34, es34, rfl, hvn34, hv34⟩
 refine ⟨_, rfl, ?_⟩
 have hF34 := hF33.joinR hv34
 simp only [List.cons_append, List.nil_append] at hF34
 obtain ⟨A34, l34, c34, hlc34, hll34, rfl, hm34⟩ := hvn34
 replace hll34 := box hll34
 refine hK.out _ _ ((hF34.blk (i := 0) rfl)) (fun _ => ?_)
 clear hK K
 (try simp only [Act.put, List.setIfInBounds_toArray, List.set_cons_zero, List.set_cons_succ])
 refine rdy1 18 (fun K hK => ?_)
 refine stp (by with_unfolding_all rfl) (wp_fbuild Tryz.underlying40 (z := .agg (List.toArray doc0)) (by kernel_rfl) (pl := docP) (by kernel_rfl) (cs := (docL d.media d.type nt31 (.slice A32 l32 c32) nt33 d.has (.slice A34 l34 c34))) rfl (vs := [(0, .string ⟨d.media.toArray⟩), (1, .string ⟨d.type.toArray⟩), (2, .agg nt31.toArray), (3, .slice A32 l32 c32), (4, .agg nt33.toArray), (5, .bool d.has), (6, .slice A34 l34 c34)]) (by with_unfolding_all rfl) (doc_fill hdl31.out hdl33.out) ?_)
 refine hK.out _ _ ((hF34.blk (i := 0) rfl)) (fun _ => ?_)
 clear hK K
 (try simp only [Act.put, List.setIfInBounds_toArray, List.set_cons_zero, List.set_cons_succ])
 refine rdy1 19 (fun K hK => ?_)
 refine stp (by with_unfolding_all rfl) (wp_fstA hF34 (i := 1) rfl (ds := (docL d.media d.type nt31 (.slice A32 l32 c32) nt33 d.has (.slice A34 l34 c34))) (by with_unfolding_all exact ⟨_, _, rfl, rfl, rfl⟩) (by rw [docL_len hdl31.out hdl33.out]; kernel_rfl) (docL_one hdo31.out hdo33.out rfl rfl) (by rw [docL_len hdl31.out hdl33.out, doc0_len]; decide) ?_)
 intro w35 hF35 hz35
 (try simp only [List.set_cons_zero, List.set_cons_succ] at hF35)
 rw [(spl_all (by rw [docL_len hdl31.out hdl33.out, doc0_len]) : spl doc0 0 (docL d.media d.type nt31 (.slice A32 l32 c32) nt33 d.has (.slice A34 l34 c34)) = _)] at hF35
 refine hK.out _ _ ((hF35.blk (i := 0) rfl)) (fun _ => ?_)
 clear hK K
 (try simp only [Act.put, List.setIfInBounds_toArray, List.set_cons_zero, List.set_cons_succ])
 refine wpAnyH_done (by kernel_rfl) ?_ _
 go_wp2_with fail
 exact bodyPost_ret (results_cellF rfl _ hF35 (i := 1) rfl rfl Tryz.underlying40 rfl (by rw [docL_len hdl31.out hdl33.out]; kernel_rfl)) rfl ⟨_, _, rfl, ⟨_, _, _, _, hvn31.mono (fun _ h => by simp [h]), ⟨A32, l32, c32, xs32, hlc32, hll32.out, rfl, hT32.mono (fun _ h => by simp [h]), hm32.imp id (fun h => by simp [h])⟩, hvn33.mono (fun _ h => by simp [h]), ⟨A34, l34, c34, hlc34, hll34.out, rfl, hm34.imp id (fun h => by simp [h])⟩, rfl⟩, hF35.tail.tail⟩
set_option maxRecDepth 20000 in
set_option maxHeartbeats 6400000 in
theorem To_any (d : MDoc) (cs : List Value) (w : World) (hD : RdDoc w d cs) (hB : MB d) :
  Calls Tryz.prog 23 #[.agg cs.toArray] w fun e w' => ∃ cs' es, e = .returned (.agg cs'.toArray) ∧ VDoc d cs' es ∧ Fr [] w w' es := by
 have hF0 := Fr.nil w
 obtain ⟨cf, eg, sj, nt, hC, hE, hS, hN, rfl⟩ := hD
 have hcl := box hC.len
 have hsl := box hS.len
 have hco := hC.ones
 have hso := hS.ones
 obtain ⟨hB1, hB2, hB3, hB4, hB5⟩ := hB
 have hcC : Box (∀ w', Below w.heap.size w w' → Calls Tryz.prog 53 #[.agg cf.toArray] w' fun e w2 => ∃ cs' es, e = .returned (.agg cs'.toArray) ∧ VD d.config cs' es ∧ Fr [] w' w2 es) := box (fun w' hb => by
  obtain ⟨nt, h1, ⟨A, n, c, _, h3, rfl, h5⟩, rfl⟩ := hC.on hb
  exact desc_any d.config _ A n c w' h1 rfl h3 (by omega) h5)
 have hcS : Box (∀ w', Below w.heap.size w w' → Calls Tryz.prog 53 #[.agg sj.toArray] w' fun e w2 => ∃ cs' es, e = .returned (.agg cs'.toArray) ∧ VD d.subject cs' es ∧ Fr [] w' w2 es) := box (fun w' hb => by
  obtain ⟨nt, h1, ⟨A, n, c, _, h3, rfl, h5⟩, rfl⟩ := hS.on hb
  exact desc_any d.subject _ A n c w' h1 rfl h3 (by omega) h5)
 have hcE : Box (∀ w', Below w.heap.size w w' → Calls Tryz.prog 54 #[eg] w' fun e w2 => ∃ eg' es, e = .returned eg' ∧ VE d.edges eg' es ∧ Fr [] w' w2 es) := box (fun w' hb => by
  obtain ⟨A, n, c, xs, _, h2, rfl, h4, h5⟩ := hE.on hb
  exact descs_any A n c d.edges xs w' h2 (by omega) h4 (fun i x hx => by
   obtain ⟨nt, h6, ⟨B, k, q, _, h8, rfl, h9⟩, h10⟩ := h5 i x hx
   have := hB3 x (List.mem_of_getElem? hx)
   exact ⟨B, k, q, h6, h10, h8, by omega, h9⟩))
 have hcN : Box (∀ w', Below w.heap.size w w' → Calls Tryz.prog 55 #[nt] w' fun e w2 => ∃ nt' es, e = .returned nt' ∧ VN d.notes nt' es ∧ Fr [] w' w2 es) := box (fun w' hb => by
  obtain ⟨A, n, c, _, h2, rfl, h4⟩ := hN.on hb
  exact notes_any A n c d.notes w' h2 (by omega) h4)
 obtain ⟨Ae, ne, ce, _, _, _, rfl, _, _⟩ := hE
 obtain ⟨An, nn, cn, _, _, rfl, _⟩ := hN
 clear hC hS hB1 hB2 hB3 hB4 hB5 hco hso
 go_enter Tryz.func23, Tryz.ntmps23
 go_upto_region 1 with (first | ((with_reducible refine lst (by with_unfolding_all rfl) (wp_fbox hF0 (cs := (docL d.media d.type cf (.slice Ae ne ce) sj d.has (.slice An nn cn))) rfl (by with_unfolding_all rfl) (by with_unfolding_all rfl) ?_)); intro w1 g1 hF1 hz1) | ((with_reducible refine lst (by with_unfolding_all rfl) (wp_falloc hF1 (cs := doc0) (z := .agg (List.toArray (doc0))) rfl (by kernel_rfl) (by with_unfolding_all rfl) ?_)); intro w2 g2 hF2 hz2))
 have hFd := (hF2.perm (List.Perm.swap _ _ _)).drew
 clear hF0 hF1 hF2
 refine wp_region_held (S := fun w' => w'.heap[g1]? = some (.cells (List.toArray (docL d.media d.type cf (.slice Ae ne ce) sj d.has (.slice An nn cn))) 40 (0, 0))) (by kernel_rfl) ?_
 change wpAnyH _ _ _ _ _ _ _ _ (World.drew _)
 refine tkp 0 (hFd.blk (i := 0) rfl) ?_
 (try simp only [Act.put, List.setIfInBounds_toArray, List.set_cons_zero, List.set_cons_succ])
 refine tky 1 (y := yi_fld (by with_unfolding_all rfl) (fun _ h => h) Tryz.underlying9 rfl (by with_unfolding_all exact ⟨_, rfl, rfl⟩) docL_m0) (s := (hFd.blk (i := 0) rfl)) (h := ?_)
 (try simp only [Act.put, List.setIfInBounds_toArray, List.set_cons_zero, List.set_cons_succ])
 refine tkp 2 (hFd.blk (i := 0) rfl) ?_
 (try simp only [Act.put, List.setIfInBounds_toArray, List.set_cons_zero, List.set_cons_succ])
 refine tky 3 (y := yi_fld (by with_unfolding_all rfl) (fun _ h => h) Tryz.underlying9 rfl (by with_unfolding_all exact ⟨_, rfl, rfl⟩) docL_t0) (s := (hFd.blk (i := 0) rfl)) (h := ?_)
 (try simp only [Act.put, List.setIfInBounds_toArray, List.set_cons_zero, List.set_cons_succ])
 refine tkp 4 (hFd.blk (i := 0) rfl) ?_
 (try simp only [Act.put, List.setIfInBounds_toArray, List.set_cons_zero, List.set_cons_succ])
 refine tky 5 (y := yi_fldA (by with_unfolding_all rfl) (fun _ h => h) Tryz.underlying37 rfl (by with_unfolding_all exact ⟨_, rfl, rfl⟩) (ds := cf) (by rw [hcl.out]; kernel_rfl) (by rw [hcl.out]; exact docL_cf hcl.out)) (s := (hFd.blk (i := 0) rfl)) (h := ?_)
 (try simp only [Act.put, List.setIfInBounds_toArray, List.set_cons_zero, List.set_cons_succ])
 refine tkp 7 (hFd.blk (i := 0) rfl) ?_
 (try simp only [Act.put, List.setIfInBounds_toArray, List.set_cons_zero, List.set_cons_succ])
 refine tky 8 (y := yi_fld (by with_unfolding_all rfl) (fun _ h => h) Tryz.underlying38 rfl (by with_unfolding_all exact ⟨_, rfl, rfl⟩) (docL_eg hcl.out)) (s := (hFd.blk (i := 0) rfl)) (h := ?_)
 (try simp only [Act.put, List.setIfInBounds_toArray, List.set_cons_zero, List.set_cons_succ])
 refine tkp 10 (hFd.blk (i := 0) rfl) ?_
 (try simp only [Act.put, List.setIfInBounds_toArray, List.set_cons_zero, List.set_cons_succ])
 refine tky 11 (y := yi_fldA (by with_unfolding_all rfl) (fun _ h => h) Tryz.underlying37 rfl (by with_unfolding_all exact ⟨_, rfl, rfl⟩) (ds := sj) (by rw [hsl.out]; kernel_rfl) (by rw [hsl.out]; exact docL_sj hcl.out hsl.out)) (s := (hFd.blk (i := 0) rfl)) (h := ?_)
 (try simp only [Act.put, List.setIfInBounds_toArray, List.set_cons_zero, List.set_cons_succ])
 refine tkp 13 (hFd.blk (i := 0) rfl) ?_
 (try simp only [Act.put, List.setIfInBounds_toArray, List.set_cons_zero, List.set_cons_succ])
 refine tky 14 (y := yi_fld (by with_unfolding_all rfl) (fun _ h => h) Tryz.underlying4 rfl (by with_unfolding_all exact ⟨_, rfl, rfl⟩) (docL_has hcl.out hsl.out)) (s := (hFd.blk (i := 0) rfl)) (h := ?_)
 (try simp only [Act.put, List.setIfInBounds_toArray, List.set_cons_zero, List.set_cons_succ])
 refine tkp 15 (hFd.blk (i := 0) rfl) ?_
 (try simp only [Act.put, List.setIfInBounds_toArray, List.set_cons_zero, List.set_cons_succ])
 refine tky 16 (y := yi_fld (by with_unfolding_all rfl) (fun _ h => h) Tryz.underlying35 rfl (by with_unfolding_all exact ⟨_, rfl, rfl⟩) (docL_nt hcl.out hsl.out)) (s := (hFd.blk (i := 0) rfl)) (h := ?_)
 (try simp only [Act.put, List.setIfInBounds_toArray, List.set_cons_zero, List.set_cons_succ])
 refine rdy1 6 (fun K hK => ?_)
 refine stp (by with_unfolding_all rfl) (wp_call Tryz.func53 rfl (by with_unfolding_all rfl) (by with_unfolding_all rfl) (by with_unfolding_all rfl) (hcC.out _ hFd.below) ?_)
 rintro e w31 ⟨nt31, es31, rfl, hvn31, hv31⟩
 refine ⟨_, rfl, ?_⟩
 have hF31 := hFd.joinR hv31
 simp only [List.cons_append, List.nil_append] at hF31
 have hdl31 := box hvn31.len
 have hdo31 := hvn31.ones
 replace hdo31 := box hdo31
 refine hK.out _ _ ((hF31.blk (i := 0) rfl)) (fun _ => ?_)
 clear hK K
 (try simp only [Act.put, List.setIfInBounds_toArray, List.set_cons_zero, List.set_cons_succ])
 refine rdy1 9 (fun K hK => ?_)
 refine stp (by with_unfolding_all rfl) (wp_call Tryz.func54 rfl (by with_unfolding_all rfl) (by with_unfolding_all rfl) (by with_unfolding_all rfl) (hcE.out _ hF31.below) ?_)
 rintro e w32 ⟨nt32, es32, rfl, hvn32, hv32⟩
 refine ⟨_, rfl, ?_⟩
 have hF32 := hF31.joinR hv32
 simp only [List.cons_append, List.nil_append] at hF32
 obtain ⟨A32, l32, c32, xs32, hlc32, hll32, rfl, hT32, hm32⟩ := hvn32
 replace hll32 := box hll32
 refine hK.out _ _ ((hF32.blk (i := 0) rfl)) (fun _ => ?_)
 clear hK K
 (try simp only [Act.put, List.setIfInBounds_toArray, List.set_cons_zero, List.set_cons_succ])
 refine rdy1 12 (fun K hK => ?_)
 refine stp (by with_unfolding_all rfl) (wp_call Tryz.func53 rfl (by with_unfolding_all rfl) (by with_unfolding_all rfl) (by with_unfolding_all rfl) (hcS.out _ hF32.below) ?_)
 rintro e w33 ⟨nt33, es33, rfl, hvn33, hv33⟩
 refine ⟨_, rfl, ?_⟩
 have hF33 := hF32.joinR hv33
 simp only [List.cons_append, List.nil_append] at hF33
 have hdl33 := box hvn33.len
 have hdo33 := hvn33.ones
 replace hdo33 := box hdo33
 refine hK.out _ _ ((hF33.blk (i := 0) rfl)) (fun _ => ?_)
 clear hK K
 (try simp only [Act.put, List.setIfInBounds_toArray, List.set_cons_zero, List.set_cons_succ])
 refine rdy1 17 (fun K hK => ?_)
 refine stp (by with_unfolding_all rfl) (wp_call Tryz.func55 rfl (by with_unfolding_all rfl) (by with_unfolding_all rfl) (by with_unfolding_all rfl) (hcN.out _ hF33.below) ?_)
 rintro e w34 ⟨nt34, es34, rfl, hvn34, hv34⟩
 refine ⟨_, rfl, ?_⟩
 have hF34 := hF33.joinR hv34
 simp only [List.cons_append, List.nil_append] at hF34
 obtain ⟨A34, l34, c34, hlc34, hll34, rfl, hm34⟩ := hvn34
 replace hll34 := box hll34
 refine hK.out _ _ ((hF34.blk (i := 0) rfl)) (fun _ => ?_)
 clear hK K
 (try simp only [Act.put, List.setIfInBounds_toArray, List.set_cons_zero, List.set_cons_succ])
 refine rdy1 18 (fun K hK => ?_)
 refine stp (by with_unfolding_all rfl) (wp_fbuild Tryz.underlying31 (z := .agg (List.toArray doc0)) (by kernel_rfl) (pl := docP) (by kernel_rfl) (cs := (docL d.media d.type nt31 (.slice A32 l32 c32) nt33 d.has (.slice A34 l34 c34))) rfl (vs := [(0, .string ⟨d.media.toArray⟩), (1, .string ⟨d.type.toArray⟩), (2, .agg nt31.toArray), (3, .slice A32 l32 c32), (4, .agg nt33.toArray), (5, .bool d.has), (6, .slice A34 l34 c34)]) (by with_unfolding_all rfl) (doc_fill hdl31.out hdl33.out) ?_)
 refine hK.out _ _ ((hF34.blk (i := 0) rfl)) (fun _ => ?_)
 clear hK K
 (try simp only [Act.put, List.setIfInBounds_toArray, List.set_cons_zero, List.set_cons_succ])
 refine rdy1 19 (fun K hK => ?_)
 refine stp (by with_unfolding_all rfl) (wp_fstA hF34 (i := 1) rfl (ds := (docL d.media d.type nt31 (.slice A32 l32 c32) nt33 d.has (.slice A34 l34 c34))) (by with_unfolding_all exact ⟨_, _, rfl, rfl, rfl⟩) (by rw [docL_len hdl31.out hdl33.out]; kernel_rfl) (docL_one hdo31.out hdo33.out rfl rfl) (by rw [docL_len hdl31.out hdl33.out, doc0_len]; decide) ?_)
 intro w35 hF35 hz35
 (try simp only [List.set_cons_zero, List.set_cons_succ] at hF35)
 rw [(spl_all (by rw [docL_len hdl31.out hdl33.out, doc0_len]) : spl doc0 0 (docL d.media d.type nt31 (.slice A32 l32 c32) nt33 d.has (.slice A34 l34 c34)) = _)] at hF35
 refine hK.out _ _ ((hF35.blk (i := 0) rfl)) (fun _ => ?_)
 clear hK K
 (try simp only [Act.put, List.setIfInBounds_toArray, List.set_cons_zero, List.set_cons_succ])
 refine wpAnyH_done (by kernel_rfl) ?_ _
 go_wp2_with fail
 exact bodyPost_ret (results_cellF rfl _ hF35 (i := 1) rfl rfl Tryz.underlying31 rfl (by rw [docL_len hdl31.out hdl33.out]; kernel_rfl)) rfl ⟨_, _, rfl, ⟨_, _, _, _, hvn31.mono (fun _ h => by simp [h]), ⟨A32, l32, c32, xs32, hlc32, hll32.out, rfl, hT32.mono (fun _ h => by simp [h]), hm32.imp id (fun h => by simp [h])⟩, hvn33.mono (fun _ h => by simp [h]), ⟨A34, l34, c34, hlc34, hll34.out, rfl, hm34.imp id (fun h => by simp [h])⟩, rfl⟩, hF35.tail.tail⟩
end Go.Proofs.YtlhicfpmlncomaaGreatDoor

namespace Go.Proofs.YtlhicfpmlncomaaGreatDoor
open Go.RowKit
set_option linter.unusedSimpArgs false
set_option linter.unusedVariables false
end Go.Proofs.YtlhicfpmlncomaaGreatDoor

namespace Go.Proofs.YtlhicfpmlncomaaGreatDoor
set_option linter.unusedSimpArgs false
set_option linter.unusedVariables false
/-- A document is small. -/
def MBs (d : MDoc) : Prop := d.config.notes.length ≤ 32 ∧ d.edges.length ≤ 64 ∧ (∀ x ∈ d.edges, x.notes.length ≤ 32) ∧ d.subject.notes.length ≤ 32 ∧ d.notes.length ≤ 32
theorem MBs.zero : MBs .zero := ⟨by simp [MDoc.zero, MDesc.zero], by simp [MDoc.zero], by simp [MDoc.zero], by simp [MDoc.zero, MDesc.zero], by simp [MDoc.zero]⟩
end Go.Proofs.YtlhicfpmlncomaaGreatDoor

namespace Go.Proofs.YtlhicfpmlncomaaGreatDoor
open Go.RowKit
set_option linter.unusedSimpArgs false
end Go.Proofs.YtlhicfpmlncomaaGreatDoor

namespace Go.Proofs.YtlhicfpmlncomaaGreatDoor
open Go.Lib
set_option linter.unusedSimpArgs false
/-- What no value is right with. -/
def jBadD (k n : Int) (t : List UInt8) : Prop := k < 0 ∨ 6 < k ∨ 9007199254740991 < n ∨ n < -9007199254740991 ∨ validD t = false
instance (k n : Int) (t : List UInt8) : Decidable (jBadD k n t) := by unfold jBadD; exact inferInstance
end Go.Proofs.YtlhicfpmlncomaaGreatDoor

namespace Go.Proofs.YtlhicfpmlncomaaGreatDoor
open Go.Lib
set_option linter.unusedSimpArgs false
set_option linter.unusedVariables false
end Go.Proofs.YtlhicfpmlncomaaGreatDoor

namespace Go.Proofs.YtlhicfpmlncomaaGreatDoor
open Go.Lib
set_option linter.unusedSimpArgs false
set_option linter.unusedVariables false
end Go.Proofs.YtlhicfpmlncomaaGreatDoor

namespace Go.Proofs.YtlhicfpmlncomaaGreatDoor
open Go.Lib
set_option linter.unusedSimpArgs false
set_option linter.unusedVariables false
end Go.Proofs.YtlhicfpmlncomaaGreatDoor

namespace Go.Proofs.YtlhicfpmlncomaaGreatDoor
open Go.Lib
set_option linter.unusedSimpArgs false
set_option linter.unusedVariables false
end Go.Proofs.YtlhicfpmlncomaaGreatDoor

namespace Go.Proofs.YtlhicfpmlncomaaGreatDoor
open Go.Lib
set_option linter.unusedSimpArgs false
set_option linter.unusedVariables false
end Go.Proofs.YtlhicfpmlncomaaGreatDoor

namespace Go.Proofs.YtlhicfpmlncomaaGreatDoor
open Go.Lib
set_option linter.unusedSimpArgs false
set_option linter.unusedVariables false
end Go.Proofs.YtlhicfpmlncomaaGreatDoor

namespace Go.Proofs.YtlhicfpmlncomaaGreatDoor
set_option linter.unusedSimpArgs false
set_option linter.unusedVariables false
end Go.Proofs.YtlhicfpmlncomaaGreatDoor

namespace Go.Proofs.YtlhicfpmlncomaaGreatDoor
open Go.Lib
set_option linter.unusedSimpArgs false
set_option linter.unusedVariables false
end Go.Proofs.YtlhicfpmlncomaaGreatDoor

namespace Go.Proofs.YtlhicfpmlncomaaGreatDoor
open Go.Lib
set_option linter.unusedSimpArgs false
set_option linter.unusedVariables false
def mRightN (l : List MNote) : Prop := l.length ≤ 32 ∧ (∀ x ∈ l, validD x.key = true ∧ validD x.val = true) ∧ (l.map (·.key)).Nodup
def mRightD (d : MDesc) : Prop := mediaB d.media = true ∧ 0 ≤ d.size ∧ d.size ≤ 1099511627776 ∧ mRightN d.notes
def mRight (d : MDoc) : Prop := (d.media = sImage ∨ d.media = sIndex) ∧ (d.type = [] ∨ mediaB d.type = true) ∧ d.edges.length ≤ 64 ∧ mRightN d.notes ∧ (∀ x ∈ d.edges, mRightD x) ∧ (d.media = sImage → mRightD d.config) ∧ (d.has = true → mRightD d.subject)
instance (l : List MNote) : Decidable (mRightN l) := by unfold mRightN; exact inferInstance
instance (d : MDesc) : Decidable (mRightD d) := by unfold mRightD; exact inferInstance
instance (d : MDoc) : Decidable (mRight d) := by unfold mRight; exact inferInstance
-- What is told is bare.
-- Reading members, one behind the other.
section
variable {d : MDoc}
end
end Go.Proofs.YtlhicfpmlncomaaGreatDoor

namespace Go.Proofs.YtlhicfpmlncomaaGreatDoor
open Go.RowKit
end Go.Proofs.YtlhicfpmlncomaaGreatDoor

namespace Go.Proofs.YtlhicfpmlncomaaGreatDoor
open Go.RowKit
set_option linter.unusedSimpArgs false
set_option linter.unusedVariables false
end Go.Proofs.YtlhicfpmlncomaaGreatDoor

namespace Go.Proofs.YtlhicfpmlncomaaGreatDoor
open Go.RowKit
/-- A field of two structs (cells xs, ys): compared, it is told b. -/
inductive FieldEq (P : Program) (xs ys : List Value) : Field → Bool → Prop
 | int {f : Field} {k k' : IntKind} {a b : Int} (hn : f.name ≠ "_") (ht : P.underlying f.type = some (.int k')) (hx : xs[f.offset]? = some (.int k a)) (hy : ys[f.offset]? = some (.int k b)) : FieldEq P xs ys f (a == b)
 | bool {f : Field} {a b : Bool} (hn : f.name ≠ "_") (ht : P.underlying f.type = some .bool) (hx : xs[f.offset]? = some (.bool a)) (hy : ys[f.offset]? = some (.bool b)) : FieldEq P xs ys f (a == b)
 | str {f : Field} {a b : ByteArray} (hn : f.name ≠ "_") (ht : P.underlying f.type = some .string) (hx : xs[f.offset]? = some (.string a)) (hy : ys[f.offset]? = some (.string b)) : FieldEq P xs ys f (a.toList == b.toList)
 | arr {f : Field} {n : Nat} {u8 : TypeId} {l m : List UInt8} (hn : f.name ≠ "_") (ht : P.underlying f.type = some (.array n u8)) (hs : (P.info? f.type).map (·.size) = some n) (hb : P.underlying u8 = some (.int .u8)) (h1 : (P.info? u8).map (·.size) = some 1)
  (hl : l.length = n) (hm : m.length = n) (hx : (xs.drop f.offset).take n = l.map bv) (hy : (ys.drop f.offset).take n = m.map bv) : FieldEq P xs ys f (l == m)
section
variable {P : Program} {o : Oper} {a : Act} {K : Act → World → Prop} {Q : Exit → Act → World → Prop}
theorem run_part1 {f : Field} {d : TypeDesc} {xs : List Value} {v : Value} (hu : P.underlying f.type = some d) (hd : aggT d = false) (hv : xs[f.offset]? = some v) (w : World) : (part f.type xs.toArray f.offset).run P w = .ok v w := by
 have hagg : (isAgg f.type).run P w = .ok false w := by rw [run_isAgg hu w, hd]
 simp [part, hagg, hv]
theorem run_partA {f : Field} {n : Nat} {u8 : TypeId} {xs ls : List Value} (hu : P.underlying f.type = some (.array n u8)) (hs : (P.info? f.type).map (·.size) = some n) (hv : (xs.drop f.offset).take n = ls) (w : World) : (part f.type xs.toArray f.offset).run P w = .ok (.agg ls.toArray) w := by
 have hagg : (isAgg f.type).run P w = .ok true w := by rw [run_isAgg hu w]; rfl
 obtain ⟨j, hj, hsz⟩ := Option.map_eq_some_iff.1 hs
 have hso : (sizeOf f.type).run P w = .ok n w := by simp [sizeOf, typeInfo, hj, hsz]
 have hex : xs.toArray.extract f.offset (f.offset + n) = ls.toArray := by
  apply Array.ext'
  rw [Array.toList_extract]
  simp only [List.extract]
  rw [Nat.add_sub_cancel_left]
  exact hv
 unfold part
 rw [Sem.run_bind, hagg, Result.andThen_ok]
 simp only [if_true, Sem.run_bind, hso, Result.andThen_ok, Sem.run_pure, hex]
theorem FieldEq.run {xs ys : List Value} {f : Field} {b : Bool} (h : FieldEq P xs ys f b) (k : Nat) (w : World) :
  f.name ≠ "_" ∧ ∃ u v, (part f.type xs.toArray f.offset).run P w = .ok u w ∧ (part f.type ys.toArray f.offset).run P w = .ok v w ∧ (Op.equalIn (k + 2) f.type u v).run P w = .ok b w := by
 cases h with
 | int hn ht hx hy => exact ⟨hn, _, _, run_part1 ht rfl hx w, run_part1 ht rfl hy w, run_equalIn_int w (k + 1) _ _ _ _ _ ht⟩
 | bool hn ht hx hy => exact ⟨hn, _, _, run_part1 ht rfl hx w, run_part1 ht rfl hy w, run_equalIn_bool' w (k + 1) _ _ _ ht⟩
 | str hn ht hx hy => exact ⟨hn, _, _, run_part1 ht rfl hx w, run_part1 ht rfl hy w, run_equalIn_string w (k + 1) _ _ _ ht⟩
 | arr hn ht hs hb h1 hl hm hx hy => exact ⟨hn, _, _, run_partA ht hs hx w, run_partA ht hs hy w, run_eqBytes ht hb h1 _ _ hl hm k w⟩
/-- All fields, one behind the other. -/
inductive FieldsEq (P : Program) (xs ys : List Value) : List Field → Bool → Prop
 | nil : FieldsEq P xs ys [] true
 | cons {f : Field} {fs : List Field} {b c : Bool} (h : FieldEq P xs ys f b) (hs : FieldsEq P xs ys fs c) : FieldsEq P xs ys (f :: fs) (b && c)
theorem FieldsEq.run {xs ys : List Value} (k : Nat) (w : World) : ∀ {fs : List Field} {b : Bool}, FieldsEq P xs ys fs b → (Op.eqFields (k + 2) xs.toArray ys.toArray fs).run P w = .ok b w := by
 intro fs b h
 induction h with
 | nil => simp [Op.eqFields]
 | cons h _ ih =>
  obtain ⟨hn, u, v, p1, p2, p3⟩ := h.run k w
  rename_i b c _
  simp only [Op.eqFields, hn, ne_eq, not_false_eq_true, if_true, Sem.run_bind, p1, p2, p3, Result.andThen_ok]
  cases b <;> simp [ih]
/-- Two structs: compared, they are told b. -/
structure StructEq (P : Program) (t : TypeId) (xs ys : List Value) (b : Bool) : Prop where
 und : P.underlying t = some (.struct (P.fieldsOf t))
 stood : P.stoodInHeld t = false
 grd : P.eqGuardType P.depth t = false
 flds : FieldsEq P xs ys (P.fieldsOf t).toList b
theorem StructEq.run {t : TypeId} {xs ys : List Value} {b : Bool} (h : StructEq P t xs ys b) (k : Nat) (w : World) : (Op.equalIn (k + 3) t (.agg xs.toArray) (.agg ys.toArray)).run P w = .ok b w := by
 rw [run_equalIn_struct w (k + 2) t _ _ h.und h.stood]
 exact FieldsEq.run k w h.flds
end
end Go.Proofs.YtlhicfpmlncomaaGreatDoor

namespace Go.Proofs.YtlhicfpmlncomaaGreatDoor
open Go.RowKit
set_option linter.unusedSimpArgs false
set_option linter.unusedVariables false
/-- An element's kind, number and text, where elements stand side by side. -/
theorem VRd.parts {w : World} {S : Nat → Prop} {u : JV} {ci xs : List Value} {i : Nat} (h : VRd w S u ci) (hc : (xs.drop (i * 5)).take 5 = ci) :
  xs[i * 5]? = some (.int .i64 u.kind) ∧ xs[i * 5 + 1]? = some (.int .i64 u.num) ∧ xs[i * 5 + 2]? = some (.string ⟨u.text.toArray⟩) := by
 obtain ⟨k, n, t, ns, ks⟩ := u
 rw [VRd] at h
 obtain ⟨An, nn, cn, Ak, nk, ck, ys, hcn, hck, rfl, hrn, hrk, hvk⟩ := h
 have hg : ∀ j, j < 5 → xs[i * 5 + j]? = (vlL k n ⟨t.toArray⟩ (.slice An nn cn) (.slice Ak nk ck))[j]? := by
  intro j hj
  rw [← hc, List.getElem?_take, if_pos hj, List.getElem?_drop]
 exact ⟨hg 0 (by decide), hg 1 (by decide), hg 2 (by decide)⟩
theorem atp_fld (A : Option Addr) (i j : Nat) (hj : j ≠ 0) : (⟨(atp A i).block, (atp A i).off + j, none⟩ : Addr) = atp A (i + j) := by
 unfold atp Addr.add
 rw [if_neg (show ¬ i + j = 0 by omega)]
 by_cases h : i = 0
 ·subst h; rw [if_pos rfl, Nat.zero_add]
 ·rw [if_neg h, Nat.add_assoc]
end Go.Proofs.YtlhicfpmlncomaaGreatDoor

namespace Go.Proofs.YtlhicfpmlncomaaGreatDoor
open Go.RowKit
set_option linter.unusedSimpArgs false
set_option linter.unusedVariables false
theorem take_snoc1 {α : Type} {l : List α} {i : Nat} {x : α} (h : l[i]? = some x) : l.take (i + 1) = l.take i ++ [x] := by rw [List.take_add_one, h]; rfl
end Go.Proofs.YtlhicfpmlncomaaGreatDoor

namespace Go.Proofs.YtlhicfpmlncomaaGreatDoor
open Go.RowKit Go.Lib
set_option linter.unusedSimpArgs false
/-- The number that a sign's bytes make, behind its first. -/
def szv (n : Int) (xs : List UInt8) : Int := xs.foldl (fun n x => n * 64 + (x.toNat : Int) - 128) n
/-- What is told of a sign of k bytes of which the first is c. -/
def szOk (k : Nat) (base : Nat) (c : UInt8) (xs : List UInt8) : Prop :=
 xs.all jCont = true ∧ (k = 3 → ¬ (szv ((c.toNat : Int) - base) xs < 2048 ∨ 55296 ≤ szv ((c.toNat : Int) - base) xs ∧ szv ((c.toNat : Int) - base) xs < 57344)) ∧ (k = 4 → ¬ (szv ((c.toNat : Int) - base) xs < 65536 ∨ 1114111 < szv ((c.toNat : Int) - base) xs))
instance (k base : Nat) (c : UInt8) (xs : List UInt8) : Decidable (szOk k base c xs) := by unfold szOk; exact inferInstance
end Go.Proofs.YtlhicfpmlncomaaGreatDoor

namespace Go.Proofs.YtlhicfpmlncomaaGreatDoor
open Go.RowKit
set_option linter.unusedSimpArgs false
end Go.Proofs.YtlhicfpmlncomaaGreatDoor

namespace Go.Proofs.YtlhicfpmlncomaaGreatDoor
open Go.RowKit Go.Lib
set_option linter.unusedSimpArgs false
end Go.Proofs.YtlhicfpmlncomaaGreatDoor

namespace Go.Proofs.YtlhicfpmlncomaaGreatDoor
open Go.RowKit
set_option linter.unusedSimpArgs false
set_option linter.unusedVariables false
/-- Notes, texts that are small. -/
def NtSm (l : List MNote) : Prop := l.length ≤ 1000000 ∧ ∀ x ∈ l, x.key.length ≤ 100000000 ∧ x.val.length ≤ 100000000
end Go.Proofs.YtlhicfpmlncomaaGreatDoor

namespace Go.Proofs.YtlhicfpmlncomaaGreatDoor
open Go.RowKit
def part (l m : List UInt8) (j : Nat) : List UInt8 := l.take j ++ m.drop j
end Go.Proofs.YtlhicfpmlncomaaGreatDoor

namespace Go.Proofs.YtlhicfpmlncomaaGreatDoor
open Go.RowKit
set_option linter.unusedSimpArgs false
set_option linter.unusedVariables false
end Go.Proofs.YtlhicfpmlncomaaGreatDoor

namespace Go.Proofs.YtlhicfpmlncomaaGreatDoor
open Go.RowKit
set_option linter.unusedSimpArgs false
set_option linter.unusedVariables false
end Go.Proofs.YtlhicfpmlncomaaGreatDoor

namespace Go.Proofs.YtlhicfpmlncomaaGreatDoor
open Go.RowKit
set_option linter.unusedSimpArgs false
set_option linter.unusedVariables false
def DsSm (d : MDesc) : Prop := d.media.length ≤ 100000000 ∧ NtSm d.notes
def DcSm (d : MDoc) : Prop := d.media.length ≤ 100000000 ∧ d.type.length ≤ 100000000 ∧ DsSm d.config ∧ (d.edges.length ≤ 1000000 ∧ ∀ x ∈ d.edges, DsSm x) ∧ DsSm d.subject ∧ NtSm d.notes
end Go.Proofs.YtlhicfpmlncomaaGreatDoor
