/-
 Two structs compared, field by field: whole numbers, texts, yes-or-no, arrays of bytes. No program is named here.
 Layer 8: the document's notes, walked.
 Layer 7: the walks of a sum's text, further: the document's Parse; both Text.
 Layer 8: the document's desc, walked.
-/
import Derived.Test.YtlhicfpmlncomaaGreatDoorH02
import Derived.Laws.StructEq
import Derived.Test.YtlhicfpmlncomaaGreatDoorH11
import Derived.Test.YtlhicfpmlncomaaGreatDoorH09
import Derived.Test.YtlhicfpmlncomaaGreatDoorH10
namespace Go.Proofs.YtlhicfpmlncomaaGreatDoor
open Go.RowKit
/-- A field of two structs (cells xs, ys): compared, it is told b. -/
inductive FieldEq (P : Program) (xs ys : List Value) : Field → Bool → Prop
 | int {f : Field} {k k' : IntKind} {a b : Int} (hn : f.name ≠ "_") (ht : P.underlying f.type = some (.int k')) (hx : xs[f.offset]? = some (.int k a)) (hy : ys[f.offset]? = some (.int k b)) : FieldEq P xs ys f (a == b)
 | bool {f : Field} {a b : Bool} (hn : f.name ≠ "_") (ht : P.underlying f.type = some .bool) (hx : xs[f.offset]? = some (.bool a)) (hy : ys[f.offset]? = some (.bool b)) : FieldEq P xs ys f (a == b)
 | str {f : Field} {a b : ByteArray} (hn : f.name ≠ "_") (ht : P.underlying f.type = some .string) (hx : xs[f.offset]? = some (.string a)) (hy : ys[f.offset]? = some (.string b)) : FieldEq P xs ys f (a.toList == b.toList)
 | arr {f : Field} {n : Nat} {u8 : TypeId} {l m : List UInt8} (hn : f.name ≠ "_") (ht : P.underlying f.type = some (.array n u8)) (hs : (P.info? f.type).map (·.size) = some n) (hb : P.underlying u8 = some (.int .u8)) (h1 : (P.info? u8).map (·.size) = some 1)
  (hl : l.length = n) (hm : m.length = n) (hx : (xs.drop f.offset).take n = l.map bv) (hy : (ys.drop f.offset).take n = m.map bv) : FieldEq P xs ys f (l == m)
section
variable {P : Program} {o : Oper} {a : Act} {K : Act → World → Prop} {Q : Exit → Act → World → Prop}
theorem run_part1 {f : Field} {d : TypeDesc} {xs : List Value} {v : Value} (hu : P.underlying f.type = some d) (hd : aggT d = false) (hv : xs[f.offset]? = some v) (w : World) : (part f.type xs.toArray f.offset).run P w = .ok v w := by
 have hagg : (isAgg f.type).run P w = .ok false w := by rw [run_isAgg hu w, hd]
 simp [part, hagg, hv]
theorem run_partA {f : Field} {n : Nat} {u8 : TypeId} {xs ls : List Value} (hu : P.underlying f.type = some (.array n u8)) (hs : (P.info? f.type).map (·.size) = some n) (hv : (xs.drop f.offset).take n = ls) (w : World) : (part f.type xs.toArray f.offset).run P w = .ok (.agg ls.toArray) w := by
 have hagg : (isAgg f.type).run P w = .ok true w := by rw [run_isAgg hu w]; rfl
 obtain ⟨j, hj, hsz⟩ := Option.map_eq_some_iff.1 hs
 have hso : (sizeOf f.type).run P w = .ok n w := by simp [sizeOf, typeInfo, hj, hsz]
 have hex : xs.toArray.extract f.offset (f.offset + n) = ls.toArray := by
  apply Array.ext'
  rw [Array.toList_extract]
  simp only [List.extract]
  rw [Nat.add_sub_cancel_left]
  exact hv
 unfold part
 rw [Sem.run_bind, hagg, Result.andThen_ok]
 simp only [if_true, Sem.run_bind, hso, Result.andThen_ok, Sem.run_pure, hex]
theorem FieldEq.run {xs ys : List Value} {f : Field} {b : Bool} (h : FieldEq P xs ys f b) (k : Nat) (w : World) :
  f.name ≠ "_" ∧ ∃ u v, (part f.type xs.toArray f.offset).run P w = .ok u w ∧ (part f.type ys.toArray f.offset).run P w = .ok v w ∧ (Op.equalIn (k + 2) f.type u v).run P w = .ok b w := by
 cases h with
 | int hn ht hx hy => exact ⟨hn, _, _, run_part1 ht rfl hx w, run_part1 ht rfl hy w, run_equalIn_int w (k + 1) _ _ _ _ _ ht⟩
 | bool hn ht hx hy => exact ⟨hn, _, _, run_part1 ht rfl hx w, run_part1 ht rfl hy w, run_equalIn_bool' w (k + 1) _ _ _ ht⟩
 | str hn ht hx hy => exact ⟨hn, _, _, run_part1 ht rfl hx w, run_part1 ht rfl hy w, run_equalIn_string w (k + 1) _ _ _ ht⟩
 | arr hn ht hs hb h1 hl hm hx hy => exact ⟨hn, _, _, run_partA ht hs hx w, run_partA ht hs hy w, run_eqBytes ht hb h1 _ _ hl hm k w⟩
/-- All fields, one behind the other. -/
inductive FieldsEq (P : Program) (xs ys : List Value) : List Field → Bool → Prop
 | nil : FieldsEq P xs ys [] true
 | cons {f : Field} {fs : List Field} {b c : Bool} (h : FieldEq P xs ys f b) (hs : FieldsEq P xs ys fs c) : FieldsEq P xs ys (f :: fs) (b && c)
theorem FieldsEq.run {xs ys : List Value} (k : Nat) (w : World) : ∀ {fs : List Field} {b : Bool}, FieldsEq P xs ys fs b → (Op.eqFields (k + 2) xs.toArray ys.toArray fs).run P w = .ok b w := by
 intro fs b h
 induction h with
 | nil => simp [Op.eqFields]
 | cons h _ ih =>
  obtain ⟨hn, u, v, p1, p2, p3⟩ := h.run k w
  rename_i b c _
  simp only [Op.eqFields, hn, ne_eq, not_false_eq_true, if_true, Sem.run_bind, p1, p2, p3, Result.andThen_ok]
  cases b <;> simp [ih]
/-- Two structs: compared, they are told b. -/
structure StructEq (P : Program) (t : TypeId) (xs ys : List Value) (b : Bool) : Prop where
 und : P.underlying t = some (.struct (P.fieldsOf t))
 stood : P.stoodInHeld t = false
 grd : P.eqGuardType P.depth t = false
 flds : FieldsEq P xs ys (P.fieldsOf t).toList b
theorem StructEq.run {t : TypeId} {xs ys : List Value} {b : Bool} (h : StructEq P t xs ys b) (k : Nat) (w : World) : (Op.equalIn (k + 3) t (.agg xs.toArray) (.agg ys.toArray)).run P w = .ok b w := by
 rw [run_equalIn_struct w (k + 2) t _ _ h.und h.stood]
 exact FieldsEq.run k w h.flds
theorem yi_build {S : World → Prop} {ops : Array Oper} {t : TypeId} {cs : List Value} (hw : Region.wanted o (yielded ops a.tmps) = true) {fs : Array Field} (hu : P.underlying t = some (.struct fs)) {z : Value} (hz : (P.info? t).map (·.zero) = some (some z)) {pl : List (Nat × Nat)} (hp : fs.toList.map (fun f => (f.offset, (P.info? f.type).map (·.size))) = pl.map (fun p => (p.1, some p.2)))
  {parts : Array (Nat × Operand)} (ho : o.op = .build t parts) {vs : List (Nat × Value)} (hvs : (parts.map fun p => (p.1, a.eval p.2)).toList = vs)
  (hf : Instr.fill (fun i : Nat => pl[i]?) z.cells vs = some cs.toArray) : YieldsIf P ops S o (.agg cs.toArray) a := by
 obtain ⟨j, hj, hzz⟩ := Option.map_eq_some_iff.1 hz
 refine yi_run hw fun w _ => ?_
 have hm : ∀ (fl : List Field) (pl : List (Nat × Nat)), fl.map (fun f => (f.offset, (P.info? f.type).map (·.size))) = pl.map (fun p => (p.1, some p.2)) → (fl.mapM (m := Sem) fun f => do pure (f.offset, ← sizeOf f.type)).run P w = .ok pl w := by
  intro fl
  induction fl with
  | nil => intro pl h; cases pl with
   | nil => simp
   | cons p pl => simp at h
  | cons f fl ih => intro pl h; cases pl with
   | nil => simp at h
   | cons p pl =>
    simp only [List.map_cons, List.cons.injEq, Prod.mk.injEq] at h
    obtain ⟨q, hq, hsz⟩ := Option.map_eq_some_iff.1 h.1.2
    have h1 := ih pl h.2
    have h2 : (sizeOf f.type).run P w = .ok p.2 w := by simp [sizeOf, typeInfo, hq, hsz]
    simp only [List.mapM_cons, Sem.run_bind, h2, Result.andThen_ok, Sem.run_pure, h1, h.1.1]
 have hmm := hm fs.toList pl hp
 have hzc : (zeroValue t).run P w = .ok z w := by simp [zeroValue, typeInfo, hj, hzz]
 have hpm : ((fs.mapM (m := Sem) fun f => do pure (f.offset, ← sizeOf f.type)).run P w) = .ok pl.toArray w := by
  rw [← Array.toArray_toList (xs := fs)]
  rw [List.mapM_toArray, Sem.run_map, hmm, Result.andThen_ok]
 have hvs' : (parts.map fun p => (p.1, a.eval p.2)).toList = vs := hvs
 have hfl : Instr.fill (fun i : Nat => pl.toArray[i]?) z.cells vs = some cs.toArray := by
  have : (fun i : Nat => pl.toArray[i]?) = (fun i : Nat => pl[i]?) := by funext i; simp
  rw [this]; exact hf
 unfold execOp
 simp only [ho, Instr.build, Sem.run_bind, hzc, run_underlying hu, hpm, Result.andThen_ok]
 simp only [hvs', hfl, Sem.run_pure, Result.andThen_ok]
end
end Go.Proofs.YtlhicfpmlncomaaGreatDoor

namespace Go.Proofs.YtlhicfpmlncomaaGreatDoor
open Go.RowKit
set_option linter.unusedSimpArgs false
set_option linter.unusedVariables false
/-- An element's kind, number and text, where elements stand side by side. -/
theorem VRd.parts {w : World} {S : Nat → Prop} {u : JV} {ci xs : List Value} {i : Nat} (h : VRd w S u ci) (hc : (xs.drop (i * 5)).take 5 = ci) :
  xs[i * 5]? = some (.int .i64 u.kind) ∧ xs[i * 5 + 1]? = some (.int .i64 u.num) ∧ xs[i * 5 + 2]? = some (.string ⟨u.text.toArray⟩) := by
 obtain ⟨k, n, t, ns, ks⟩ := u
 rw [VRd] at h
 obtain ⟨An, nn, cn, Ak, nk, ck, ys, hcn, hck, rfl, hrn, hrk, hvk⟩ := h
 have hg : ∀ j, j < 5 → xs[i * 5 + j]? = (vlL k n ⟨t.toArray⟩ (.slice An nn cn) (.slice Ak nk ck))[j]? := by
  intro j hj
  rw [← hc, List.getElem?_take, if_pos hj, List.getElem?_drop]
 exact ⟨hg 0 (by decide), hg 1 (by decide), hg 2 (by decide)⟩
theorem atp_fld (A : Option Addr) (i j : Nat) (hj : j ≠ 0) : (⟨(atp A i).block, (atp A i).off + j, none⟩ : Addr) = atp A (i + j) := by
 unfold atp Addr.add
 rw [if_neg (show ¬ i + j = 0 by omega)]
 by_cases h : i = 0
 ·subst h; rw [if_pos rfl, Nat.zero_add]
 ·rw [if_neg h, Nat.add_assoc]
/-- Notes are told by the document, or a number. -/
def RNts (w : World) (r : MR (List MNote)) (e : Ending) (w' : World) : Prop := ∃ nt es, e = .returned (.tuple #[nt, .int .i64 (mCode r : Int)]) ∧ VN (mLst r) nt es ∧ Fr [] w w' es
theorem T_rnote15 : SlT Tryz.prog 35 149 2 32 (.agg #[.string ⟨#[]⟩, .string ⟨#[]⟩]) := ⟨Tryz.underlying35, by kernel_rfl, rfl, by decide⟩
set_option maxRecDepth 20000 in
set_option maxHeartbeats 6400000 in
theorem rnotes_any (v : JV) (cs : List Value) (w : World) (hv : VRd w (· < w.heap.size) v cs) (hob : JOb v) :
  Calls Tryz.prog 44 #[.agg cs.toArray] w (RNts w (mNotes v)) := by
 obtain ⟨k, n, t, ns, ks⟩ := v
 rw [VRd] at hv
 obtain ⟨An, nn, cn, Ak, nk, ck, xs, hcn, hck, rfl, hrn, hrk, hvk⟩ := hv
 have hF0 := Fr.nil w
 have hkl := hvk.len
 rw [hrk.len] at hkl
 have hnl := hrn.len
 rw [List.length_map, Nat.mul_one] at hnl
 have hobj := hob.obj
 simp only [JV.kind, JV.names, JV.kids] at hobj
 by_cases hk : k = 6
 rotate_left
 ·have hj : Box (mNotes (.mk k n t ns ks) = .error 80) := box (if_neg hk)
  have hq : ((k : Int) != 6) = true := by rw [bne_iff_ne]; exact hk
  replace hk := box hk
  clear hobj
  go_enter Tryz.func44, Tryz.ntmps44
  go_wp2_with (first | ((with_reducible refine lst (by with_unfolding_all rfl) (wp_fbox hF0 (cs := (vlL k n ⟨t.toArray⟩ (.slice An nn cn) (.slice Ak nk ck))) rfl (by with_unfolding_all rfl) (by with_unfolding_all rfl) ?_)); intro w1 g1 hF1 hz1) | (with_reducible refine lst (by with_unfolding_all rfl) (wp_fld0 hF1 Tryz.underlying3 rfl (by with_unfolding_all exact ⟨_, rfl, rfl⟩) rfl ?_)))
  go_ret2
  unfold RNts
  rw [hj.out]
  exact ⟨_, _, rfl, VN.nil, hF1⟩
 have hq : ((k : Int) != 6) = false := by rw [hk]; rfl
 have hnk : nk = ks.length := by omega
 have hnn : ns.length = nk := by rw [hnk]; exact (hobj hk).1
 by_cases hbig : 32 < nk
 ·have hj : Box (mNotes (.mk k n t ns ks) = .error 8) := box ((if_pos hk).trans (if_pos (show 32 < ks.length by omega)))
  have hd : decide ((32 : Int) < (nk : Int)) = true := decide_eq_true (by omega)
  replace hk := box hk
  replace hnk := box hnk
  replace hnn := box hnn
  clear hobj hkl hnl
  go_enter Tryz.func44, Tryz.ntmps44
  go_wp2_with (first | ((with_reducible refine lst (by with_unfolding_all rfl) (wp_fbox hF0 (cs := (vlL k n ⟨t.toArray⟩ (.slice An nn cn) (.slice Ak nk ck))) rfl (by with_unfolding_all rfl) (by with_unfolding_all rfl) ?_)); intro w1 g1 hF1 hz1) | (with_reducible refine lst (by with_unfolding_all rfl) (wp_fld0 hF1 Tryz.underlying3 rfl (by with_unfolding_all exact ⟨_, rfl, rfl⟩) rfl ?_)) | (with_reducible refine lst (by with_unfolding_all rfl) (wp_fld0 hF1 Tryz.underlying49 rfl (by with_unfolding_all exact ⟨_, rfl, rfl⟩) rfl ?_)))
  go_ret2
  unfold RNts
  rw [hj.out]
  exact ⟨_, _, rfl, VN.nil, hF1⟩
 have hd : decide ((32 : Int) < (nk : Int)) = false := decide_eq_false (by omega)
 obtain ⟨J, hJ0⟩ : ∃ J, J = mNotes (.mk k n t ns ks) := ⟨_, rfl⟩
 have hJ : Box (J = mApp [] (mNotesL (ns.drop 0) (ks.drop 0))) := box (by
  rw [hJ0, List.drop_zero, List.drop_zero]
  refine ((if_pos hk).trans (if_neg (show ¬ 32 < ks.length by omega))).trans ?_
  show mNotesL ns ks = _
  cases mNotesL ns ks <;> rfl)
 rw [← hJ0]
 have hnn2 : nn = nk := by omega
 subst hnn2
 replace hk := box hk
 replace hnk := box hnk
 replace hnn := box hnn
 replace hvk := box hvk
 clear hobj hkl hnl hJ0 hob
 go_enter Tryz.func44, Tryz.ntmps44
 go_wp2_with (first | ((with_reducible refine lst (by with_unfolding_all rfl) (wp_fbox hF0 (cs := (vlL k n ⟨t.toArray⟩ (.slice An nn cn) (.slice Ak nn ck))) rfl (by with_unfolding_all rfl) (by with_unfolding_all rfl) ?_)); intro w1 g1 hF1 hz1) | (with_reducible refine lst (by with_unfolding_all rfl) (wp_fld0 hF1 Tryz.underlying3 rfl (by with_unfolding_all exact ⟨_, rfl, rfl⟩) rfl ?_)) | (with_reducible refine lst (by with_unfolding_all rfl) (wp_fld0 hF1 Tryz.underlying49 rfl (by with_unfolding_all exact ⟨_, rfl, rfl⟩) rfl ?_)))
 have hF2 := hF1.none_ w.heap.size 149 2
 clear hF0 hF1
 go_loopg [4, 5] nn (fun g ov iv wr => ∃ (i : Nat) (out : List MNote) (A : Option Addr) (c : Nat), i ≤ nn ∧ Box (g = nn - i) ∧ iv = .int .i64 (i : Int) ∧ ov = .slice A i c ∧ i ≤ c ∧ Box (out.length = i) ∧ Box (J = mApp out (mNotesL (ns.drop i) (ks.drop i))) ∧ Fr [] w wr [.own w.heap.size 149 2 (.slice A i c) i (ntsL out), .blk g1 51 (vlL k n ⟨t.toArray⟩ (.slice An nn cn) (.slice Ak nn ck))])
 case atStart => exact ⟨0, [], none, 0, by omega, box rfl, rfl, rfl, by omega, box rfl, hJ, hF2⟩
 case round =>
  clear hF2 hJ
  obtain ⟨i, out, A, c, hi, hgi, rfl, rfl, hic, hol, hJ, hF⟩ := hrel
  have hkk : Box (_ = nn - i) := hgi
  clear hgi
  have hrk' := hrk.below hF.below
  by_cases hlt : i < nn
  ·obtain ⟨u, hu⟩ : ∃ u, ks[i]? = some u := ⟨ks[i]'(by rw [← hnk.out]; exact hlt), by simp⟩
   obtain ⟨s, hs⟩ : ∃ s, ns[i]? = some s := ⟨ns[i]'(by rw [hnn.out]; exact hlt), by simp⟩
   obtain ⟨ci, hci, hvi⟩ := hvk.out.at hu
   have hstep := mNotesL_go hs hu
   have hss : Box ((ns.map strv)[i]? = some (.string ⟨s.toArray⟩)) := box (by rw [List.getElem?_map, hs]; rfl)
   have hx0 := box (hvi.parts hci).1
   have hx2 := box (hvi.parts hci).2.2
   have hJ' := hJ.out
   rw [hstep] at hJ'
   replace hol2 := hol.out
   clear hu hs hstep hJ hvi hci
   by_cases hu4 : u.kind = 4
   ·rw [if_pos hu4, mApp_app] at hJ'
    have hu4q : ((u.kind : Int) != 4) = false := by rw [hu4]; rfl
    replace hJ' := box hJ'
    replace hu4 := box hu4
    go_upto_region 11 with (first | (with_reducible refine lst (by with_unfolding_all rfl) (wp_fld1 hF Tryz.underlying49 rfl (by with_unfolding_all exact ⟨_, rfl, rfl⟩) rfl ?_)) | (with_reducible refine lst (by with_unfolding_all rfl) (wp_indexAddr T_rvals hrk' (by with_unfolding_all exact ⟨_, _, _, _, rfl, rfl, rfl⟩) (by omega) (by omega) ?_)) | (with_reducible refine lst (by with_unfolding_all rfl) (wp_load1C (j := i * 5) hrk' hx0 Tryz.underlying3 rfl (by with_unfolding_all exact ⟨_, rfl, rfl⟩) rfl ?_)))
    have hFd := hF.drew
    clear hF
    refine wp_region_held (S := fun w' => w'.heap[g1]? = some (.cells (List.toArray (vlL k n ⟨t.toArray⟩ (.slice An nn cn) (.slice Ak nn ck))) 51 (0, 0)) ∧ Rd w' (· < w.heap.size) An 1 nn (ns.map strv) ∧ Rd w' (· < w.heap.size) Ak 5 nn xs) (by kernel_rfl) ?_
    change wpAnyH _ _ _ _ _ _ _ _ (World.drew _)
    refine tkp 0 ⟨hFd.blk (i := 1) rfl, hrn.below hFd.below, hrk.below hFd.below⟩ ?_
    (try simp only [Act.put, List.setIfInBounds_toArray, List.set_cons_zero, List.set_cons_succ])
    refine tkp 1 ⟨hFd.blk (i := 1) rfl, hrn.below hFd.below, hrk.below hFd.below⟩ ?_
    (try simp only [Act.put, List.setIfInBounds_toArray, List.set_cons_zero, List.set_cons_succ])
    refine tky 2 (y := yi_fld (by with_unfolding_all rfl) (fun _ h => h.1) Tryz.underlying48 rfl (by with_unfolding_all exact ⟨_, rfl, rfl⟩) rfl) (s := ⟨hFd.blk (i := 1) rfl, hrn.below hFd.below, hrk.below hFd.below⟩) (h := ?_)
    (try simp only [Act.put, List.setIfInBounds_toArray, List.set_cons_zero, List.set_cons_succ])
    refine tkp 3 ⟨hFd.blk (i := 1) rfl, hrn.below hFd.below, hrk.below hFd.below⟩ ?_
    (try simp only [Act.put, List.setIfInBounds_toArray, List.set_cons_zero, List.set_cons_succ])
    refine tky 4 (y := yi_ix (by with_unfolding_all rfl) T_strs (fun h => hrn.some_ h) (k := i) (by with_unfolding_all exact ⟨_, _, _, _, rfl, rfl, rfl⟩) rfl (by omega)) (s := ⟨hFd.blk (i := 1) rfl, hrn.below hFd.below, hrk.below hFd.below⟩) (h := ?_)
    (try simp only [Act.put, List.setIfInBounds_toArray, List.set_cons_zero, List.set_cons_succ])
    refine tky 5 (y := yi_ld (by with_unfolding_all rfl) (j := i * 1) (fun _ h => h.2.1) Tryz.underlying9 rfl (by with_unfolding_all exact ⟨_, rfl, rfl⟩) (by rw [Nat.mul_one]; exact hss.out)) (s := ⟨hFd.blk (i := 1) rfl, hrn.below hFd.below, hrk.below hFd.below⟩) (h := ?_)
    (try simp only [Act.put, List.setIfInBounds_toArray, List.set_cons_zero, List.set_cons_succ])
    refine tkp 6 ⟨hFd.blk (i := 1) rfl, hrn.below hFd.below, hrk.below hFd.below⟩ ?_
    (try simp only [Act.put, List.setIfInBounds_toArray, List.set_cons_zero, List.set_cons_succ])
    refine tky 7 (y := yi_fld (by with_unfolding_all rfl) (fun _ h => h.1) Tryz.underlying49 rfl (by with_unfolding_all exact ⟨_, rfl, rfl⟩) rfl) (s := ⟨hFd.blk (i := 1) rfl, hrn.below hFd.below, hrk.below hFd.below⟩) (h := ?_)
    (try simp only [Act.put, List.setIfInBounds_toArray, List.set_cons_zero, List.set_cons_succ])
    refine tkp 8 ⟨hFd.blk (i := 1) rfl, hrn.below hFd.below, hrk.below hFd.below⟩ ?_
    (try simp only [Act.put, List.setIfInBounds_toArray, List.set_cons_zero, List.set_cons_succ])
    refine tky 9 (y := yi_ix (by with_unfolding_all rfl) T_rvals (fun h => hrk.some_ h) (k := i) (by with_unfolding_all exact ⟨_, _, _, _, rfl, rfl, rfl⟩) rfl (by omega)) (s := ⟨hFd.blk (i := 1) rfl, hrn.below hFd.below, hrk.below hFd.below⟩) (h := ?_)
    (try simp only [Act.put, List.setIfInBounds_toArray, List.set_cons_zero, List.set_cons_succ])
    refine tkp 10 ⟨hFd.blk (i := 1) rfl, hrn.below hFd.below, hrk.below hFd.below⟩ ?_
    (try simp only [Act.put, List.setIfInBounds_toArray, List.set_cons_zero, List.set_cons_succ])
    refine tky 11 (y := yi_ld (by with_unfolding_all rfl) (j := i * 5 + 2) (fun _ h => h.2.2) Tryz.underlying9 rfl (by with_unfolding_all exact ⟨_, rfl, congrArg (fun p => Value.pointer (some p)) (atp_fld Ak (i * 5) 2 (by decide))⟩) hx2.out) (s := ⟨hFd.blk (i := 1) rfl, hrn.below hFd.below, hrk.below hFd.below⟩) (h := ?_)
    (try simp only [Act.put, List.setIfInBounds_toArray, List.set_cons_zero, List.set_cons_succ])
    refine tky 12 (y := yi_build (cs := ntL ⟨s, u.text⟩) (by with_unfolding_all rfl) Tryz.underlying149 (z := .agg #[.string ⟨#[]⟩, .string ⟨#[]⟩]) (by kernel_rfl) (pl := ntP) (by kernel_rfl) rfl (vs := [(0, .string ⟨s.toArray⟩), (1, .string ⟨u.text.toArray⟩)]) (by with_unfolding_all rfl) (by with_unfolding_all rfl)) (s := ⟨hFd.blk (i := 1) rfl, hrn.below hFd.below, hrk.below hFd.below⟩) (h := ?_)
    (try simp only [Act.put, List.setIfInBounds_toArray, List.set_cons_zero, List.set_cons_succ])
    refine rdy1 13 (fun K hK => ?_)
    refine stp (by with_unfolding_all rfl) (wp_fbs1 T_rnote15 hFd (by with_unfolding_all rfl) (ds := (ntL ⟨s, u.text⟩)) (by with_unfolding_all rfl) (ntL_len _) (by decide) ?_)
    intro w41 g41 hF41 hz41
    refine hK.out _ _ (⟨hF41.blk (i := 2) rfl, hrn.below hF41.below, hrk.below hF41.below⟩) (fun _ => ?_)
    clear hK K
    (try simp only [Act.put, List.setIfInBounds_toArray, List.set_cons_zero, List.set_cons_succ])
    refine rdy1 14 (fun K hK => ?_)
    refine stp (by with_unfolding_all rfl) (wp_fappG T_rnote15 hF41 (i := 1) rfl (Nat.le_refl _) (hF41.rdOwn (i := 0) rfl) (ntL_one _) (by with_unfolding_all exact ⟨_, _, rfl, rfl, rfl⟩) (by unfold maxLen; omega) (by omega) ?_)
    intro v42 w42 hF42 hz42
    (try simp only [List.set_cons_zero, List.set_cons_succ] at hF42)
    obtain ⟨A42, c42, rfl, hc42⟩ := hF42.ownParts (i := 1) rfl
    refine hK.out _ _ (⟨hF42.blk (i := 2) rfl, hrn.below hF42.below, hrk.below hF42.below⟩) (fun _ => ?_)
    clear hK K
    (try simp only [Act.put, List.setIfInBounds_toArray, List.set_cons_zero, List.set_cons_succ])
    refine tkp 15 ⟨hF42.blk (i := 2) rfl, hrn.below hF42.below, hrk.below hF42.below⟩ ?_
    (try simp only [Act.put, List.setIfInBounds_toArray, List.set_cons_zero])
    refine wpAnyH_done (by kernel_rfl) ?_ _
    go_wp2_with fail
    go_roundg (nn - (i + 1))
    case rel => exact ⟨i + 1, out ++ [⟨s, u.text⟩], A42, c42, by omega, box rfl, by go_num, rfl, hc42, box (by rw [List.length_append, hol.out]; rfl), hJ', by rw [ntsL_snoc]; exact hF42.tail⟩
    case measure => have := hkk.out; omega
   ·rw [if_neg hu4] at hJ'
    have hu4q : ((u.kind : Int) != 4) = true := by rw [bne_iff_ne]; exact hu4
    replace hJ' := box hJ'
    replace hu4 := box hu4
    go_wp2_with (first | (with_reducible refine lst (by with_unfolding_all rfl) (wp_fld1 hF Tryz.underlying49 rfl (by with_unfolding_all exact ⟨_, rfl, rfl⟩) rfl ?_)) | (with_reducible refine lst (by with_unfolding_all rfl) (wp_indexAddr T_rvals hrk' (by with_unfolding_all exact ⟨_, _, _, _, rfl, rfl, rfl⟩) (by omega) (by omega) ?_)) | (with_reducible refine lst (by with_unfolding_all rfl) (wp_load1C (j := i * 5) hrk' hx0 Tryz.underlying3 rfl (by with_unfolding_all exact ⟨_, rfl, rfl⟩) rfl ?_)))
    go_ret2
    unfold RNts
    rw [hJ'.out]
    exact ⟨_, _, rfl, VN.nil, hF⟩
  ·have hend : Box (J = .ok out) := box (by rw [hJ.out, mNotesL_end (by rw [← hnk.out]; omega)]; simp [mApp])
   obtain rfl : nn = i := by omega
   go_wp2_with (first | (with_reducible refine lst (by with_unfolding_all rfl) (wp_fld1 hF Tryz.underlying49 rfl (by with_unfolding_all exact ⟨_, rfl, rfl⟩) rfl ?_)))
   go_ret2
   unfold RNts
   rw [hend.out]
   have hF3 := hF.toRd (i := 0) rfl
   exact ⟨_, _, rfl, ⟨A, nn, c, hic, hol.out.symm, rfl, .inr (by simp [mLst])⟩, hF3⟩
end Go.Proofs.YtlhicfpmlncomaaGreatDoor

namespace Go.Proofs.YtlhicfpmlncomaaGreatDoor
open Go.RowKit
def part (l m : List UInt8) (j : Nat) : List UInt8 := l.take j ++ m.drop j
theorem part_set {l m : List UInt8} {j : Nat} {x : UInt8} (hx : l[j]? = some x) (_ : j < m.length) : spl ((part l m j).map bv) j [.int .u8 (x.toNat : Int)] = (part l m (j + 1)).map bv := by
 have hjl : j < l.length := (List.getElem?_eq_some_iff.1 hx).1
 unfold spl part
 have h1 : ((l.take j ++ m.drop j).map bv).take j = (l.take j).map bv := by
  rw [← List.map_take, List.take_append_of_le_length (by simp; omega), List.take_take, Nat.min_self]
 have h2 : ((l.take j ++ m.drop j).map bv).drop (j + 1) = (m.drop (j + 1)).map bv := by
  rw [← List.map_drop, List.drop_append, List.drop_of_length_le (by simp; omega), List.nil_append, List.drop_drop]
  congr 2; simp; omega
 rw [h1]
 simp only [List.length_cons, List.length_nil, Nat.zero_add]
 rw [h2, take_snoc hx]
 simp [bv]
theorem part_0 (l m : List UInt8) : part l m 0 = m := by simp [part]
theorem part_all {l m : List UInt8} {j : Nat} (hj : m.length ≤ j) : part l m j = l.take j := by unfold part; rw [List.drop_of_length_le hj, List.append_nil]
theorem part_len {l m : List UInt8} {j : Nat} (hl : j ≤ l.length) (hm : j ≤ m.length) : (part l m j).length = m.length := by unfold part; simp; omega
set_option maxRecDepth 20000 in
set_option maxHeartbeats 1600000 in
theorem dgParseF_any (s : ByteArray) (w : World) (hs : s.size ≤ 140737488355000) :
  Calls Tryz.prog 76 #[.string s] w fun e w' => e = .returned (.tuple #[.agg (((dgP s.data.toList).getD zeros).map bv).toArray, .bool (dgP s.data.toList).isSome]) ∧ Below w.heap.size w w' := by
 have hF0 := Fr.nil w
 have hz0 := box zeros_len
 have hlb := str_len s
 by_cases h71 : s.size = 71
 ·have hl : (71 : Nat) ≤ s.size := by omega
  have hE : ((s.size : Int) != 71) = false := by rw [bne_eq_false_iff_eq]; omega
  have hux := box (fun w => runhex_any (s.extract 7 s.size) w (by rw [ext_size]; omega) (unhexL (s.data.toList.drop 7)).isSome ((unhexL (s.data.toList.drop 7)).getD []) (box (by rw [ext_list]; exact ⟨rfl, rfl⟩)))
  cases hu : unhexL (s.data.toList.drop 7) with
  | none =>
   have hno : dgP s.data.toList = none := by
    by_cases h7 : s.data.toList.take 7 = sha7
    ·rw [dgP_yes (by rw [hlb]; exact h71) h7, hu]
    ·exact dgP_no2 h7
   rw [hno]
   rw [hu] at hux
   simp only [Option.isSome_none, Option.getD_none] at hux ⊢
   clear h71 hlb
   replace hu := box hu
   replace hno := box hno
   go_enter Tryz.func76, Tryz.ntmps76
   go_wp2_with (first | ((with_reducible refine lst (by with_unfolding_all rfl) (wp_falloc hF0 (cs := (zeros.map bv)) (z := .agg (List.toArray ((zeros.map bv)))) rfl (by kernel_rfl) (by with_unfolding_all rfl) ?_)); intro w1 g1 hF1 hz1) | ((with_reducible refine lst (by with_unfolding_all rfl) (wp_falloc hF1 (cs := (zeros.map bv)) (z := .agg (List.toArray ((zeros.map bv)))) rfl (by kernel_rfl) (by with_unfolding_all rfl) ?_)); intro w2 g2 hF2 hz2))
   refine (hux.out _).mono ?_
   rintro e w3 ⟨v3, rfl, ho3, hb3⟩
   have hF4 := hF2.call hb3
   go_wp2_with (first | (with_reducible refine lst (by with_unfolding_all rfl) (wp_fldA0 hF4 Tryz.underlying24 rfl (by with_unfolding_all exact ⟨_, rfl, rfl⟩) (ds := (zeros.map bv)) (by rw [hz0.out]; kernel_rfl) (take_all _) ?_)) | ((with_reducible refine lst (by with_unfolding_all rfl) (wp_fstA1 hF4 (by with_unfolding_all exact ⟨_, _, rfl, rfl, rfl⟩) (by rw [hz0.out]; kernel_rfl) (bv_one _) (by rw [hz0.out]; omega) (spl_all rfl) ?_)); intro w5 hF5 hz5))
   exact bodyPost_ret (results_cellF2 rfl _ hF5 (i := 1) rfl rfl Tryz.underlying24 rfl (by rw [hz0.out]; kernel_rfl)) rfl ⟨rfl, hF5.below⟩
  | some d =>
   by_cases h7 : s.data.toList.take 7 = sha7
   ·have hyes : dgP s.data.toList = some d := by rw [dgP_yes (by rw [hlb]; exact h71) h7, hu]
    have hd := box (dgP_len hyes)
    rw [hyes]
    rw [hu] at hux
    simp only [Option.isSome_some, Option.getD_some] at hux ⊢
    have hq : ((s.extract 0 7).toList == [115, 104, 97, 50, 53, 54, 58]) = true := by
     rw [beq_iff_eq, ByteArray.toList_eq, ext_take]; exact h7
    clear h71 hlb
    replace hu := box hu
    replace h7 := box h7
    replace hyes := box hyes
    have hdm : Box ((d.map bv).length = 32) := box (by rw [List.length_map]; exact hd.out)
    go_enter Tryz.func76, Tryz.ntmps76
    go_wp2_with (first | ((with_reducible refine lst (by with_unfolding_all rfl) (wp_falloc hF0 (cs := (zeros.map bv)) (z := .agg (List.toArray ((zeros.map bv)))) rfl (by kernel_rfl) (by with_unfolding_all rfl) ?_)); intro w1 g1 hF1 hz1) | ((with_reducible refine lst (by with_unfolding_all rfl) (wp_falloc hF1 (cs := (zeros.map bv)) (z := .agg (List.toArray ((zeros.map bv)))) rfl (by kernel_rfl) (by with_unfolding_all rfl) ?_)); intro w2 g2 hF2 hz2))
    refine (hux.out _).mono ?_
    rintro e w3 ⟨v3, rfl, ho3, hb3⟩
    obtain ⟨A3, c3, rfl, hc3, _⟩ := ho3.arg
    have hF4 := hF2.gotB hb3 ho3
    clear hF0 hF1 hF2 hz1 hz2 hb3 ho3
    go_wp2_with fail
    go_loopw [7] (fun i wr => ∃ j : Nat, j ≤ 32 ∧ i = .int .i64 j ∧ Fr [] w wr [Ent.bytes w.heap.size 5 (.slice A3 d.length c3) d, .blk g2 24 ((part d zeros j).map bv), .blk g1 24 (zeros.map bv)]) (fun i _ => 32 - (intOf i).toNat)
    case atStart => exact ⟨0, by omega, rfl, by rw [part_0]; exact hF4⟩
    case round =>
     clear hF4
     obtain ⟨j, hj, rfl, hF⟩ := hrel
     by_cases hlt : j < 32
     ·obtain ⟨x, hx⟩ : ∃ x, d[j]? = some x := ⟨d[j]'(by have := hd.out; omega), by simp⟩
      have hps := box (part_set (m := zeros) hx (by simp [zeros]; omega))
      have hr := hF.rdOwn (i := 0) rfl
      have hjd : j < d.length := by have := hd.out; omega
      have hpl : Box ((part d zeros j).length = 32) := box (by rw [part_len (by omega) (by simp [zeros]; omega)]; simp [zeros])
      replace hx := box hx
      go_wp2_with (first | (with_reducible refine lst (by with_unfolding_all rfl) (wp_indexAddr T_u8 hr (by with_unfolding_all exact ⟨_, _, _, _, rfl, rfl, rfl⟩) (by omega) (by omega) ?_)) | (with_reducible refine lst (by with_unfolding_all rfl) (wp_loadC hr hx Tryz.underlying5 rfl (by with_unfolding_all exact ⟨_, rfl, rfl⟩) (by first | (simp; done) | (simp; omega) | omega) ?_)) | ((with_reducible refine lst (by with_unfolding_all rfl) (wp_fst1 hF (by with_unfolding_all exact ⟨_, _, rfl, rfl, rfl⟩) (by kernel_rfl) rfl rfl (by have := hpl.out; simp; omega) hps.out ?_)); intro w3 hF3 hz3))
      go_roundw
      case rel => exact ⟨j + 1, by omega, by go_num, hF3⟩
      case measure => simp [intOf]; omega
     ·obtain rfl : j = 32 := by omega
      have hpa : part d zeros 32 = d := by rw [part_all (by simp [zeros]), List.take_of_length_le (by have := hd.out; omega)]
      rw [hpa] at hF
      clear hpa
      go_wp2_with (first | (with_reducible refine lst (by with_unfolding_all rfl) (wp_fldA1 hF Tryz.underlying24 rfl (by with_unfolding_all exact ⟨_, rfl, rfl⟩) (ds := (d.map bv)) (by rw [hdm.out]; kernel_rfl) (take_all _) ?_)) | ((with_reducible refine lst (by with_unfolding_all rfl) (wp_fstA2 hF (by with_unfolding_all exact ⟨_, _, rfl, rfl, rfl⟩) (by rw [hdm.out]; kernel_rfl) (bv_one _) (by rw [hdm.out, hz0.out]; omega) (spl_all (by rw [hdm.out, hz0.out])) ?_)); intro w6 hF6 hz6))
      exact bodyPost_ret (results_cellF2 rfl _ hF6 (i := 2) rfl rfl Tryz.underlying24 rfl (by rw [hdm.out]; kernel_rfl)) rfl ⟨rfl, hF6.below⟩
   ·rw [dgP_no2 h7]
    rw [hu] at hux
    simp only [Option.isSome_some, Option.isSome_none, Option.getD_some, Option.getD_none] at hux ⊢
    have hq : ((s.extract 0 7).toList == [115, 104, 97, 50, 53, 54, 58]) = false := by
     rw [beq_eq_false_iff_ne, ByteArray.toList_eq, ext_take]; exact h7
    clear h71 hlb
    replace hu := box hu
    replace h7 := box h7
    go_enter Tryz.func76, Tryz.ntmps76
    go_wp2_with (first | ((with_reducible refine lst (by with_unfolding_all rfl) (wp_falloc hF0 (cs := (zeros.map bv)) (z := .agg (List.toArray ((zeros.map bv)))) rfl (by kernel_rfl) (by with_unfolding_all rfl) ?_)); intro w1 g1 hF1 hz1) | ((with_reducible refine lst (by with_unfolding_all rfl) (wp_falloc hF1 (cs := (zeros.map bv)) (z := .agg (List.toArray ((zeros.map bv)))) rfl (by kernel_rfl) (by with_unfolding_all rfl) ?_)); intro w2 g2 hF2 hz2))
    refine (hux.out _).mono ?_
    rintro e w3 ⟨v3, rfl, ho3, hb3⟩
    have hF4 := hF2.call hb3
    go_wp2_with (first | (with_reducible refine lst (by with_unfolding_all rfl) (wp_fldA0 hF4 Tryz.underlying24 rfl (by with_unfolding_all exact ⟨_, rfl, rfl⟩) (ds := (zeros.map bv)) (by rw [hz0.out]; kernel_rfl) (take_all _) ?_)) | ((with_reducible refine lst (by with_unfolding_all rfl) (wp_fstA1 hF4 (by with_unfolding_all exact ⟨_, _, rfl, rfl, rfl⟩) (by rw [hz0.out]; kernel_rfl) (bv_one _) (by rw [hz0.out]; omega) (spl_all rfl) ?_)); intro w5 hF5 hz5))
    exact bodyPost_ret (results_cellF2 rfl _ hF5 (i := 1) rfl rfl Tryz.underlying24 rfl (by rw [hz0.out]; kernel_rfl)) rfl ⟨rfl, hF5.below⟩
 ·rw [dgP_no1 (by rw [hlb]; exact h71)]
  have hE : ((s.size : Int) != 71) = true := by rw [bne_iff_ne]; omega
  clear hlb
  replace h71 := box h71
  go_enter Tryz.func76, Tryz.ntmps76
  go_wp2_with (first | ((with_reducible refine lst (by with_unfolding_all rfl) (wp_falloc hF0 (cs := (zeros.map bv)) (z := .agg (List.toArray ((zeros.map bv)))) rfl (by kernel_rfl) (by with_unfolding_all rfl) ?_)); intro w1 g1 hF1 hz1) | ((with_reducible refine lst (by with_unfolding_all rfl) (wp_falloc hF1 (cs := (zeros.map bv)) (z := .agg (List.toArray ((zeros.map bv)))) rfl (by kernel_rfl) (by with_unfolding_all rfl) ?_)); intro w2 g2 hF2 hz2) | (with_reducible refine lst (by with_unfolding_all rfl) (wp_fldA0 hF2 Tryz.underlying24 rfl (by with_unfolding_all exact ⟨_, rfl, rfl⟩) (ds := (zeros.map bv)) (by rw [hz0.out]; kernel_rfl) (take_all _) ?_)) | ((with_reducible refine lst (by with_unfolding_all rfl) (wp_fstA1 hF2 (by with_unfolding_all exact ⟨_, _, rfl, rfl, rfl⟩) (by rw [hz0.out]; kernel_rfl) (bv_one _) (by rw [hz0.out]; omega) (spl_all rfl) ?_)); intro w3 hF3 hz3))
  exact bodyPost_ret (results_cellF2 rfl _ hF3 (i := 1) rfl rfl Tryz.underlying24 rfl (by rw [hz0.out]; kernel_rfl)) rfl ⟨rfl, hF3.below⟩
end Go.Proofs.YtlhicfpmlncomaaGreatDoor

namespace Go.Proofs.YtlhicfpmlncomaaGreatDoor
open Go.RowKit
set_option linter.unusedSimpArgs false
set_option linter.unusedVariables false
theorem mMedia_ok {v : JV} {s : List UInt8} (h : mMedia v = .ok s) : s = v.text := by
 unfold mMedia at h
 split at h
 ·split at h
  ·injection h with h; exact h.symm
  ·cases h
 ·cases h
theorem mMedia_ne {v : JV} {e : Nat} (h : mMedia v = .error e) : e ≠ 0 := by
 unfold mMedia at h
 split at h
 ·split at h
  ·cases h
  ·injection h with h; omega
 ·injection h with h; omega
theorem mNotesL_ne : ∀ {ns : List (List UInt8)} {ks : List JV} {e : Nat}, mNotesL ns ks = .error e → e ≠ 0
 | [], _, e, h => by rw [mNotesL] at h; cases h; intros; rename_i h1 h2; cases h1
 | _ :: _, [], e, h => by rw [mNotesL] at h; cases h; intros; rename_i h1 h2; cases h2
 | n :: ns, k :: ks, e, h => by
  rw [mNotesL] at h
  split at h
  ·cases hm : mNotesL ns ks with
   | ok l => rw [hm] at h; cases h
   | error e2 => rw [hm] at h; injection h with h; subst h; exact mNotesL_ne hm
  ·injection h with h; omega
theorem mNotes_ne {v : JV} {e : Nat} (h : mNotes v = .error e) : e ≠ 0 := by
 unfold mNotes at h
 split at h
 ·split at h
  ·injection h with h; omega
  ·exact mNotesL_ne h
 ·injection h with h; omega
theorem rDescL_go {ns : List (List UInt8)} {ks : List JV} {i : Nat} {s : List UInt8} {k : JV} {d : MDesc} {t : Nat} (hs : ns[i]? = some s) (hk : ks[i]? = some k) : rDescL d t (ns.drop i) (ks.drop i) = match rdStep d t s k with
  | .ok x => rDescL x.1 x.2 (ns.drop (i + 1)) (ks.drop (i + 1))
  | .error e => .error e := by
 rw [List.drop_eq_getElem_cons (List.getElem?_eq_some_iff.1 hs).1, (List.getElem?_eq_some_iff.1 hs).2, List.drop_eq_getElem_cons (List.getElem?_eq_some_iff.1 hk).1, (List.getElem?_eq_some_iff.1 hk).2, rDescL]
 cases rdStep d t s k <;> rfl
theorem rDescL_end {ns : List (List UInt8)} {ks : List JV} {i : Nat} {d : MDesc} {t : Nat} (hk : ks.length ≤ i) : rDescL d t (ns.drop i) (ks.drop i) = if t < 3 then .error 80 else .ok d := by
 rw [List.drop_of_length_le hk]
 cases ns.drop i <;> (rw [rDescL]; intros; rename_i h1 h2; cases h2)
/-- One step: the sum is a sum, the count is one more at most. -/
theorem rdStep_dig {d d' : MDesc} {t t' : Nat} {s : List UInt8} {k : JV} (hd : d.dig.length = 32) (hs : rdStep d t s k = .ok (d', t')) : d'.dig.length = 32 ∧ t' ≤ t + 1 := by
 unfold rdStep at hs
 split at hs
 ·cases hm : mMedia k with
  | error e => rw [hm] at hs; cases hs
  | ok t => rw [hm] at hs; cases hs; exact ⟨hd, Nat.le_refl _⟩
 ·split at hs
  ·split at hs
   ·cases hm : dgP k.text with
    | none => rw [hm] at hs; cases hs
    | some x => rw [hm] at hs; cases hs; exact ⟨dgP_len hm, Nat.le_refl _⟩
   ·cases hs
  ·split at hs
   ·split at hs
    ·split at hs
     ·cases hs
     ·cases hs; exact ⟨hd, Nat.le_refl _⟩
    ·cases hs
   ·split at hs
    ·cases hm : mNotes k with
     | error e => rw [hm] at hs; cases hs
     | ok t => rw [hm] at hs; cases hs; exact ⟨hd, Nat.le_succ _⟩
    ·cases hs
/-- A descriptor is told by the document, or a number. -/
def RDsc (w : World) (r : MR MDesc) (e : Ending) (w' : World) : Prop := ∃ cs es, e = .returned (.tuple #[.agg cs.toArray, .int .i64 (mCode r : Int)]) ∧ VD (mDs r) cs es ∧ Fr [] w w' es
/-- Where a descriptor's reading stands behind a member: the number, what was had, the memory. -/
def RDSt (w : World) (g1 g2 g3 : Nat) (vl : List Value) (TE : List Ent) (r : MR (MDesc × Nat)) (h5 e8 : Value) (wx : World) : Prop :=
 ∃ TE', (∀ e ∈ TE, e ∈ TE') ∧ match r with
  | .ok x => e8 = .int .i64 0 ∧ h5 = .int .i64 (x.2 : Int) ∧ ∃ nt, VN x.1.notes nt TE' ∧ Fr [] w wx (.blk g3 37 (dsL x.1.media x.1.dig x.1.size nt) :: .blk g2 37 ds0 :: .blk g1 51 vl :: TE')
  | .error e => e8 = .int .i64 (e : Int) ∧ e ≠ 0 ∧ (∃ z, h5 = .int .i64 z) ∧ ∃ m dg z nt, dg.length = 32 ∧ Fr [] w wx (.blk g3 37 (dsL m dg z nt) :: .blk g2 37 ds0 :: .blk g1 51 vl :: TE')
set_option maxRecDepth 20000 in
set_option maxHeartbeats 12800000 in
theorem rdesc_any (v : JV) (cs : List Value) (w : World) (hv : VRd w (· < w.heap.size) v cs) (hob : JOb v) :
  Calls Tryz.prog 42 #[.agg cs.toArray] w (RDsc w (mDesc v)) := by
 obtain ⟨k, n, t, ns, ks⟩ := v
 rw [VRd] at hv
 obtain ⟨An, nn, cn, Ak, nk, ck, xs, hcn, hck, rfl, hrn, hrk, hvk⟩ := hv
 have hF0 := Fr.nil w
 have hkl := hvk.len
 rw [hrk.len] at hkl
 have hnl := hrn.len
 rw [List.length_map, Nat.mul_one] at hnl
 have hobj := hob.obj
 simp only [JV.kind, JV.names, JV.kids] at hobj
 by_cases hk : k = 6
 rotate_left
 ·have hj : Box (mDesc (.mk k n t ns ks) = .error 80) := box (if_neg hk)
  have hq : ((k : Int) != 6) = true := by rw [bne_iff_ne]; exact hk
  replace hk := box hk
  clear hobj
  go_enter Tryz.func42, Tryz.ntmps42
  go_wp2_with (first | ((with_reducible refine lst (by with_unfolding_all rfl) (wp_fbox hF0 (cs := (vlL k n ⟨t.toArray⟩ (.slice An nn cn) (.slice Ak nk ck))) rfl (by with_unfolding_all rfl) (by with_unfolding_all rfl) ?_)); intro w1 g1 hF1 hz1) | ((with_reducible refine lst (by with_unfolding_all rfl) (wp_falloc hF1 (cs := ds0) (z := .agg (List.toArray (ds0))) rfl (by kernel_rfl) (by with_unfolding_all rfl) ?_)); intro w2 g2 hF2 hz2) | (with_reducible refine lst (by with_unfolding_all rfl) (wp_fld1 hF2 Tryz.underlying3 rfl (by with_unfolding_all exact ⟨_, rfl, rfl⟩) rfl ?_)) | (with_reducible refine lst (by with_unfolding_all rfl) (wp_fbuild Tryz.underlying37 (z := .agg (List.toArray ds0)) (by kernel_rfl) (pl := dsP) (by kernel_rfl) (cs := ds0) rfl (vs := []) (by with_unfolding_all rfl) (by with_unfolding_all rfl) ?_)) | ((with_reducible refine lst (by with_unfolding_all rfl) (wp_fstA0 hF2 (by with_unfolding_all exact ⟨_, _, rfl, rfl, rfl⟩) (by rw [ds0_len]; kernel_rfl) ds0_one (Nat.le_of_eq (Nat.zero_add _)) (spl_all rfl) ?_)); intro w3 hF3 hz3))
  exact bodyPost_ret (results_cellF2 rfl _ hF3 (i := 0) rfl rfl Tryz.underlying37 rfl (by rw [ds0_len]; kernel_rfl)) rfl (by
   unfold RDsc
   rw [hj.out]
   exact ⟨_, _, rfl, VD.zero, hF3.tail⟩)
 have hq : ((k : Int) != 6) = false := by rw [hk]; rfl
 have hnk : nk = ks.length := by omega
 have hnn : ns.length = nk := by rw [hnk]; exact (hobj hk).1
 have hkn : nk ≤ 1048576 := by rw [hnk]; exact hob.small.2.2
 have hkob := box (fun u hu => hob.kid (k := u) hu)
 simp only [JV.kids] at hkob
 obtain ⟨J, hJ0⟩ : ∃ J, J = mDesc (.mk k n t ns ks) := ⟨_, rfl⟩
 have hJ : Box (J = rDescL .zero 0 (ns.drop 0) (ks.drop 0)) := box (by
  rw [hJ0, List.drop_zero, List.drop_zero]
  exact (if_pos hk).trans (rDescL_eq ns ks .zero ⟨false, false, false⟩ (hobj hk).2 (fun h => by cases h) (fun h => by cases h) (fun h => by cases h)).symm)
 rw [← hJ0]
 have hnn2 : nn = nk := by omega
 subst hnn2
 replace hk := box hk
 replace hnk := box hnk
 replace hnn := box hnn
 replace hvk := box hvk
 clear hobj hkl hnl hJ0 hob
 go_enter Tryz.func42, Tryz.ntmps42
 go_wp2_with (first | ((with_reducible refine lst (by with_unfolding_all rfl) (wp_fbox hF0 (cs := (vlL k n ⟨t.toArray⟩ (.slice An nn cn) (.slice Ak nn ck))) rfl (by with_unfolding_all rfl) (by with_unfolding_all rfl) ?_)); intro w1 g1 hF1 hz1) | ((with_reducible refine lst (by with_unfolding_all rfl) (wp_falloc hF1 (cs := ds0) (z := .agg (List.toArray (ds0))) rfl (by kernel_rfl) (by with_unfolding_all rfl) ?_)); intro w2 g2 hF2 hz2) | ((with_reducible refine lst (by with_unfolding_all rfl) (wp_falloc hF2 (cs := ds0) (z := .agg (List.toArray (ds0))) rfl (by kernel_rfl) (by with_unfolding_all rfl) ?_)); intro w3 g3 hF3 hz3) | (with_reducible refine lst (by with_unfolding_all rfl) (wp_fld1 hF2 Tryz.underlying3 rfl (by with_unfolding_all exact ⟨_, rfl, rfl⟩) rfl ?_)) | (with_reducible refine lst (by with_unfolding_all rfl) (wp_fbuild Tryz.underlying37 (z := .agg (List.toArray ds0)) (by kernel_rfl) (pl := dsP) (by kernel_rfl) (cs := ds0) rfl (vs := []) (by with_unfolding_all rfl) (by with_unfolding_all rfl) ?_)) | ((with_reducible refine lst (by with_unfolding_all rfl) (wp_fstA0 hF3 (by with_unfolding_all exact ⟨_, _, rfl, rfl, rfl⟩) (by rw [ds0_len]; kernel_rfl) ds0_one (Nat.le_of_eq (Nat.zero_add _)) (spl_all rfl) ?_)); intro w4 hF4 hz4))
 clear hF0 hF1 hF2 hF3
 go_loopg [5, 6] nn (fun g hv iv wr => ∃ (i : Nat) (d : MDesc) (tc : Nat) (nt : Value) (TE : List Ent), i ≤ nn ∧ Box (g = nn - i) ∧ iv = .int .i64 (i : Int) ∧ hv = .int .i64 (tc : Int) ∧ tc ≤ i ∧ d.dig.length = 32 ∧ Box (VN d.notes nt TE) ∧ Box (J = rDescL d tc (ns.drop i) (ks.drop i)) ∧ Fr [] w wr (.blk g3 37 (dsL d.media d.dig d.size nt) :: .blk g2 37 ds0 :: .blk g1 51 (vlL k n ⟨t.toArray⟩ (.slice An nn cn) (.slice Ak nn ck)) :: TE))
 case atStart => exact ⟨0, .zero, 0, _, [], by omega, box rfl, rfl, rfl, Nat.le_refl _, by decide, box VN.nil, hJ, hF4⟩
 case round =>
  clear hF4 hJ
  obtain ⟨i, d, tc, nt, TE, hi, hgi, rfl, rfl, htc, hdl, hnt', hJ, hF⟩ := hrel
  have hkk : Box (_ = nn - i) := hgi
  clear hgi
  have hrk' := hrk.below hF.below
  have hnt := hnt'.out
  obtain ⟨At, lt, ct, _, _, rfl, _⟩ := hnt'.out
  by_cases hlt : i < nn
  ·obtain ⟨u, hu⟩ : ∃ u, ks[i]? = some u := ⟨ks[i]'(by rw [← hnk.out]; exact hlt), by simp⟩
   obtain ⟨s, hs⟩ : ∃ s, ns[i]? = some s := ⟨ns[i]'(by rw [hnn.out]; exact hlt), by simp⟩
   obtain ⟨ci, hci, hvi⟩ := hvk.out.at hu
   have hstep := box (hJ.out.trans (rDescL_go hs hu))
   have hss : Box ((ns.map strv)[i]? = some (.string ⟨s.toArray⟩)) := box (by rw [List.getElem?_map, hs]; rfl)
   have hub := box (hkob.out u (List.mem_of_getElem? hu))
   have hdig := box (fun d' t' => rdStep_dig (d := d) (d' := d') (t := tc) (t' := t') (s := s) (k := u) hdl)
   clear hu hs hJ
   obtain ⟨ku, nu, tu, nsu, ksu⟩ := u
   have hus : tu.length ≤ 1048576 := hub.out.small.1
   have hvi0 := hvi
   rw [VRd] at hvi0
   obtain ⟨Au, au, bu, Bu, cu, du, xu, _, _, rfl, _, _, _⟩ := hvi0
   replace hci := box hci
   have hrn' := hrn.below hF.below
   go_upto_block 2 with (first | (with_reducible refine lst (by with_unfolding_all rfl) (wp_fld2 hF Tryz.underlying49 rfl (by with_unfolding_all exact ⟨_, rfl, rfl⟩) rfl ?_)) | (with_reducible refine lst (by with_unfolding_all rfl) (wp_indexAddr T_rvals hrk' (by with_unfolding_all exact ⟨_, _, _, _, rfl, rfl, rfl⟩) (by omega) (by omega) ?_)) | (with_reducible refine lst (by with_unfolding_all rfl) (wp_loadA hrk' Tryz.underlying51 rfl (by with_unfolding_all exact ⟨_, rfl, rfl⟩) (ds := (vlL ku nu ⟨tu.toArray⟩ (.slice Au au bu) (.slice Bu cu du))) (by rw [vlL_len]; kernel_rfl) (by with_unfolding_all exact hci.out) ?_)) | ((with_reducible refine lst (by with_unfolding_all rfl) (wp_falloc hF (cs := vl0) (z := .agg (List.toArray (vl0))) rfl (by kernel_rfl) (by with_unfolding_all rfl) ?_)); intro w22 g22 hF22 hz22) | ((with_reducible refine lst (by with_unfolding_all rfl) (wp_fstA0 hF22 (by with_unfolding_all exact ⟨_, _, rfl, rfl, rfl⟩) (by rw [vlL_len]; kernel_rfl) vlL_one (by rw [vlL_len, vlL_len]; decide) (spl_all (by rw [vlL_len, vlL_len])) ?_)); intro w5 hF5 hz5) | (with_reducible refine lst (by with_unfolding_all rfl) (wp_fld3 hF5 Tryz.underlying48 rfl (by with_unfolding_all exact ⟨_, rfl, rfl⟩) rfl ?_)) | (have hrn3 := hrn.below hF5.below; (with_reducible refine lst (by with_unfolding_all rfl) (wp_indexAddr T_strs hrn3 (by with_unfolding_all exact ⟨_, _, _, _, rfl, rfl, rfl⟩) (by omega) (by omega) ?_))) | (have hrn3 := hrn.below hF5.below; (with_reducible refine lst (by with_unfolding_all rfl) (wp_load1C hrn3 hss Tryz.underlying9 rfl (by with_unfolding_all exact ⟨_, rfl, rfl⟩) (by first | (simp; done) | (simp; omega) | omega) ?_))))
   (try simp only [Act.put, List.setIfInBounds_toArray, List.set_cons_zero, List.set_cons_succ])
   go_cut [5, 8] (fun hv ev wx => RDSt w g1 g2 g3 (vlL k n ⟨t.toArray⟩ (.slice An nn cn) (.slice Ak nn ck)) TE (rdStep d tc s (.mk ku nu tu nsu ksu)) hv ev wx)
   case first =>
    clear hstep hdig
    by_cases h1 : s = kMedia
    ·have hst : Box (rdStep d tc s (.mk ku nu tu nsu ksu) = match mMedia (.mk ku nu tu nsu ksu) with | .ok t => .ok ({ d with media := t }, tc + 1) | .error e => .error e) := box (by unfold rdStep; rw [if_pos h1] <;> (try rfl))
     have hsq : s = [109, 101, 100, 105, 97, 84, 121, 112, 101] := h1
     subst hsq
     clear h1
     go_wp2_with (first | (with_reducible refine lst (by with_unfolding_all rfl) (wp_fldA0 hF5 Tryz.underlying51 rfl (by with_unfolding_all exact ⟨_, rfl, rfl⟩) (ds := (vlL ku nu ⟨tu.toArray⟩ (.slice Au au bu) (.slice Bu cu du))) (by rw [vlL_len]; kernel_rfl) (take_all _) ?_)))
     refine (rmedia_any _ _ _ _ (hvi.on hF5.below) hus).mono ?_
     rintro e w6 ⟨rfl, hb6⟩
     have hF6 := hF5.call hb6
     cases hm : mMedia (.mk ku nu tu nsu ksu) with
     | ok tt =>
      rw [hm] at hst
      have htt : tt = tu := mMedia_ok hm
      subst htt
      simp only [mCode]
      go_wp2_with (first | (with_reducible refine lst (by with_unfolding_all rfl) (wp_fld0 hF6 Tryz.underlying9 rfl (by with_unfolding_all exact ⟨_, rfl, rfl⟩) rfl ?_)) | ((with_reducible refine lst (by with_unfolding_all rfl) (wp_fst1 hF6 (by with_unfolding_all exact ⟨_, _, rfl, rfl, rfl⟩) (by kernel_rfl) rfl rfl (by rw [dsL_len hdl]; decide) (dsL_0s (m' := tt)) ?_)); intro w7 hF7 hz7))
      go_meet
      rw [hst.out]
      exact ⟨TE, fun _ h => h, rfl, by go_num, _, hnt, hF7.tail⟩
     | error ee =>
      have hne := mMedia_ne hm
      rw [hm] at hst
      simp only [mCode]
      go_wp2_with (first | (with_reducible refine lst (by with_unfolding_all rfl) (wp_fld0 hF6 Tryz.underlying9 rfl (by with_unfolding_all exact ⟨_, rfl, rfl⟩) rfl ?_)) | ((with_reducible refine lst (by with_unfolding_all rfl) (wp_fst1 hF6 (by with_unfolding_all exact ⟨_, _, rfl, rfl, rfl⟩) (by kernel_rfl) rfl rfl (by rw [dsL_len hdl]; decide) (dsL_0s (m' := tu)) ?_)); intro w7 hF7 hz7))
      go_meet
      rw [hst.out]
      exact ⟨TE, fun _ h => h, rfl, hne, ⟨_, rfl⟩, _, _, _, _, hdl, hF7.tail⟩
    have n1 : (s == [109, 101, 100, 105, 97, 84, 121, 112, 101]) = false := by rw [beq_eq_false_iff_ne]; exact h1
    by_cases h2 : s = kDigest
    ·have hst : Box (rdStep d tc s (.mk ku nu tu nsu ksu) = if ku = 4 then (match dgP tu with | some x => .ok ({ d with dig := x }, tc + 1) | none => .error 20) else .error 80) := box (by unfold rdStep; rw [if_neg h1, if_pos h2] <;> (try rfl))
     have hsq : s = [100, 105, 103, 101, 115, 116] := h2
     subst hsq
     clear h1 h2 n1
     go_wp2_with (first | (with_reducible refine lst (by with_unfolding_all rfl) (wp_fld0 hF5 Tryz.underlying9 rfl (by with_unfolding_all exact ⟨_, rfl, rfl⟩) rfl ?_)))
     refine (dgParseF_any ⟨tu.toArray⟩ _ (by rw [← str_len]; exact Nat.le_trans hus (by decide))).mono ?_
     rintro e w6 ⟨rfl, hb6⟩
     have hF6 := hF5.call hb6
     rw [show (⟨tu.toArray⟩ : ByteArray).data.toList = tu from rfl]
     have hzl := box zeros_len
     cases hp : dgP tu with
     | some x =>
      by_cases hu4 : ku = 4
      ·skip
       rw [hp] at hst
       have hxl := box (show (x : List UInt8).length = 32 by exact dgP_len hp)
       have hxm := box (show (x.map bv).length = 32 by rw [List.length_map]; exact hxl.out)
       simp only [Option.getD_some, Option.isSome_some, if_true]
       rw [if_pos hu4] at hst
       have hq4 : ((ku : Int) != 4) = false := by rw [hu4]; rfl
       replace hu4 := box hu4
       replace hp := box hp
       go_wp2_with (first | ((with_reducible refine lst (by with_unfolding_all rfl) (wp_falloc hF6 (cs := (zeros.map bv)) (z := .agg (List.toArray ((zeros.map bv)))) rfl (by kernel_rfl) (by with_unfolding_all rfl) ?_)); intro w26 g26 hF26 hz26) | ((with_reducible refine lst (by with_unfolding_all rfl) (wp_fstA0 hF26 (by with_unfolding_all exact ⟨_, _, rfl, rfl, rfl⟩) (by rw [hxm.out]; kernel_rfl) (bv_one _) (by rw [hxm.out, hzl.out]; decide) (spl_all (by rw [hxm.out, hzl.out])) ?_)); intro w27 hF27 hz27) | (with_reducible refine lst (by with_unfolding_all rfl) (wp_fld1 hF27 Tryz.underlying3 rfl (by with_unfolding_all exact ⟨_, rfl, rfl⟩) rfl ?_)) | (with_reducible refine lst (by with_unfolding_all rfl) (wp_fldA0 hF27 Tryz.underlying24 rfl (by with_unfolding_all exact ⟨_, rfl, rfl⟩) (ds := (x.map bv)) (by rw [hxm.out]; kernel_rfl) (take_all _) ?_)) | ((with_reducible refine lst (by with_unfolding_all rfl) (wp_fstA2 hF27 (by with_unfolding_all exact ⟨_, _, rfl, rfl, rfl⟩) (by rw [hxm.out]; kernel_rfl) (bv_one _) (by rw [hxm.out, dsL_len hdl]; decide) (dsL_1 (by rw [hxl.out, hdl])) ?_)); intro w28 hF28 hz28))
       go_meet
       rw [hst.out]
       exact ⟨TE, fun _ h => h, rfl, by go_num, _, hnt, hF28.tail.tail⟩
      ·skip
       rw [hp] at hst
       have hxl := box (show (x : List UInt8).length = 32 by exact dgP_len hp)
       have hxm := box (show (x.map bv).length = 32 by rw [List.length_map]; exact hxl.out)
       simp only [Option.getD_some, Option.isSome_some, if_true]
       rw [if_neg hu4] at hst
       have hq4 : ((ku : Int) != 4) = true := by rw [bne_iff_ne]; exact hu4
       replace hu4 := box hu4
       replace hp := box hp
       go_wp2_with (first | ((with_reducible refine lst (by with_unfolding_all rfl) (wp_falloc hF6 (cs := (zeros.map bv)) (z := .agg (List.toArray ((zeros.map bv)))) rfl (by kernel_rfl) (by with_unfolding_all rfl) ?_)); intro w26 g26 hF26 hz26) | ((with_reducible refine lst (by with_unfolding_all rfl) (wp_fstA0 hF26 (by with_unfolding_all exact ⟨_, _, rfl, rfl, rfl⟩) (by rw [hxm.out]; kernel_rfl) (bv_one _) (by rw [hxm.out, hzl.out]; decide) (spl_all (by rw [hxm.out, hzl.out])) ?_)); intro w27 hF27 hz27) | (with_reducible refine lst (by with_unfolding_all rfl) (wp_fld1 hF27 Tryz.underlying3 rfl (by with_unfolding_all exact ⟨_, rfl, rfl⟩) rfl ?_)) | (with_reducible refine lst (by with_unfolding_all rfl) (wp_fldA0 hF27 Tryz.underlying24 rfl (by with_unfolding_all exact ⟨_, rfl, rfl⟩) (ds := (x.map bv)) (by rw [hxm.out]; kernel_rfl) (take_all _) ?_)) | ((with_reducible refine lst (by with_unfolding_all rfl) (wp_fstA2 hF27 (by with_unfolding_all exact ⟨_, _, rfl, rfl, rfl⟩) (by rw [hxm.out]; kernel_rfl) (bv_one _) (by rw [hxm.out, dsL_len hdl]; decide) (dsL_1 (by rw [hxl.out, hdl])) ?_)); intro w28 hF28 hz28))
       go_meet
       rw [hst.out]
       exact ⟨TE, fun _ h => h, rfl, by decide, ⟨_, rfl⟩, _, _, _, _, hxl.out, hF28.tail.tail⟩
     | none =>
      by_cases hu4 : ku = 4
      ·skip
       rw [hp] at hst
       have hxl := box (show (zeros : List UInt8).length = 32 by decide)
       have hxm := box (show (zeros.map bv).length = 32 by rw [List.length_map]; exact hxl.out)
       simp only [Option.getD_none, Option.isSome_none]
       rw [if_pos hu4] at hst
       have hq4 : ((ku : Int) != 4) = false := by rw [hu4]; rfl
       replace hu4 := box hu4
       replace hp := box hp
       go_wp2_with (first | ((with_reducible refine lst (by with_unfolding_all rfl) (wp_falloc hF6 (cs := (zeros.map bv)) (z := .agg (List.toArray ((zeros.map bv)))) rfl (by kernel_rfl) (by with_unfolding_all rfl) ?_)); intro w26 g26 hF26 hz26) | ((with_reducible refine lst (by with_unfolding_all rfl) (wp_fstA0 hF26 (by with_unfolding_all exact ⟨_, _, rfl, rfl, rfl⟩) (by rw [hxm.out]; kernel_rfl) (bv_one _) (Nat.le_of_eq (Nat.zero_add _)) (spl_all rfl) ?_)); intro w27 hF27 hz27) | (with_reducible refine lst (by with_unfolding_all rfl) (wp_fld1 hF27 Tryz.underlying3 rfl (by with_unfolding_all exact ⟨_, rfl, rfl⟩) rfl ?_)) | (with_reducible refine lst (by with_unfolding_all rfl) (wp_fldA0 hF27 Tryz.underlying24 rfl (by with_unfolding_all exact ⟨_, rfl, rfl⟩) (ds := (zeros.map bv)) (by rw [hxm.out]; kernel_rfl) (take_all _) ?_)) | ((with_reducible refine lst (by with_unfolding_all rfl) (wp_fstA2 hF27 (by with_unfolding_all exact ⟨_, _, rfl, rfl, rfl⟩) (by rw [hxm.out]; kernel_rfl) (bv_one _) (by rw [hxm.out, dsL_len hdl]; decide) (dsL_1 (by rw [hxl.out, hdl])) ?_)); intro w28 hF28 hz28))
       go_meet
       rw [hst.out]
       exact ⟨TE, fun _ h => h, rfl, by decide, ⟨_, rfl⟩, _, _, _, _, hxl.out, hF28.tail.tail⟩
      ·skip
       rw [hp] at hst
       have hxl := box (show (zeros : List UInt8).length = 32 by decide)
       have hxm := box (show (zeros.map bv).length = 32 by rw [List.length_map]; exact hxl.out)
       simp only [Option.getD_none, Option.isSome_none]
       rw [if_neg hu4] at hst
       have hq4 : ((ku : Int) != 4) = true := by rw [bne_iff_ne]; exact hu4
       replace hu4 := box hu4
       replace hp := box hp
       go_wp2_with (first | ((with_reducible refine lst (by with_unfolding_all rfl) (wp_falloc hF6 (cs := (zeros.map bv)) (z := .agg (List.toArray ((zeros.map bv)))) rfl (by kernel_rfl) (by with_unfolding_all rfl) ?_)); intro w26 g26 hF26 hz26) | ((with_reducible refine lst (by with_unfolding_all rfl) (wp_fstA0 hF26 (by with_unfolding_all exact ⟨_, _, rfl, rfl, rfl⟩) (by rw [hxm.out]; kernel_rfl) (bv_one _) (Nat.le_of_eq (Nat.zero_add _)) (spl_all rfl) ?_)); intro w27 hF27 hz27) | (with_reducible refine lst (by with_unfolding_all rfl) (wp_fld1 hF27 Tryz.underlying3 rfl (by with_unfolding_all exact ⟨_, rfl, rfl⟩) rfl ?_)) | (with_reducible refine lst (by with_unfolding_all rfl) (wp_fldA0 hF27 Tryz.underlying24 rfl (by with_unfolding_all exact ⟨_, rfl, rfl⟩) (ds := (zeros.map bv)) (by rw [hxm.out]; kernel_rfl) (take_all _) ?_)) | ((with_reducible refine lst (by with_unfolding_all rfl) (wp_fstA2 hF27 (by with_unfolding_all exact ⟨_, _, rfl, rfl, rfl⟩) (by rw [hxm.out]; kernel_rfl) (bv_one _) (by rw [hxm.out, dsL_len hdl]; decide) (dsL_1 (by rw [hxl.out, hdl])) ?_)); intro w28 hF28 hz28))
       go_meet
       rw [hst.out]
       exact ⟨TE, fun _ h => h, rfl, by decide, ⟨_, rfl⟩, _, _, _, _, hxl.out, hF28.tail.tail⟩
    have n2 : (s == [100, 105, 103, 101, 115, 116]) = false := by rw [beq_eq_false_iff_ne]; exact h2
    by_cases h3 : s = kSize
    ·have hst : Box (rdStep d tc s (.mk ku nu tu nsu ksu) = if ku = 3 then (if nu < 0 ∨ 1099511627776 < nu then .error 81 else .ok ({ d with size := nu }, tc + 1)) else .error 80) := box (by unfold rdStep; rw [if_neg h1, if_neg h2, if_pos h3] <;> (try rfl))
     have hsq : s = [115, 105, 122, 101] := h3
     subst hsq
     clear h1 h2 h3 n1 n2
     by_cases hk3 : ku = 3
     ·rw [if_pos hk3] at hst
      have hq3 : ((ku : Int) != 3) = false := by rw [hk3]; rfl
      replace hk3 := box hk3
      by_cases hz : nu < 0
      ·rw [if_pos (.inl hz)] at hst
       have hd0 : decide (nu < 0) = true := decide_eq_true hz
       replace hz := box hz
       go_wp2_with (first | (with_reducible refine lst (by with_unfolding_all rfl) (wp_fld0 hF5 Tryz.underlying3 rfl (by with_unfolding_all exact ⟨_, rfl, rfl⟩) rfl ?_)) | ((with_reducible refine lst (by with_unfolding_all rfl) (wp_fst1 hF5 (by with_unfolding_all exact ⟨_, _, rfl, rfl, rfl⟩) (by kernel_rfl) rfl rfl (by rw [dsL_len hdl]; decide) (dsL_33 (z' := nu) hdl) ?_)); intro w6 hF6 hz6))
       go_meet
       rw [hst.out]
       exact ⟨TE, fun _ h => h, rfl, by decide, ⟨_, rfl⟩, _, _, _, _, hdl, hF6.tail⟩
      by_cases hy : 1099511627776 < nu
      ·rw [if_pos (.inr hy)] at hst
       have hd0 : decide (nu < 0) = false := decide_eq_false hz
       have hd1 : decide (1099511627776 < nu) = true := decide_eq_true hy
       replace hz := box hz
       replace hy := box hy
       go_wp2_with (first | (with_reducible refine lst (by with_unfolding_all rfl) (wp_fld0 hF5 Tryz.underlying3 rfl (by with_unfolding_all exact ⟨_, rfl, rfl⟩) rfl ?_)) | ((with_reducible refine lst (by with_unfolding_all rfl) (wp_fst1 hF5 (by with_unfolding_all exact ⟨_, _, rfl, rfl, rfl⟩) (by kernel_rfl) rfl rfl (by rw [dsL_len hdl]; decide) (dsL_33 (z' := nu) hdl) ?_)); intro w6 hF6 hz6))
       go_meet
       rw [hst.out]
       exact ⟨TE, fun _ h => h, rfl, by decide, ⟨_, rfl⟩, _, _, _, _, hdl, hF6.tail⟩
      ·rw [if_neg (by rintro (h | h); exact hz h; exact hy h)] at hst
       have hd0 : decide (nu < 0) = false := decide_eq_false hz
       have hd1 : decide (1099511627776 < nu) = false := decide_eq_false hy
       replace hz := box hz
       replace hy := box hy
       go_wp2_with (first | (with_reducible refine lst (by with_unfolding_all rfl) (wp_fld0 hF5 Tryz.underlying3 rfl (by with_unfolding_all exact ⟨_, rfl, rfl⟩) rfl ?_)) | ((with_reducible refine lst (by with_unfolding_all rfl) (wp_fst1 hF5 (by with_unfolding_all exact ⟨_, _, rfl, rfl, rfl⟩) (by kernel_rfl) rfl rfl (by rw [dsL_len hdl]; decide) (dsL_33 (z' := nu) hdl) ?_)); intro w6 hF6 hz6))
       go_meet
       rw [hst.out]
       exact ⟨TE, fun _ h => h, rfl, by go_num, _, hnt, hF6.tail⟩
     ·rw [if_neg hk3] at hst
      have hq3 : ((ku : Int) != 3) = true := by rw [bne_iff_ne]; exact hk3
      replace hk3 := box hk3
      by_cases hz : nu < 0
      ·skip
       have hd0 : decide (nu < 0) = true := decide_eq_true hz
       replace hz := box hz
       go_wp2_with (first | (with_reducible refine lst (by with_unfolding_all rfl) (wp_fld0 hF5 Tryz.underlying3 rfl (by with_unfolding_all exact ⟨_, rfl, rfl⟩) rfl ?_)) | ((with_reducible refine lst (by with_unfolding_all rfl) (wp_fst1 hF5 (by with_unfolding_all exact ⟨_, _, rfl, rfl, rfl⟩) (by kernel_rfl) rfl rfl (by rw [dsL_len hdl]; decide) (dsL_33 (z' := nu) hdl) ?_)); intro w6 hF6 hz6))
       go_meet
       rw [hst.out]
       exact ⟨TE, fun _ h => h, rfl, by decide, ⟨_, rfl⟩, _, _, _, _, hdl, hF6.tail⟩
      by_cases hy : 1099511627776 < nu
      ·skip
       have hd0 : decide (nu < 0) = false := decide_eq_false hz
       have hd1 : decide (1099511627776 < nu) = true := decide_eq_true hy
       replace hz := box hz
       replace hy := box hy
       go_wp2_with (first | (with_reducible refine lst (by with_unfolding_all rfl) (wp_fld0 hF5 Tryz.underlying3 rfl (by with_unfolding_all exact ⟨_, rfl, rfl⟩) rfl ?_)) | ((with_reducible refine lst (by with_unfolding_all rfl) (wp_fst1 hF5 (by with_unfolding_all exact ⟨_, _, rfl, rfl, rfl⟩) (by kernel_rfl) rfl rfl (by rw [dsL_len hdl]; decide) (dsL_33 (z' := nu) hdl) ?_)); intro w6 hF6 hz6))
       go_meet
       rw [hst.out]
       exact ⟨TE, fun _ h => h, rfl, by decide, ⟨_, rfl⟩, _, _, _, _, hdl, hF6.tail⟩
      ·skip
       have hd0 : decide (nu < 0) = false := decide_eq_false hz
       have hd1 : decide (1099511627776 < nu) = false := decide_eq_false hy
       replace hz := box hz
       replace hy := box hy
       go_wp2_with (first | (with_reducible refine lst (by with_unfolding_all rfl) (wp_fld0 hF5 Tryz.underlying3 rfl (by with_unfolding_all exact ⟨_, rfl, rfl⟩) rfl ?_)) | ((with_reducible refine lst (by with_unfolding_all rfl) (wp_fst1 hF5 (by with_unfolding_all exact ⟨_, _, rfl, rfl, rfl⟩) (by kernel_rfl) rfl rfl (by rw [dsL_len hdl]; decide) (dsL_33 (z' := nu) hdl) ?_)); intro w6 hF6 hz6))
       go_meet
       rw [hst.out]
       exact ⟨TE, fun _ h => h, rfl, by decide, ⟨_, rfl⟩, _, _, _, _, hdl, hF6.tail⟩
    have n3 : (s == [115, 105, 122, 101]) = false := by rw [beq_eq_false_iff_ne]; exact h3
    by_cases h4 : s = kNotes
    ·have hst : Box (rdStep d tc s (.mk ku nu tu nsu ksu) = match mNotes (.mk ku nu tu nsu ksu) with | .ok l => .ok ({ d with notes := l }, tc) | .error e => .error e) := box (by unfold rdStep; rw [if_neg h1, if_neg h2, if_neg h3, if_pos h4] <;> (try rfl))
     have hsq : s = [97, 110, 110, 111, 116, 97, 116, 105, 111, 110, 115] := h4
     subst hsq
     clear h1 h2 h3 h4 n1 n2 n3
     go_wp2_with (first | (with_reducible refine lst (by with_unfolding_all rfl) (wp_fldA0 hF5 Tryz.underlying51 rfl (by with_unfolding_all exact ⟨_, rfl, rfl⟩) (ds := (vlL ku nu ⟨tu.toArray⟩ (.slice Au au bu) (.slice Bu cu du))) (by rw [vlL_len]; kernel_rfl) (take_all _) ?_)))
     refine (rnotes_any _ _ _ (hvi.on hF5.below) hub.out).mono ?_
     rintro e w6 ⟨nt4, es4, rfl, hnt4, hn4⟩
     have hF6 := hF5.joinR hn4
     simp only [List.cons_append] at hF6
     obtain ⟨A4, l4, c4, hlc4, hll4, rfl, hm4⟩ := hnt4
     cases hm : mNotes (.mk ku nu tu nsu ksu) with
     | ok l =>
      rw [hm] at hst
      simp only [mCode]
      rw [hm] at hll4 hm4
      replace hll4 := box hll4
      go_wp2_with (first | ((with_reducible refine lst (by with_unfolding_all rfl) (wp_fst1 hF6 (by with_unfolding_all exact ⟨_, _, rfl, rfl, rfl⟩) (by kernel_rfl) rfl rfl (by rw [dsL_len hdl]; decide) (dsL_34 (nt' := .slice A4 l4 c4) hdl) ?_)); intro w7 hF7 hz7))
      go_meet
      rw [hst.out]
      exact ⟨TE ++ es4, fun _ h => List.mem_append_left _ h, rfl, rfl, _, ⟨A4, l4, c4, hlc4, hll4.out, rfl, hm4.imp id (List.mem_append_right _)⟩, hF7.tail⟩
     | error ee =>
      have hne := mNotes_ne hm
      rw [hm] at hst
      replace hll4 := box hll4
      simp only [mCode]
      go_wp2_with (first | ((with_reducible refine lst (by with_unfolding_all rfl) (wp_fst1 hF6 (by with_unfolding_all exact ⟨_, _, rfl, rfl, rfl⟩) (by kernel_rfl) rfl rfl (by rw [dsL_len hdl]; decide) (dsL_34 (nt' := .slice A4 l4 c4) hdl) ?_)); intro w7 hF7 hz7))
      go_meet
      rw [hst.out]
      exact ⟨TE ++ es4, fun _ h => List.mem_append_left _ h, rfl, hne, ⟨_, rfl⟩, _, _, _, _, hdl, hF7.tail⟩
    have n4 : (s == [97, 110, 110, 111, 116, 97, 116, 105, 111, 110, 115]) = false := by rw [beq_eq_false_iff_ne]; exact h4
    have hst : Box (rdStep d tc s (.mk ku nu tu nsu ksu) = .error 80) := box (by unfold rdStep; rw [if_neg h1, if_neg h2, if_neg h3, if_neg h4])
    clear h1 h2 h3 h4
    go_wp2_with fail
    go_meet
    rw [hst.out]
    exact ⟨TE, fun _ h => h, rfl, by decide, ⟨_, rfl⟩, _, _, _, _, hdl, hF5.tail⟩
   case rest =>
    obtain ⟨TE', hTE, hc⟩ := hcut
    cases hm : rdStep d tc s (.mk ku nu tu nsu ksu) with
    | error e =>
     rw [hm] at hc hstep
     obtain ⟨rfl, hne, ⟨z, rfl⟩, m5, d5, z5, n5, hl5, hF6⟩ := hc
     have hnq : ((e : Int) != 0) = true := by rw [bne_iff_ne]; omega
     replace hne := box hne
     clear hm hF hF22 hF5
     go_wp2_with (first | (with_reducible refine lst (by with_unfolding_all rfl) (wp_fbuild Tryz.underlying37 (z := .agg (List.toArray ds0)) (by kernel_rfl) (pl := dsP) (by kernel_rfl) (cs := ds0) rfl (vs := []) (by with_unfolding_all rfl) (by with_unfolding_all rfl) ?_)) | ((with_reducible refine lst (by with_unfolding_all rfl) (wp_fstA1 hF6 (by with_unfolding_all exact ⟨_, _, rfl, rfl, rfl⟩) (by rw [ds0_len]; kernel_rfl) ds0_one (Nat.le_of_eq (Nat.zero_add _)) (spl_all rfl) ?_)); intro w7 hF7 hz7))
     exact bodyPost_ret (results_cellF2 rfl _ hF7 (i := 1) rfl rfl Tryz.underlying37 rfl (by rw [ds0_len]; kernel_rfl)) rfl (by
      unfold RDsc
      rw [hstep.out]
      exact ⟨_, _, rfl, VD.zero, hF7.tail.tail.tail⟩)
    | ok x =>
     obtain ⟨d', t'⟩ := x
     obtain ⟨hd', ht'⟩ := hdig.out d' t' hm
     rw [hm] at hc hstep
     simp only [] at hc hstep
     obtain ⟨rfl, rfl, nt', hnt', hF6⟩ := hc
     clear hm hF hF22 hF5
     replace hnt' := box hnt'
     go_wp2_with fail
     go_roundg (nn - (i + 1))
     case rel => exact ⟨i + 1, d', t', nt', TE', by omega, box rfl, by go_num, rfl, by omega, hd', hnt', hstep, hF6⟩
     case measure => have := hkk.out; omega
  ·have hend := hJ.out.trans (rDescL_end (by rw [← hnk.out]; omega))
   obtain rfl : nn = i := by omega
   by_cases h3 : tc < 3
   ·rw [if_pos h3] at hend
    have hq3 : decide ((tc : Int) < 3) = true := decide_eq_true (by omega)
    replace hend := box hend
    replace h3 := box h3
    go_wp2_with (first | (with_reducible refine lst (by with_unfolding_all rfl) (wp_fld2 hF Tryz.underlying49 rfl (by with_unfolding_all exact ⟨_, rfl, rfl⟩) rfl ?_)) | (with_reducible refine lst (by with_unfolding_all rfl) (wp_fbuild Tryz.underlying37 (z := .agg (List.toArray ds0)) (by kernel_rfl) (pl := dsP) (by kernel_rfl) (cs := ds0) rfl (vs := []) (by with_unfolding_all rfl) (by with_unfolding_all rfl) ?_)) | ((with_reducible refine lst (by with_unfolding_all rfl) (wp_fstA1 hF (by with_unfolding_all exact ⟨_, _, rfl, rfl, rfl⟩) (by rw [ds0_len]; kernel_rfl) ds0_one (Nat.le_of_eq (Nat.zero_add _)) (spl_all rfl) ?_)); intro w6 hF6 hz6))
    exact bodyPost_ret (results_cellF2 rfl _ hF6 (i := 1) rfl rfl Tryz.underlying37 rfl (by rw [ds0_len]; kernel_rfl)) rfl (by
     unfold RDsc
     rw [hend.out]
     exact ⟨_, _, rfl, VD.zero, hF6.tail.tail.tail⟩)
   ·rw [if_neg h3] at hend
    have hq3 : decide ((tc : Int) < 3) = false := decide_eq_false (by omega)
    replace hend := box hend
    replace h3 := box h3
    go_wp2_with (first | (with_reducible refine lst (by with_unfolding_all rfl) (wp_fld2 hF Tryz.underlying49 rfl (by with_unfolding_all exact ⟨_, rfl, rfl⟩) rfl ?_)) | (with_reducible refine lst (by with_unfolding_all rfl) (wp_fldA0 hF Tryz.underlying37 rfl (by with_unfolding_all exact ⟨_, rfl, rfl⟩) (ds := (dsL d.media d.dig d.size (.slice At lt ct))) (by rw [dsL_len hdl]; kernel_rfl) (take_all _) ?_)) | ((with_reducible refine lst (by with_unfolding_all rfl) (wp_fstA1 hF (by with_unfolding_all exact ⟨_, _, rfl, rfl, rfl⟩) (by rw [dsL_len hdl]; kernel_rfl) dsL_one (by rw [dsL_len hdl, ds0_len]; decide) (spl_all (by rw [dsL_len hdl, ds0_len])) ?_)); intro w6 hF6 hz6))
    exact bodyPost_ret (results_cellF2 rfl _ hF6 (i := 1) rfl rfl Tryz.underlying37 rfl (by rw [dsL_len hdl]; kernel_rfl)) rfl (by
     unfold RDsc
     rw [hend.out]
     exact ⟨_, _, rfl, ⟨_, hdl, hnt'.out, rfl⟩, hF6.tail.tail.tail⟩)
end Go.Proofs.YtlhicfpmlncomaaGreatDoor
