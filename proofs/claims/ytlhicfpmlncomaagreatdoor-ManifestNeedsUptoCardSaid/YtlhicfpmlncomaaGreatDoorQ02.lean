/-
 Words for walks over several blocks at once: what is known of each block that a call has made or was handed (Fr), and the laws of the operations over it. No program is named here.
 More laws over a frame of known blocks: literals of slices, structs that are built, results that lie in cells, loads in a region that draws its order, equality of arrays of bytes. No program is named here.
 Laws over a frame of known blocks, further: texts turned into bytes, results that lie in cells, equality of arrays of bytes. No program is named here.
 The laws over a frame of known blocks, by the place of the entry. (Printed by gen_frp.py.) No program is named here.
-/
import Derived.Test.YtlhicfpmlncomaaGreatDoorQ01
import Derived.Deep.MidRow
import Derived.Laws.CopyRow
import Derived.OrdersHeld
import Derived.Laws.StructEq
namespace Go.Proofs.YtlhicfpmlncomaaGreatDoor
open Go.RowKit
/-- What is known of a block: all its cells; or that a slice value owns its cells; or that a slice reads as cells. -/
inductive Ent
 | blk (g : Nat) (t : TypeId) (cs : List Value)
 | own (b : Nat) (e : TypeId) (size : Nat) (v : Value) (n : Nat) (xs : List Value)
 | rd (A : Option Addr) (size n : Nat) (xs : List Value)
def Ent.block : Ent → Option Nat
 | .blk g _ _ => some g
 | .own _ _ _ v _ _ => v.ownBlock
 | .rd A _ _ _ => A.map (·.block)
def Ent.holds (w : World) : Ent → Prop
 | .blk g t cs => w.heap[g]? = some (.cells cs.toArray t (0, 0))
 | .own b e size v n xs => w.ownsRow b e size v n xs
 | .rd A size n xs => Rd w (· < w.heap.size) A size n xs ∧ ∀ a, A = some a → a.block < w.heap.size
/-- Bytes that a slice value owns. -/
def Ent.bytes (b : Nat) (e : TypeId) (v : Value) (l : List UInt8) : Ent := .own b e 1 v l.length (l.map bv)
theorem lt_of_heap {w : World} {g : Nat} {o : Obj} (h : w.heap[g]? = some o) : g < w.heap.size := by
 rcases Nat.lt_or_ge g w.heap.size with h1 | h1
 ·exact h1
 ·rw [Array.getElem?_eq_none h1] at h; cases h
theorem Ent.lt {w : World} {e : Ent} (h : e.holds w) {b : Nat} (hb : e.block = some b) : b < w.heap.size := by
 cases e with
 | blk g t cs => injection hb with hb; subst hb; exact lt_of_heap h
 | own b' e size v n xs => exact (h.lt b hb).2
 | rd A size n xs =>
  obtain ⟨a, ha, rfl⟩ := Option.map_eq_some_iff.1 hb
  exact h.2 a ha
theorem Ent.keep {w w' : World} {row : Option Nat} {e : Ent} (h : e.holds w) (hg : w.grownBy w' row) (hne : e.block = none ∨ e.block ≠ row) : e.holds w' := by
 cases e with
 | blk g t cs =>
  have hlt := lt_of_heap (w := w) h
  exact (hg.block g hlt (hne.elim (fun h => by cases h) id)).trans h
 | own b e size v n xs => exact World.ownsRow.kept h hg hne
 | rd A size n xs =>
  refine ⟨⟨h.1.len, h.1.some_, fun hn => Nat.lt_of_lt_of_le (h.1.inS hn) hg.size, fun j u hu => ?_⟩, fun a ha => Nat.lt_of_lt_of_le (h.2 a ha) hg.size⟩
  have hn := h.1.pos_of hu
  have hA := h.1.some_ hn
  have hb := h.1.inS hn
  rw [← h.1.cell j u hu]
  refine World.cell?_of_block (w := w) ?_
  rw [atp_block]
  refine hg.block _ hb ?_
  rcases hne with h0 | h0
  ·exact absurd h0 (by unfold Ent.block; rw [hA]; simp)
  ·unfold Ent.block at h0; rw [hA] at h0; exact h0
theorem set_mem {α : Type} {l : List α} {i : Nat} {x y : α} (h : y ∈ l.set i x) : y = x ∨ y ∈ l := by
 rcases List.mem_or_eq_of_mem_set h with h1 | h1
 ·exact .inr h1
 ·exact .inl h1
/-- Two entries speak of two blocks. -/
def Ent.apart (e f : Ent) : Prop := e.block = none ∨ e.block ≠ f.block
theorem Ent.apart.symm {e f : Ent} (h : e.apart f) : f.apart e := by
 unfold Ent.apart at *
 rcases h with h | h
 ·cases hf : f.block with
  | none => exact .inl rfl
  | some b => right; rw [h]; simp
 ·exact .inr fun e => h e.symm
/-- From w0 to w: nothing that was there has changed but blocks in X; and these entries hold, each of another block. -/
structure Fr (X : List Nat) (w0 w : World) (es : List Ent) : Prop where
 os : w.os = w0.os
 tape : w.tape = w0.tape
 output : w.output = w0.output
 size : w0.heap.size ≤ w.heap.size
 block : ∀ k, k < w0.heap.size → k ∉ X → w.heap[k]? = w0.heap[k]?
 holds : ∀ (i : Nat) (e : Ent), es[i]? = some e → e.holds w
 fresh : ∀ (i : Nat) (e : Ent), es[i]? = some e → ∀ b, e.block = some b → w0.heap.size ≤ b ∨ b ∈ X
 apart : ∀ (i j : Nat) (e f : Ent), es[i]? = some e → es[j]? = some f → i ≠ j → e.apart f
section
variable {X : List Nat} {w0 w w' : World} {es : List Ent}
theorem Fr.nil (w : World) : Fr [] w w [] := ⟨rfl, rfl, rfl, Nat.le_refl _, fun _ _ _ => rfl, fun i e h => by simp at h, fun i e h => by simp at h, fun i j e f h => by simp at h⟩
/-- A call that was handed one block. -/
theorem Fr.one {g : Nat} {t : TypeId} {cs : List Value} (h : w.heap[g]? = some (.cells cs.toArray t (0, 0))) : Fr [g] w w [.blk g t cs] := by
 refine ⟨rfl, rfl, rfl, Nat.le_refl _, fun _ _ _ => rfl, fun i e he => ?_, fun i e he b hb => ?_, fun i j e f he hf hij => ?_⟩
 ·match i, he with
  | 0, he => injection he with he; subst he; exact h
 ·match i, he with
  | 0, he => injection he with he; subst he; injection hb with hb; subst hb; exact .inr (by simp)
 ·match i, j, he, hf with
  | 0, 0, _, _ => exact absurd rfl hij
/-- The world goes on; an entry's block may change: then it must hold anew. -/
theorem Fr.step (h : Fr X w0 w es) {row : Option Nat} (hg : w.grownBy w' row) (hrow : ∀ (i : Nat) (e : Ent), es[i]? = some e → e.block = none ∨ e.block ≠ row) (hX : ∀ k, row = some k → w0.heap.size ≤ k ∨ k ∈ X) : Fr X w0 w' es := by
 refine ⟨hg.os.trans h.os, hg.tape.trans h.tape, hg.output.trans h.output, Nat.le_trans h.size hg.size, fun k hk hx => ?_, fun i e he => Ent.keep (h.holds i e he) hg (hrow i e he), h.fresh, h.apart⟩
 rw [hg.block k (Nat.lt_of_lt_of_le hk h.size) (fun e => (hX k e.symm).elim (fun h1 => by omega) hx)]
 exact h.block k hk hx
theorem Fr.grow (h : Fr X w0 w es) (hg : w.grownBy w' none) : Fr X w0 w' es :=
 h.step hg (fun i e he => by cases hb : e.block <;> simp) (fun k hk => by cases hk)
theorem grown_of_below (hb : Below w.heap.size w w') : w.grownBy w' none := ⟨hb.os, hb.tape, hb.output, hb.size, fun k hk _ => hb.block k hk⟩
theorem below_of_grown (hb : w.grownBy w' none) : Below w.heap.size w w' := ⟨hb.os, hb.tape, hb.output, hb.size, fun k hk => hb.block k hk (by simp)⟩
theorem Fr.call (h : Fr X w0 w es) (hb : Below w.heap.size w w') : Fr X w0 w' es := h.grow (grown_of_below hb)
theorem Fr.drew (h : Fr X w0 w es) : Fr X w0 w.drew es := h.grow ⟨rfl, rfl, rfl, Nat.le_refl _, fun _ _ _ => rfl⟩
theorem Fr.drewN (h : Fr X w0 w es) (n : Nat) : Fr X w0 (w.drewN n) es := h.grow ⟨rfl, rfl, rfl, Nat.le_refl _, fun _ _ _ => rfl⟩
/-- One entry more. -/
theorem Fr.push (h : Fr X w0 w es) {e : Ent} (he : e.holds w) (hf : ∀ b, e.block = some b → (w0.heap.size ≤ b ∨ b ∈ X) ∧ ∀ (i : Nat) (f : Ent), es[i]? = some f → f.block ≠ some b) : Fr X w0 w (e :: es) := by
 refine ⟨h.os, h.tape, h.output, h.size, h.block, fun i f hi => ?_, fun i f hi b hb => ?_, fun i j f f' hi hj hij => ?_⟩
 ·match i, hi with
  | 0, hi => injection hi with hi; subst hi; exact he
  | i + 1, hi => exact h.holds i f hi
 ·match i, hi with
  | 0, hi => injection hi with hi; subst hi; exact (hf b hb).1
  | i + 1, hi => exact h.fresh i f hi b hb
 ·have key : ∀ (j : Nat) (f : Ent), es[j]? = some f → e.apart f := fun j f hj => by
   unfold Ent.apart
   cases hb : e.block with
   | none => exact .inl rfl
   | some b => exact .inr fun he => (hf b hb).2 j f hj he.symm
  match i, j, hi, hj with
  | 0, 0, _, _ => exact absurd rfl hij
  | 0, j + 1, hi, hj => injection hi with hi; subst hi; exact key j f' hj
  | i + 1, 0, hi, hj => injection hj with hj; subst hj; exact (key i f hi).symm
  | i + 1, j + 1, hi, hj => exact h.apart i j f f' hi hj (by omega)
theorem Fr.old (h : Fr X w0 w es) {i : Nat} {f : Ent} (hi : es[i]? = some f) {b : Nat} (hb : w.heap.size ≤ b) : f.block ≠ some b := fun he => by
 have := Ent.lt (h.holds i f hi) he
 omega
/-- One entry more, of a block that was not there. -/
theorem Fr.more (h : Fr X w0 w es) (hg : w.grownBy w' none) {e : Ent} (he : e.holds w') (hb : ∀ b, e.block = some b → w.heap.size ≤ b) : Fr X w0 w' (e :: es) :=
 (h.grow hg).push he fun b he => ⟨.inl (Nat.le_trans h.size (hb b he)), fun _ _ hi => h.old hi (hb b he)⟩
theorem Fr.alloc (h : Fr X w0 w es) (t : TypeId) (cs : List Value) : Fr X w0 (w.alloc (.cells cs.toArray t)) (.blk w.heap.size t cs :: es) :=
 h.more (World.grownBy_alloc w _ none) (heap_alloc_new w _) fun b hb => by injection hb with hb; omega
/-- What a callee hands back. -/
theorem Fr.got (h : Fr X w0 w es) {e : TypeId} {size n : Nat} {v : Value} {xs : List Value} (hb : Below w.heap.size w w') (ho : w'.ownsRow w.heap.size e size v n xs) : Fr X w0 w' (.own w0.heap.size e size v n xs :: es) := by
 refine h.more (grown_of_below hb) (e := .own w0.heap.size e size v n xs) ?_ fun b hb => (ho.lt b hb).1
 refine ⟨ho.1, ho.2.imp id ?_⟩
 rintro ⟨g, cap, cur, hv, hg, rest⟩
 exact ⟨g, cap, cur, hv, Nat.le_trans h.size hg, rest⟩
theorem Fr.gotB (h : Fr X w0 w es) {e : TypeId} {v : Value} {l : List UInt8} (hb : Below w.heap.size w w') (ho : OwnB w' w.heap.size e v l) : Fr X w0 w' (.bytes w0.heap.size e v l :: es) := h.got hb ho.own
/-- One entry changes. -/
theorem Fr.put (h : Fr X w0 w es) {i : Nat} {e e' : Ent} (hi : es[i]? = some e) (hg : w.grownBy w' e.block) (he : e'.holds w') (hb : e'.block = e.block ∨ ∀ b, e'.block = some b → w.heap.size ≤ b) : Fr X w0 w' (es.set i e') := by
 have hil : i < es.length := (List.getElem?_eq_some_iff.1 hi).1
 have hset : ∀ (j : Nat) (f : Ent), (es.set i e')[j]? = some f → j = i ∧ f = e' ∨ j ≠ i ∧ es[j]? = some f := fun j f hj => by
  rw [List.getElem?_set] at hj
  by_cases hij : i = j
  ·rw [if_pos hij, if_pos hil] at hj; injection hj with hj; exact .inl ⟨hij.symm, hj.symm⟩
  ·rw [if_neg hij] at hj; exact .inr ⟨fun h => hij h.symm, hj⟩
 have hfresh : ∀ b, e'.block = some b → (w0.heap.size ≤ b ∨ b ∈ X) := fun b hb' => by
  rcases hb with h1 | h1
  ·exact h.fresh i e hi b (h1 ▸ hb')
  ·exact .inl (Nat.le_trans h.size (h1 b hb'))
 have hother : ∀ (j : Nat) (f : Ent), j ≠ i → es[j]? = some f → e'.apart f := fun j f hji hj => by
  rcases hb with h1 | h1
  ·have := h.apart i j e f hi hj (fun h => hji h.symm)
   unfold Ent.apart at *
   rw [h1]; exact this
  ·unfold Ent.apart
   cases hb' : e'.block with
   | none => exact .inl rfl
   | some b => exact .inr fun he => h.old hj (h1 b hb') he.symm
 refine ⟨hg.os.trans h.os, hg.tape.trans h.tape, hg.output.trans h.output, Nat.le_trans h.size hg.size, fun k hk hx => ?_, fun j f hj => ?_, fun j f hj b hb' => ?_, fun j k f f' hj hk hjk => ?_⟩
 ·rw [hg.block k (Nat.lt_of_lt_of_le hk h.size) (fun he => (h.fresh i e hi k he.symm).elim (fun h1 => by omega) hx)]
  exact h.block k hk hx
 ·rcases hset j f hj with ⟨_, rfl⟩ | ⟨hji, hj⟩
  ·exact he
  ·exact Ent.keep (h.holds j f hj) hg (h.apart j i f e hj hi hji)
 ·rcases hset j f hj with ⟨_, rfl⟩ | ⟨hji, hj⟩
  ·exact hfresh b hb'
  ·exact h.fresh j f hj b hb'
 ·rcases hset j f hj with ⟨h1, h2⟩ | ⟨hji, hj⟩
  ·rcases hset k f' hk with ⟨h3, h4⟩ | ⟨hki, hk⟩
   ·exact absurd (h1.trans h3.symm) hjk
   ·rw [h2]; exact hother k f' hki hk
  ·rcases hset k f' hk with ⟨h3, h4⟩ | ⟨hki, hk⟩
   ·rw [h4]; exact (hother j f hji hj).symm
   ·exact h.apart j k f f' hj hk hjk
/-- Entries that are not wanted any more. -/
theorem Fr.tail {e : Ent} (h : Fr X w0 w (e :: es)) : Fr X w0 w es :=
 ⟨h.os, h.tape, h.output, h.size, h.block, fun i f hi => h.holds (i + 1) f hi, fun i f hi => h.fresh (i + 1) f hi, fun i j f f' hi hj hij => h.apart (i + 1) (j + 1) f f' hi hj (by omega)⟩
theorem Fr.drop1 {e e' : Ent} (h : Fr X w0 w (e :: e' :: es)) : Fr X w0 w (e :: es) :=
 (h.tail.tail).push (h.holds 0 e rfl) fun b hb => ⟨h.fresh 0 e rfl b hb, fun i f hi he => by
  rcases h.apart 0 (i + 2) e f rfl hi (by omega) with h1 | h1
  ·rw [h1] at hb; cases hb
  ·exact h1 (hb.trans he.symm)⟩
/-- What comes out of it. -/
theorem Fr.below {es : List Ent} (h : Fr [] w0 w es) : Below w0.heap.size w0 w := ⟨h.os, h.tape, h.output, h.size, fun k hk => h.block k hk (by simp)⟩
theorem Fr.grown {g : Nat} {es : List Ent} (h : Fr [g] w0 w es) : w0.grownBy w (some g) := ⟨h.os, h.tape, h.output, h.size, fun k hk hne => h.block k hk (by simpa using hne)⟩
theorem Fr.blk (h : Fr X w0 w es) {i g : Nat} {t : TypeId} {cs : List Value} (hi : es[i]? = some (.blk g t cs)) : w.heap[g]? = some (.cells cs.toArray t (0, 0)) := h.holds i _ hi
theorem Fr.lt (h : Fr X w0 w es) {i g : Nat} {t : TypeId} {cs : List Value} (hi : es[i]? = some (.blk g t cs)) : g < w.heap.size := Ent.lt (h.holds i _ hi) rfl
theorem Fr.own (h : Fr X w0 w es) {i b : Nat} {e : TypeId} {v : Value} {l : List UInt8} (hi : es[i]? = some (.bytes b e v l)) : OwnB w b e v l := ⟨h.holds i _ hi⟩
theorem Fr.rdOwn (h : Fr X w0 w es) {i b : Nat} {e : TypeId} {size n m : Nat} {A : Option Addr} {c : Nat} {xs : List Value} (hi : es[i]? = some (.own b e size (.slice A n c) m xs)) : Rd w (· < w.heap.size) A size n xs := by
 have ho : w.ownsRow b e size (.slice A n c) m xs := h.holds i _ hi
 have hm : m = n := by
  rcases ho.2 with ⟨h1, h2⟩ | ⟨g, cap, cur, h1, _⟩
  ·injection h1; omega
  ·injection h1; omega
 subst hm
 exact (Rd.of_own ho).mono fun k hk => hk.2
theorem Fr.rd (h : Fr X w0 w es) {i size n : Nat} {A : Option Addr} {xs : List Value} (hi : es[i]? = some (.rd A size n xs)) : Rd w (· < w.heap.size) A size n xs := (h.holds i _ hi).1
end
/-- A part of the cells is replaced. -/
def spl (cs : List Value) (off : Nat) (ds : List Value) : List Value := cs.take off ++ ds ++ cs.drop (off + ds.length)
theorem spl_length {cs ds : List Value} {off : Nat} (h : off + ds.length ≤ cs.length) : (spl cs off ds).length = cs.length := by unfold spl; simp; omega
theorem setRow_grown (w : World) (g : Nat) (cs : Array Value) : w.grownBy (w.setRow g cs) (some g) := ⟨rfl, rfl, rfl, by simp, fun k hk hne => setRow_other w g k cs (fun h => hne (by rw [h]))⟩
section laws
variable {P : Program} {o : Oper} {a : Act} {X : List Nat} {w0 w : World} {es : List Ent} {K : Act → World → Prop} {Q : Exit → Act → World → Prop}
variable {i g : Nat} {t : TypeId} {cs : List Value}
theorem run_isAgg {e : TypeId} {d : TypeDesc} (hu : P.underlying e = some d) (w : World) : (isAgg e).run P w = .ok (aggT d) w := by
 unfold isAgg
 rw [Sem.run_bind, run_underlying hu w]
 cases d <;> simp_all [aggT]
/-- One cell of a block is read. -/
theorem wp_fld (hF : Fr X w0 w es) (hi : es[i]? = some (.blk g t cs)) {e : TypeId} {d : TypeDesc} (hu : P.underlying e = some d) (hd : aggT d = false) {off : Nat} (ho : IsLd o a e ⟨g, off, none⟩) {u : Value} (hc : cs[off]? = some u)
  (k : K (a.put o.dst u) w) : o.wp P a w K Q := by
 obtain ⟨x, ho, hx⟩ := ho
 have hcell : w.cell? ⟨g, off, none⟩ = some u := by rw [cell_of_row w g off _ t (0, 0) (hF.blk hi)]; simpa using hc
 have hagg := run_isAgg hu w
 rw [hd] at hagg
 refine wp_run (v := u) (w' := w) ?_ k
 unfold execOp
 simp [ho, hx, Instr.loadAt, Instr.sureAddr, loadVar, hagg, hcell]
theorem rangeAt_blk (hF : Fr X w0 w es) (hi : es[i]? = some (.blk g t cs)) {off : Nat} {ds : List Value} (hc : (cs.drop off).take ds.length = ds) : w.rangeAt g off ds := by
 intro j v hv
 rw [cell_of_row w g (off + j) _ t (0, 0) (hF.blk hi)]
 rw [← hc, List.getElem?_take] at hv
 split at hv
 ·rw [List.getElem?_drop] at hv; simpa using hv
 ·cases hv
/-- A part of a block is read: an array, or all of it. -/
theorem wp_fldA (hF : Fr X w0 w es) (hi : es[i]? = some (.blk g t cs)) {e : TypeId} {d : TypeDesc} (hu : P.underlying e = some d) (hd : aggT d = true) {off : Nat} (ho : IsLd o a e ⟨g, off, none⟩) {ds : List Value}
  (hs : (P.info? e).map (·.size) = some ds.length) (hc : (cs.drop off).take ds.length = ds) (k : K (a.put o.dst (.agg ds.toArray)) w) : o.wp P a w K Q := by
 obtain ⟨x, ho, hx⟩ := ho
 exact wp_load_mid e x ho g off hx ds d (rangeAt_blk hF hi hc) hu (by cases d <;> simp_all [aggT, TypeDesc.isRow]) hs k
/-- Cells are stored into a block. -/
theorem run_storeF (hF : Fr X w0 w es) (hi : es[i]? = some (.blk g t cs)) {off : Nat} {ds : List Value} (hl : off + ds.length ≤ cs.length) (h1 : ∀ u ∈ ds, u.oneCell' = true) :
  (storeCells ⟨g, off, none⟩ ds).run P w = .ok () (w.setRow g (spl cs off ds).toArray) ∧ Fr X w0 (w.setRow g (spl cs off ds).toArray) (es.set i (.blk g t (spl cs off ds))) := by
 have h := run_storeCells_at P g off t ds 0 cs.toArray w (hF.blk hi) (by simpa using hl) h1
 refine ⟨by simpa [spl] using h, hF.put hi (setRow_grown w g _) (setRow_heap w g _ _ t _ (hF.blk hi)) (.inl rfl)⟩
theorem wp_fst (hF : Fr X w0 w es) (hi : es[i]? = some (.blk g t cs)) {e : TypeId} {off : Nat} {v : Value} (ho : IsSt o a e ⟨g, off, none⟩ v) (hs : (P.info? e).map (·.size) = some 1) (hv : v.cells = #[v]) (h1 : v.oneCell' = true) (hl : off < cs.length)
  (k : ∀ w', Fr X w0 w' (es.set i (.blk g t (spl cs off [v]))) → w'.heap.size = w.heap.size → K (a.put o.dst undef) w') : o.wp P a w K Q := by
 obtain ⟨x, y, ho, hx, hy⟩ := ho
 obtain ⟨hr, hF'⟩ := run_storeF (P := P) hF hi (off := off) (ds := [v]) (by simp; omega) (by simpa using h1)
 obtain ⟨j, hj, hsz⟩ := Option.map_eq_some_iff.1 hs
 unfold Oper.wp execOp
 simp only [ho, hx, hy, Instr.storeAt, Instr.sureAddr, storeVar, Sem.run_bind, Sem.run_pure, Result.andThen_ok]
 simp [sizeOf, typeInfo, hj, hsz, hv, hr]
 exact k _ hF' (by simp)
theorem wp_fstA (hF : Fr X w0 w es) (hi : es[i]? = some (.blk g t cs)) {e : TypeId} {off : Nat} {ds : List Value} (ho : IsSt o a e ⟨g, off, none⟩ (.agg ds.toArray)) (hs : (P.info? e).map (·.size) = some ds.length) (h1 : ∀ u ∈ ds, u.oneCell' = true) (hl : off + ds.length ≤ cs.length)
  (k : ∀ w', Fr X w0 w' (es.set i (.blk g t (spl cs off ds))) → w'.heap.size = w.heap.size → K (a.put o.dst undef) w') : o.wp P a w K Q := by
 obtain ⟨x, y, ho, hx, hy⟩ := ho
 obtain ⟨hr, hF'⟩ := run_storeF (P := P) hF hi hl h1
 obtain ⟨j, hj, hsz⟩ := Option.map_eq_some_iff.1 hs
 unfold Oper.wp execOp
 simp only [ho, hx, hy, Instr.storeAt, Instr.sureAddr, storeVar, Sem.run_bind, Sem.run_pure, Result.andThen_ok]
 simp [sizeOf, typeInfo, hj, hsz, Value.cells, hr]
 exact k _ hF' (by simp)
/-- A new variable, zero. -/
theorem wp_falloc (hF : Fr X w0 w es) {e : TypeId} (ho : o.op = .alloc e) {z : Value} (hz : (P.info? e).map (·.zero) = some (some z)) (hc : z.cells = cs.toArray)
  (k : ∀ w' g, Fr X w0 w' (.blk g e cs :: es) → w'.heap.size = w.heap.size + 1 → K (a.put o.dst (.pointer (some ⟨g, 0, none⟩))) w') : o.wp P a w K Q := by
 obtain ⟨j, hj, hzz⟩ := Option.map_eq_some_iff.1 hz
 refine wp_run (v := .pointer (some ⟨w.heap.size, 0, none⟩)) (w' := w.alloc (.cells cs.toArray e)) ?_ (k _ _ (hF.alloc e cs) (by simp))
 unfold execOp
 simp [ho, Instr.alloc, zeroValue, typeInfo, hj, hzz, newVar, newRow, hc]
/-- A new variable that holds a value. -/
theorem wp_fbox (hF : Fr X w0 w es) {e : TypeId} {x : Operand} (ho : o.op = .box e x) {v : Value} (hx : a.eval x = v) (hc : v.cells = cs.toArray)
  (k : ∀ w' g, Fr X w0 w' (.blk g e cs :: es) → w'.heap.size = w.heap.size + 1 → K (a.put o.dst (.pointer (some ⟨g, 0, none⟩))) w') : o.wp P a w K Q := by
 refine wp_run (v := .pointer (some ⟨w.heap.size, 0, none⟩)) (w' := w.alloc (.cells cs.toArray e)) ?_ (k _ _ (hF.alloc e cs) (by simp))
 unfold execOp
 simp [ho, hx, Instr.box, newVar, newRow, hc]
/-- Bytes appended to bytes that the call owns. -/
theorem wp_fapp {sl e : TypeId} (T : SlT P sl e 1 1 (.int .u8 0)) (hF : Fr X w0 w es) {b : Nat} {v : Value} {l : List UInt8} (hi : es[i]? = some (.bytes b e v l)) (hb : b ≤ w0.heap.size) {S : Nat → Prop} {A : Option Addr} {m c : Nat} {l' : List UInt8} (hr : Rd w S A 1 m (l'.map bv))
  (ho : IsApp o a sl v (.slice A m c)) (hroom : l.length + m ≤ 140737488355328)
  (k : ∀ v' w', Fr X w0 w' (es.set i (.bytes b e v' (l ++ l'))) → w.heap.size ≤ w'.heap.size → K (a.put o.dst v') w') : o.wp P a w K Q := by
 have hown := hF.own hi
 have hm := hr.bytes_len
 have hbw : b ≤ w.heap.size := Nat.le_trans hb hF.size
 refine wp_app T hown.own hr ho (bv_one _) (by unfold maxLen; omega) (by omega) hbw fun v' w' h2 h3 h4 => k v' w' (hF.put hi h3 ?_ (h4.imp id fun h b hb => ?_)) h3.size
 ·show w'.ownsRow b e 1 v' (l ++ l').length ((l ++ l').map bv)
  rw [List.map_append, List.length_append, hm]; exact h2
 ·have hb : v'.ownBlock = some b := hb
  rw [h] at hb; injection hb with hb; omega
/-- Bytes copied into a part of a block. -/
theorem wp_fcopy {dT sT el : TypeId} (hu : P.underlying dT = some (.slice el)) (hs : (P.info? el).map (·.size) = some 1) (hF : Fr X w0 w es) (hi : es[i]? = some (.blk g t cs)) {S : Nat → Prop} {A : Option Addr} {off n m c dc : Nat} {xs : List Value} (hr : Rd w S A 1 m xs) (h1 : ∀ u ∈ xs, u.oneCell' = true)
  {d s : Operand} (ho : o.op = .call { callee := .builtin .copy, args := #[d, s], argTypes := #[dT, sT] }) (hd : a.eval d = .slice (some ⟨g, off, none⟩) n dc) (hsrc : a.eval s = .slice A m c) (hl : off + n ≤ cs.length)
  (k : ∀ w', Fr X w0 w' (es.set i (.blk g t (spl cs off (xs.take n)))) → w'.heap.size = w.heap.size → K (a.put o.dst (goInt (Nat.min m n))) w') : o.wp P a w K Q := by
 have hlen : xs.length = m := by simpa using hr.len
 rcases Nat.eq_zero_or_pos m with h0 | h0
 ·subst h0
  have hx : xs = [] := List.eq_nil_of_length_eq_zero hlen
  subst hx
  have hrun := run_copy_none (P := P) w dT sT o.type el (some ⟨g, off, none⟩) A n dc 0 c hu hs (Nat.zero_min n)
  have hsame : spl cs off (List.take n []) = cs := by unfold spl; simp
  have hset : Fr X w0 w (es.set i (.blk g t (spl cs off (List.take n [])))) := by
   rw [hsame]
   exact hF.put hi ⟨rfl, rfl, rfl, Nat.le_refl _, fun _ _ _ => rfl⟩ (hF.holds i _ hi) (.inl rfl)
  have := k w hset rfl
  unfold Oper.wp execOp
  simp only [ho, resolve, invoke, builtin, Sem.run_bind, Sem.run_pure, Result.andThen_ok, List.map_toArray, List.map_cons, List.map_nil, hd, hsrc, hrun]
  have h00 : Nat.min 0 n = 0 := Nat.zero_min n
  rw [h00] at this
  exact this
 ·obtain ⟨ad, rfl⟩ : ∃ ad, A = some ad := ⟨_, hr.some_ h0⟩
  have htl : (xs.take n).length = Nat.min m n := by rw [List.length_take, hlen, Nat.min_comm]
  have hle : (xs.take n).length ≤ n := by rw [List.length_take]; exact Nat.min_le_left _ _
  have hrun := run_copy_row (P := P) w dT sT o.type el g off n dc ad m c cs.toArray t (xs.take n) hu hs (hF.blk hi) htl (fun j v hv => by
   rw [List.getElem?_take] at hv
   split at hv
   ·exact hr.cell j v hv
   ·cases hv) (by simp; omega) (fun v hv => h1 v (List.mem_of_mem_take hv))
  have hk := k (w.setRow g (spl cs off (xs.take n)).toArray) (hF.put hi (setRow_grown w g _) (setRow_heap w g _ _ t _ (hF.blk hi)) (.inl rfl)) (by simp)
  unfold Oper.wp execOp
  simp only [ho, resolve, invoke, builtin, Sem.run_bind, Sem.run_pure, Result.andThen_ok, List.map_toArray, List.map_cons, List.map_nil, hd, hsrc, hrun]
  rw [htl]
  have : (Array.toList cs.toArray).take off ++ xs.take n ++ (Array.toList cs.toArray).drop (off + Nat.min m n) = spl cs off (xs.take n) := by unfold spl; rw [htl]
  rw [this]
  exact hk
end laws
end Go.Proofs.YtlhicfpmlncomaaGreatDoor

namespace Go.Proofs.YtlhicfpmlncomaaGreatDoor
open Go.RowKit
theorem fold_set (off : Nat) : ∀ (ds : List Value) (k : Nat) (cs : Array Value), off + k + ds.length ≤ cs.size → (ds.zipIdx k).foldl (fun cs p => cs.setIfInBounds (off + p.2) p.1) cs = (spl cs.toList (off + k) ds).toArray
 | [], k, cs, h => by simp [spl]
 | v :: ds, k, cs, h => by
  simp only [List.length_cons] at h
  rw [List.zipIdx_cons, List.foldl_cons, fold_set off ds (k + 1) (cs.setIfInBounds (off + k) v) (by simp; omega)]
  have e := list_seg_step cs.toList (off + k) v ds (by simp; omega)
  congr 1
  unfold spl
  simpa [Array.toList_setIfInBounds, Nat.add_assoc] using e
theorem fill_step {place : Nat → Option (Nat × Nat)} {cells : List Value} {i off size : Nat} {v : Value} {rest : List (Nat × Value)} (hp : place i = some (off, size)) (hs : v.cells.size = size) (hl : off + size ≤ cells.length) :
  Instr.fill place cells.toArray ((i, v) :: rest) = Instr.fill place (spl cells off v.cells.toList).toArray rest := by
 have h := fold_set off v.cells.toList 0 cells.toArray (by simp; omega)
 have h2 : (v.cells.zipIdx.foldl (fun cs (c, j) => cs.setIfInBounds (off + j) c) cells.toArray) = (spl cells off v.cells.toList).toArray := by
  rw [← Array.foldl_toList, Array.toList_zipIdx]
  simpa using h
 rw [Instr.fill, hp]
 have hc : (decide (v.cells.size ≠ size) || decide (off + v.cells.size > cells.toArray.size)) = false := by simp; omega
 simp only [hc, Bool.false_eq_true, if_false]
 rw [h2]
section laws
variable {P : Program} {o : Oper} {a : Act} {X : List Nat} {w0 w : World} {es : List Ent} {K : Act → World → Prop} {Q : Exit → Act → World → Prop}
variable {i g : Nat} {t : TypeId} {cs : List Value}
/-- A struct is built of parts. -/
theorem wp_fbuild {fs : Array Field} (hu : P.underlying t = some (.struct fs)) {z : Value} (hz : (P.info? t).map (·.zero) = some (some z)) {pl : List (Nat × Nat)} (hp : fs.toList.map (fun f => (f.offset, (P.info? f.type).map (·.size))) = pl.map (fun p => (p.1, some p.2)))
  {parts : Array (Nat × Operand)} (ho : o.op = .build t parts) {vs : List (Nat × Value)} (hvs : (parts.map fun p => (p.1, a.eval p.2)).toList = vs)
  (hf : Instr.fill (fun i : Nat => pl[i]?) z.cells vs = some cs.toArray) (k : K (a.put o.dst (.agg cs.toArray)) w) : o.wp P a w K Q := by
 obtain ⟨j, hj, hzz⟩ := Option.map_eq_some_iff.1 hz
 refine wp_run (v := .agg cs.toArray) (w' := w) ?_ k
 have hm : ∀ (fl : List Field) (pl : List (Nat × Nat)), fl.map (fun f => (f.offset, (P.info? f.type).map (·.size))) = pl.map (fun p => (p.1, some p.2)) → (fl.mapM (m := Sem) fun f => do pure (f.offset, ← sizeOf f.type)).run P w = .ok pl w := by
  intro fl
  induction fl with
  | nil => intro pl h; cases pl with
   | nil => simp
   | cons p pl => simp at h
  | cons f fl ih => intro pl h; cases pl with
   | nil => simp at h
   | cons p pl =>
    simp only [List.map_cons, List.cons.injEq, Prod.mk.injEq] at h
    obtain ⟨q, hq, hsz⟩ := Option.map_eq_some_iff.1 h.1.2
    have h1 := ih pl h.2
    have h2 : (sizeOf f.type).run P w = .ok p.2 w := by simp [sizeOf, typeInfo, hq, hsz]
    simp only [List.mapM_cons, Sem.run_bind, h2, Result.andThen_ok, Sem.run_pure, h1, h.1.1]
 have hmm := hm fs.toList pl hp
 have hzc : (zeroValue t).run P w = .ok z w := by simp [zeroValue, typeInfo, hj, hzz]
 have hpm : ((fs.mapM (m := Sem) fun f => do pure (f.offset, ← sizeOf f.type)).run P w) = .ok pl.toArray w := by
  rw [← Array.toArray_toList (xs := fs)]
  rw [List.mapM_toArray, Sem.run_map, hmm, Result.andThen_ok]
 have hvs' : (parts.map fun p => (p.1, a.eval p.2)).toList = vs := hvs
 have hfl : Instr.fill (fun i : Nat => pl.toArray[i]?) z.cells vs = some cs.toArray := by
  have : (fun i : Nat => pl.toArray[i]?) = (fun i : Nat => pl[i]?) := by funext i; simp
  rw [this]; exact hf
 unfold execOp
 simp only [ho, Instr.build, Sem.run_bind, hzc, run_underlying hu, hpm, Result.andThen_ok]
 simp only [hvs', hfl, Sem.run_pure, Result.andThen_ok]
/-- The parts of a slice literal, in order. -/
def parts (k : Nat) : List Value → List (Nat × Value)
 | [] => []
 | v :: vs => (k, v) :: parts (k + 1) vs
theorem fill_parts : ∀ (vs : List Value) (k : Nat) (cs : List Value), k + vs.length ≤ cs.length → (∀ v ∈ vs, v.cells = #[v]) → Instr.fill (fun i => some (i * 1, 1)) cs.toArray (parts k vs) = some (spl cs k vs).toArray
 | [], k, cs, _, _ => by simp [parts, Instr.fill, spl]
 | v :: vs, k, cs, h, hc => by
  simp only [List.length_cons] at h
  have hv := hc v (by simp)
  rw [parts, fill_step (off := k) (size := 1) (by simp) (by simp [hv]) (by omega), hv, fill_parts vs (k + 1) _ (by rw [spl_length (by simp; omega)]; omega) (fun u hu => hc u (by simp [hu]))]
  congr 2
  unfold spl
  rw [List.take_append_of_le_length (by simp; omega)]
  have h1 : k + 1 = (cs.take k ++ [v]).length := by simp; omega
  have h2 : List.take (k + 1) (List.take k cs ++ [v]) = cs.take k ++ [v] := by rw [h1]; exact List.take_length
  rw [h2]
  have h3 : List.drop (k + 1 + vs.length) (List.take k cs ++ [v] ++ List.drop (k + 1) cs) = List.drop (k + 1 + vs.length) cs := by
   rw [List.drop_append, List.drop_of_length_le (by simp; omega), List.nil_append, List.drop_drop]
   congr 1
   simp; omega
  simp only [List.length_cons, List.length_nil, Nat.zero_add]
  have h3' : List.drop (k + 1 + vs.length) (List.take k cs ++ [v] ++ List.drop (k + 1) cs) = List.drop (k + (vs.length + 1)) cs := by rw [h3]; congr 1; omega
  rw [h3']
  simp
/-- A slice literal of single cells. -/
theorem wp_fbsl {sl e : TypeId} {bytes : Nat} {z : Value} (T : SlT P sl e 1 bytes z) (hF : Fr X w0 w es) {n : Nat} {ps : Array (Nat × Operand)} (ho : o.op = .buildSlice sl n ps) {vs : List Value}
  (hvs : (ps.map fun p => (p.1, a.eval p.2)).toList = parts 0 vs) (hn : vs.length = n) (h16 : n ≤ 16777216) (hc : ∀ v ∈ vs, v.cells = #[v])
  (k : ∀ w' g, Fr X w0 w' (.own w0.heap.size e 1 (.slice (some ⟨g, 0, none⟩) n n) n vs :: es) → w'.heap.size = w.heap.size + 1 → K (a.put o.dst (.slice (some ⟨g, 0, none⟩) n n)) w') : o.wp P a w K Q := by
 obtain ⟨i, hi, hz, hs, hby⟩ := info_parts T.info
 have hzc : (zeroValue e).run P w = .ok z w := by simp [zeroValue, typeInfo, hi, hz]
 have hsz : (sizeOf e).run P w = .ok 1 w := by simp [sizeOf, typeInfo, hi, hs]
 have hown : (w.alloc (.cells vs.toArray e)).ownsRow w0.heap.size e 1 (.slice (some ⟨w.heap.size, 0, none⟩) n n) n vs := by
  have := World.ownsRow_lit (e := e) (size := 1) (base := w0.heap.size) w vs.toArray n hF.size (by unfold maxLen; omega) (by simp [hn])
  simpa using this
 have hF' := hF.more (World.grownBy_alloc w (.cells vs.toArray e) none) (e := .own w0.heap.size e 1 (.slice (some ⟨w.heap.size, 0, none⟩) n n) n vs) hown (fun b hb => by
  have hb : some w.heap.size = some b := hb
  injection hb with hb; omega)
 refine wp_run (v := .slice (some ⟨w.heap.size, 0, none⟩) n n) (w' := w.alloc (.cells vs.toArray e)) ?_ (k _ _ hF' (by simp))
 unfold execOp
 have hle : ¬ n * 1 > 2 ^ 24 := by omega
 have hm := Nat.mul_one n
 by_cases h0 : n = 0
 ·subst h0
  have hv0 : vs = [] := List.eq_nil_of_length_eq_zero hn
  subst hv0
  have hvs' : (ps.map fun p => (p.1, a.eval p.2)).toList = [] := hvs
  simp only [ho, Instr.buildSlice, Sem.run_bind, run_underlying T.und, hsz, Result.andThen_ok, hvs']
  simp [Instr.fill, newRow, Array.range_zero']
 ·have hfill := fill_parts vs 0 (List.replicate n z) (by simp; omega) hc
  have hspl : spl (List.replicate n z) 0 vs = vs := by unfold spl; simp [hn]
  rw [hspl] at hfill
  have hcell : z.cells.size = 1 := T.zs
  have hmap : (Array.range n).map (fun q => z.cells[q % z.cells.size]!) = (List.replicate n z.cells[0]!).toArray := by
   rw [hcell]
   apply Array.ext'
   simp [Nat.mod_one, List.eq_replicate_iff]
  have hf2 : Instr.fill (fun i => some (i * 1, 1)) (List.replicate n z.cells[0]!).toArray (parts 0 vs) = some vs.toArray := by
   rw [fill_parts vs 0 _ (by simp; omega) hc]
   unfold spl; simp [hn]
  have hvs' : (ps.map fun p => (p.1, a.eval p.2)).toList = parts 0 vs := hvs
  have hle' : (n * 1 > 2 ^ 24) = False := eq_false hle
  have h0' : (n * 1 = 0) = False := eq_false (by omega)
  simp only [ho, Instr.buildSlice, Sem.run_bind, run_underlying T.und, hsz, Result.andThen_ok, hvs', hle', h0', if_false, hzc, Sem.run_pure]
  rw [hm, hmap, hf2]
  simp [newRow]
end laws
end Go.Proofs.YtlhicfpmlncomaaGreatDoor

namespace Go.Proofs.YtlhicfpmlncomaaGreatDoor
open Go.RowKit
theorem take_all (cs : List Value) : (cs.drop 0).take cs.length = cs := by rw [List.drop_zero]; exact List.take_length
theorem spl_all {cs ds : List Value} (h : ds.length = cs.length) : spl cs 0 ds = ds := by
 unfold spl
 rw [List.take_zero, List.nil_append, Nat.zero_add, List.drop_of_length_le (by omega), List.append_nil]
section laws
variable {P : Program} {o : Oper} {a : Act} {X : List Nat} {w0 w : World} {es : List Ent} {K : Act → World → Prop} {Q : Exit → Act → World → Prop}
variable {i g : Nat} {t : TypeId} {cs : List Value}
/-- A result that lies in a cell of the call's own: a struct or an array. -/
theorem run_loadF (hF : Fr X w0 w es) (hi : es[i]? = some (.blk g t cs)) {ty : TypeId} {d : TypeDesc} (hu : P.underlying ty = some d) (hd : aggT d = true) (hs : (P.info? ty).map (·.size) = some cs.length) :
  (loadVar ty ⟨g, 0, none⟩).run P w = .ok (.agg cs.toArray) w :=
 run_loadVar_mid w g 0 ty cs d (rangeAt_blk hF hi (by simp)) hu (by cases d <;> simp_all [aggT, TypeDesc.isRow]) hs
theorem results_cellF {fn : Func} {p : Tmp} {ty : TypeId} (h : fn.results = #[.cell p ty]) (tmps : Array Value) (hF : Fr X w0 w es) (hi : es[i]? = some (.blk g t cs)) (hp : tmps.getD p undef = .pointer (some ⟨g, 0, none⟩))
  {d : TypeDesc} (hu : P.underlying ty = some d) (hd : aggT d = true) (hs : (P.info? ty).map (·.size) = some cs.length) : (results fn tmps).run P w = .ok (.agg cs.toArray) w := by
 have hp' : tmps[p]?.getD undef = .pointer (some ⟨g, 0, none⟩) := by simpa using hp
 simp [results, h, hp', asAddr, run_loadF hF hi hu hd hs]
theorem results_cellF2 {fn : Func} {p q : Tmp} {ty : TypeId} (h : fn.results = #[.cell p ty, .tmp q]) (tmps : Array Value) (hF : Fr X w0 w es) (hi : es[i]? = some (.blk g t cs)) (hp : tmps.getD p undef = .pointer (some ⟨g, 0, none⟩))
  {d : TypeDesc} (hu : P.underlying ty = some d) (hd : aggT d = true) (hs : (P.info? ty).map (·.size) = some cs.length) : (results fn tmps).run P w = .ok (.tuple #[.agg cs.toArray, tmps.getD q undef]) w := by
 have hp' : tmps[p]?.getD undef = .pointer (some ⟨g, 0, none⟩) := by simpa using hp
 simp [results, h, hp', asAddr, run_loadF hF hi hu hd hs]
/-- A load that yields in every world in which a block is as it is known. -/
theorem yi_fld {S : World → Prop} {ops : Array Oper} (hw : Region.wanted o (yielded ops a.tmps) = true) (hS : ∀ w, S w → w.heap[g]? = some (.cells cs.toArray t (0, 0))) {e : TypeId} {d : TypeDesc} (hu : P.underlying e = some d) (hd : aggT d = false) {off : Nat} (ho : IsLd o a e ⟨g, off, none⟩) {u : Value} (hc : cs[off]? = some u) :
  YieldsIf P ops S o u a := .inl ⟨hw, fun w hw => by
 obtain ⟨x, ho, hx⟩ := ho
 have hcell : w.cell? ⟨g, off, none⟩ = some u := by rw [cell_of_row w g off _ t (0, 0) (hS w hw)]; simpa using hc
 have hagg := run_isAgg hu w
 rw [hd] at hagg
 unfold execOp
 simp [ho, hx, Instr.loadAt, Instr.sureAddr, loadVar, hagg, hcell]⟩
theorem yi_fldA {S : World → Prop} {ops : Array Oper} (hw : Region.wanted o (yielded ops a.tmps) = true) (hS : ∀ w, S w → w.heap[g]? = some (.cells cs.toArray t (0, 0))) {e : TypeId} {d : TypeDesc} (hu : P.underlying e = some d) (hd : aggT d = true) {off : Nat} (ho : IsLd o a e ⟨g, off, none⟩) {ds : List Value}
  (hs : (P.info? e).map (·.size) = some ds.length) (hc : (cs.drop off).take ds.length = ds) : YieldsIf P ops S o (.agg ds.toArray) a := by
 obtain ⟨x, ho, hx⟩ := ho
 refine yieldsIf_load_mid hw e x ho g off hx ds d (fun w hw j v hv => ?_) hu (by cases d <;> simp_all [aggT, TypeDesc.isRow]) hs
 rw [cell_of_row w g (off + j) _ t (0, 0) (hS w hw)]
 rw [← hc, List.getElem?_take] at hv
 split at hv
 ·rw [List.getElem?_drop] at hv; simpa using hv
 ·cases hv
/-- A loop that compares, up to the first that differs. -/
theorem run_cmp {α : Type} [Inhabited α] (w : World) (s0 s1 : α) (F : Nat → α → Sem (ForInStep α)) (l m : List UInt8) (hlm : l.length = m.length) (hF : ∀ (k : Nat) (c c' : UInt8), l[k]? = some c → m[k]? = some c' → (F k s0).run P w = .ok (if c == c' then .yield s0 else .done s1) w) :
  ∀ (j k : Nat), k + j = l.length → (forIn (List.range' k j) s0 F).run P w = .ok (if l.drop k == m.drop k then s0 else s1) w
 | 0, k, h => by
  rw [List.drop_of_length_le (by omega), List.drop_of_length_le (by omega)]
  simp
 | j + 1, k, h => by
  have hl : k < l.length := by omega
  have hm : k < m.length := by omega
  have h1 := hF k l[k] m[k] (by simp) (by simp)
  rw [List.range'_succ, List.forIn_cons, Sem.run_bind, h1, List.drop_eq_getElem_cons hl, List.drop_eq_getElem_cons hm]
  by_cases hc : l[k] = m[k]
  ·have ih := run_cmp w s0 s1 F l m hlm hF j (k + 1) (by omega)
   simp only [hc, beq_self_eq_true, if_true, Result.andThen_ok, ih, List.cons_beq_cons, Bool.true_and]
  ·have hb : (l[k] == m[k]) = false := by simpa using hc
   simp only [hb, Bool.false_eq_true, if_false, Result.andThen_ok, List.cons_beq_cons, Bool.false_and, Sem.run_pure]
/-- Two arrays of bytes are compared. -/
theorem run_eqBytes {e : TypeId} {n : Nat} (ht : P.underlying t = some (.array n e)) (he : P.underlying e = some (.int .u8)) (hs : (P.info? e).map (·.size) = some 1) (l m : List UInt8) (hl : l.length = n) (hm : m.length = n) (d : Nat) (w : World) :
  (Op.equalIn (d + 2) t (.agg (l.map bv).toArray) (.agg (m.map bv).toArray)).run P w = .ok (l == m) w := by
 obtain ⟨j, hj, hsz⟩ := Option.map_eq_some_iff.1 hs
 have hagg : (isAgg e).run P w = .ok false w := run_isAgg he w
 have hpart : ∀ (l : List UInt8) (k : Nat) (c : UInt8), l[k]? = some c → (part e (l.map bv).toArray (k * 1)).run P w = .ok (bv c) w := fun l k c hc => by
  simp [part, hagg, hc]
 have hcmp : ∀ c c' : UInt8, (Op.equalIn (d + 1) e (bv c) (bv c')).run P w = .ok (c == c') w := fun c c' => by
  unfold bv
  rw [run_equalIn_int w d e .u8 .u8 _ _ he]
  congr 1
  rw [Bool.eq_iff_iff, beq_iff_eq, beq_iff_eq]
  exact ⟨fun h => UInt8.toNat_inj.1 (by omega), fun h => by rw [h]⟩
 have hso : (sizeOf e).run P w = .ok 1 w := by simp [sizeOf, typeInfo, hj, hsz]
 rw [Op.equalIn]
 simp only [Sem.run_bind, run_underlying ht, Result.andThen_ok, hso, Std.Legacy.Range.forIn_eq_forIn_range']
 have hsize : (Std.Legacy.Range.mk 0 n 1 (by omega)).size = n := by simp [Std.Legacy.Range.size]
 rw [hsize, run_cmp (P := P) w (none, ()) (some false, ()) _ l m (by omega) ?_ n 0 (by omega)]
 ·simp only [List.drop_zero, Result.andThen_ok]
  cases l == m <;> simp
 ·intro k c c' hc hc'
  simp only [Sem.run_bind, hpart l k c hc, hpart m k c' hc', Result.andThen_ok, hcmp]
  cases c == c' <;> simp
end laws
section
variable {w0 w : World} {X : List Nat} {es : List Ent}
end
end Go.Proofs.YtlhicfpmlncomaaGreatDoor

namespace Go.Proofs.YtlhicfpmlncomaaGreatDoor
open Go.RowKit
section laws
variable {P : Program} {o : Oper} {a : Act} {X : List Nat} {w0 w : World} {es : List Ent} {K : Act → World → Prop} {Q : Exit → Act → World → Prop}
variable {g : Nat} {t : TypeId} {cs : List Value} {e0 e1 e2 e3 e4 e5 : Ent}
theorem wp_fld0 (hF : Fr X w0 w (.blk g t cs :: es)) {e : TypeId} {d : TypeDesc} (hu : P.underlying e = some d) (hd : aggT d = false) {off : Nat} (ho : IsLd o a e ⟨g, off, none⟩) {u : Value} (hc : cs[off]? = some u) (k : K (a.put o.dst u) w) : o.wp P a w K Q :=
 wp_fld hF (i := 0) rfl hu hd ho hc k
theorem wp_fldA0 (hF : Fr X w0 w (.blk g t cs :: es)) {e : TypeId} {d : TypeDesc} (hu : P.underlying e = some d) (hd : aggT d = true) {off : Nat} (ho : IsLd o a e ⟨g, off, none⟩) {ds : List Value} (hs : (P.info? e).map (·.size) = some ds.length) (hc : (cs.drop off).take ds.length = ds) (k : K (a.put o.dst (.agg ds.toArray)) w) : o.wp P a w K Q :=
 wp_fldA hF (i := 0) rfl hu hd ho hs hc k
theorem wp_fst0 (hF : Fr X w0 w (.blk g t cs :: es)) {e : TypeId} {off : Nat} {v : Value} (ho : IsSt o a e ⟨g, off, none⟩ v) (hs : (P.info? e).map (·.size) = some 1) (hv : v.cells = #[v]) (h1 : v.oneCell' = true) (hl : off < cs.length) {cs' : List Value} (hcs : spl cs off [v] = cs')
  (k : ∀ w', Fr X w0 w' (.blk g t cs' :: es) → w'.heap.size = w.heap.size → K (a.put o.dst undef) w') : o.wp P a w K Q := by
 subst hcs; exact wp_fst hF (i := 0) rfl ho hs hv h1 hl k
theorem wp_fstA0 (hF : Fr X w0 w (.blk g t cs :: es)) {e : TypeId} {off : Nat} {ds : List Value} (ho : IsSt o a e ⟨g, off, none⟩ (.agg ds.toArray)) (hs : (P.info? e).map (·.size) = some ds.length) (h1 : ∀ u ∈ ds, u.oneCell' = true) (hl : off + ds.length ≤ cs.length) {cs' : List Value} (hcs : spl cs off ds = cs')
  (k : ∀ w', Fr X w0 w' (.blk g t cs' :: es) → w'.heap.size = w.heap.size → K (a.put o.dst undef) w') : o.wp P a w K Q := by
 subst hcs; exact wp_fstA hF (i := 0) rfl ho hs h1 hl k
theorem wp_fcopy0 {dT sT el : TypeId} (hu : P.underlying dT = some (.slice el)) (hs : (P.info? el).map (·.size) = some 1) (hF : Fr X w0 w (.blk g t cs :: es)) {S : Nat → Prop} {A : Option Addr} {off n m c dc : Nat} {xs : List Value} (hr : Rd w S A 1 m xs) (h1 : ∀ u ∈ xs, u.oneCell' = true)
  {d s : Operand} (ho : o.op = .call { callee := .builtin .copy, args := #[d, s], argTypes := #[dT, sT] }) (hd : a.eval d = .slice (some ⟨g, off, none⟩) n dc) (hsrc : a.eval s = .slice A m c) (hl : off + n ≤ cs.length) {cs' : List Value} (hcs : spl cs off (xs.take n) = cs')
  (k : ∀ w', Fr X w0 w' (.blk g t cs' :: es) → w'.heap.size = w.heap.size → K (a.put o.dst (goInt (Nat.min m n))) w') : o.wp P a w K Q := by
 subst hcs; exact wp_fcopy hu hs hF (i := 0) rfl hr h1 ho hd hsrc hl k
theorem Fr.rdOwn0 {b : Nat} {e : TypeId} {size n m c : Nat} {A : Option Addr} {xs : List Value} (hF : Fr X w0 w (.own b e size (.slice A n c) m xs :: es)) : Rd w (· < w.heap.size) A size n xs := hF.rdOwn (i := 0) rfl
theorem wp_fld1 (hF : Fr X w0 w (e0 :: .blk g t cs :: es)) {e : TypeId} {d : TypeDesc} (hu : P.underlying e = some d) (hd : aggT d = false) {off : Nat} (ho : IsLd o a e ⟨g, off, none⟩) {u : Value} (hc : cs[off]? = some u) (k : K (a.put o.dst u) w) : o.wp P a w K Q :=
 wp_fld hF (i := 1) rfl hu hd ho hc k
theorem wp_fldA1 (hF : Fr X w0 w (e0 :: .blk g t cs :: es)) {e : TypeId} {d : TypeDesc} (hu : P.underlying e = some d) (hd : aggT d = true) {off : Nat} (ho : IsLd o a e ⟨g, off, none⟩) {ds : List Value} (hs : (P.info? e).map (·.size) = some ds.length) (hc : (cs.drop off).take ds.length = ds) (k : K (a.put o.dst (.agg ds.toArray)) w) : o.wp P a w K Q :=
 wp_fldA hF (i := 1) rfl hu hd ho hs hc k
theorem wp_fst1 (hF : Fr X w0 w (e0 :: .blk g t cs :: es)) {e : TypeId} {off : Nat} {v : Value} (ho : IsSt o a e ⟨g, off, none⟩ v) (hs : (P.info? e).map (·.size) = some 1) (hv : v.cells = #[v]) (h1 : v.oneCell' = true) (hl : off < cs.length) {cs' : List Value} (hcs : spl cs off [v] = cs')
  (k : ∀ w', Fr X w0 w' (e0 :: .blk g t cs' :: es) → w'.heap.size = w.heap.size → K (a.put o.dst undef) w') : o.wp P a w K Q := by
 subst hcs; exact wp_fst hF (i := 1) rfl ho hs hv h1 hl k
theorem wp_fstA1 (hF : Fr X w0 w (e0 :: .blk g t cs :: es)) {e : TypeId} {off : Nat} {ds : List Value} (ho : IsSt o a e ⟨g, off, none⟩ (.agg ds.toArray)) (hs : (P.info? e).map (·.size) = some ds.length) (h1 : ∀ u ∈ ds, u.oneCell' = true) (hl : off + ds.length ≤ cs.length) {cs' : List Value} (hcs : spl cs off ds = cs')
  (k : ∀ w', Fr X w0 w' (e0 :: .blk g t cs' :: es) → w'.heap.size = w.heap.size → K (a.put o.dst undef) w') : o.wp P a w K Q := by
 subst hcs; exact wp_fstA hF (i := 1) rfl ho hs h1 hl k
theorem wp_fapp1 {sl e : TypeId} (T : SlT P sl e 1 1 (.int .u8 0)) {b : Nat} {v : Value} {l : List UInt8} (hF : Fr X w0 w (e0 :: .bytes b e v l :: es)) (hb : b ≤ w0.heap.size) {S : Nat → Prop} {A : Option Addr} {m c : Nat} {l' : List UInt8} (hr : Rd w S A 1 m (l'.map bv))
  (ho : IsApp o a sl v (.slice A m c)) (hroom : l.length + m ≤ 140737488355328)
  (k : ∀ v' w', Fr X w0 w' (e0 :: Ent.bytes b e v' (l ++ l') :: es) → w.heap.size ≤ w'.heap.size → K (a.put o.dst v') w') : o.wp P a w K Q :=
 wp_fapp T hF (i := 1) rfl hb hr ho hroom k
theorem wp_fld2 (hF : Fr X w0 w (e0 :: e1 :: .blk g t cs :: es)) {e : TypeId} {d : TypeDesc} (hu : P.underlying e = some d) (hd : aggT d = false) {off : Nat} (ho : IsLd o a e ⟨g, off, none⟩) {u : Value} (hc : cs[off]? = some u) (k : K (a.put o.dst u) w) : o.wp P a w K Q :=
 wp_fld hF (i := 2) rfl hu hd ho hc k
theorem wp_fst2 (hF : Fr X w0 w (e0 :: e1 :: .blk g t cs :: es)) {e : TypeId} {off : Nat} {v : Value} (ho : IsSt o a e ⟨g, off, none⟩ v) (hs : (P.info? e).map (·.size) = some 1) (hv : v.cells = #[v]) (h1 : v.oneCell' = true) (hl : off < cs.length) {cs' : List Value} (hcs : spl cs off [v] = cs')
  (k : ∀ w', Fr X w0 w' (e0 :: e1 :: .blk g t cs' :: es) → w'.heap.size = w.heap.size → K (a.put o.dst undef) w') : o.wp P a w K Q := by
 subst hcs; exact wp_fst hF (i := 2) rfl ho hs hv h1 hl k
theorem wp_fstA2 (hF : Fr X w0 w (e0 :: e1 :: .blk g t cs :: es)) {e : TypeId} {off : Nat} {ds : List Value} (ho : IsSt o a e ⟨g, off, none⟩ (.agg ds.toArray)) (hs : (P.info? e).map (·.size) = some ds.length) (h1 : ∀ u ∈ ds, u.oneCell' = true) (hl : off + ds.length ≤ cs.length) {cs' : List Value} (hcs : spl cs off ds = cs')
  (k : ∀ w', Fr X w0 w' (e0 :: e1 :: .blk g t cs' :: es) → w'.heap.size = w.heap.size → K (a.put o.dst undef) w') : o.wp P a w K Q := by
 subst hcs; exact wp_fstA hF (i := 2) rfl ho hs h1 hl k
theorem wp_fldA3 (hF : Fr X w0 w (e0 :: e1 :: e2 :: .blk g t cs :: es)) {e : TypeId} {d : TypeDesc} (hu : P.underlying e = some d) (hd : aggT d = true) {off : Nat} (ho : IsLd o a e ⟨g, off, none⟩) {ds : List Value} (hs : (P.info? e).map (·.size) = some ds.length) (hc : (cs.drop off).take ds.length = ds) (k : K (a.put o.dst (.agg ds.toArray)) w) : o.wp P a w K Q :=
 wp_fldA hF (i := 3) rfl hu hd ho hs hc k
theorem wp_fstA3 (hF : Fr X w0 w (e0 :: e1 :: e2 :: .blk g t cs :: es)) {e : TypeId} {off : Nat} {ds : List Value} (ho : IsSt o a e ⟨g, off, none⟩ (.agg ds.toArray)) (hs : (P.info? e).map (·.size) = some ds.length) (h1 : ∀ u ∈ ds, u.oneCell' = true) (hl : off + ds.length ≤ cs.length) {cs' : List Value} (hcs : spl cs off ds = cs')
  (k : ∀ w', Fr X w0 w' (e0 :: e1 :: e2 :: .blk g t cs' :: es) → w'.heap.size = w.heap.size → K (a.put o.dst undef) w') : o.wp P a w K Q := by
 subst hcs; exact wp_fstA hF (i := 3) rfl ho hs h1 hl k
theorem wp_fstA4 (hF : Fr X w0 w (e0 :: e1 :: e2 :: e3 :: .blk g t cs :: es)) {e : TypeId} {off : Nat} {ds : List Value} (ho : IsSt o a e ⟨g, off, none⟩ (.agg ds.toArray)) (hs : (P.info? e).map (·.size) = some ds.length) (h1 : ∀ u ∈ ds, u.oneCell' = true) (hl : off + ds.length ≤ cs.length) {cs' : List Value} (hcs : spl cs off ds = cs')
  (k : ∀ w', Fr X w0 w' (e0 :: e1 :: e2 :: e3 :: .blk g t cs' :: es) → w'.heap.size = w.heap.size → K (a.put o.dst undef) w') : o.wp P a w K Q := by
 subst hcs; exact wp_fstA hF (i := 4) rfl ho hs h1 hl k
end laws
end Go.Proofs.YtlhicfpmlncomaaGreatDoor
