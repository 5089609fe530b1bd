/-
  Words for walks over several blocks at once: what is known of each block that a call has made or was handed (Fr), and the laws of the operations over it. No program is named here.
-/
import Derived.Test.YtdekogmegdhjoaaDoorLib2
import Derived.Deep.MidRow
import Derived.Laws.CopyRow
import Derived.OrdersHeld
namespace Go.Proofs.YtdekogmegdhjoaaDoor
open Go.RowKit

/-- What is known of a block: all its cells; or that a slice value owns its cells; or that a slice reads as cells. -/
inductive Ent
  | blk (g : Nat) (t : TypeId) (cs : List Value)
  | own (b : Nat) (e : TypeId) (size : Nat) (v : Value) (n : Nat) (xs : List Value)
  | rd (A : Option Addr) (size n : Nat) (xs : List Value)

def Ent.block : Ent → Option Nat
  | .blk g _ _ => some g
  | .own _ _ _ v _ _ => v.ownBlock
  | .rd A _ _ _ => A.map (·.block)

def Ent.holds (w : World) : Ent → Prop
  | .blk g t cs => w.heap[g]? = some (.cells cs.toArray t (0, 0))
  | .own b e size v n xs => w.ownsRow b e size v n xs
  | .rd A size n xs => Rd w (· < w.heap.size) A size n xs ∧ ∀ a, A = some a → a.block < w.heap.size

/-- Bytes that a slice value owns. -/
def Ent.bytes (b : Nat) (e : TypeId) (v : Value) (l : List UInt8) : Ent := .own b e 1 v l.length (l.map bv)

theorem lt_of_heap {w : World} {g : Nat} {o : Obj} (h : w.heap[g]? = some o) : g < w.heap.size := by
  rcases Nat.lt_or_ge g w.heap.size with h1 | h1
  · exact h1
  · rw [Array.getElem?_eq_none h1] at h; cases h
theorem Ent.lt {w : World} {e : Ent} (h : e.holds w) {b : Nat} (hb : e.block = some b) : b < w.heap.size := by
  cases e with
  | blk g t cs => injection hb with hb; subst hb; exact lt_of_heap h
  | own b' e size v n xs => exact (h.lt b hb).2
  | rd A size n xs =>
    obtain ⟨a, ha, rfl⟩ := Option.map_eq_some_iff.1 hb
    exact h.2 a ha
theorem Ent.keep {w w' : World} {row : Option Nat} {e : Ent} (h : e.holds w) (hg : w.grownBy w' row) (hne : e.block = none ∨ e.block ≠ row) : e.holds w' := by
  cases e with
  | blk g t cs =>
    have hlt := lt_of_heap (w := w) h
    exact (hg.block g hlt (hne.elim (fun h => by cases h) id)).trans h
  | own b e size v n xs => exact World.ownsRow.kept h hg hne
  | rd A size n xs =>
    refine ⟨⟨h.1.len, h.1.some_, fun hn => Nat.lt_of_lt_of_le (h.1.inS hn) hg.size, fun j u hu => ?_⟩, fun a ha => Nat.lt_of_lt_of_le (h.2 a ha) hg.size⟩
    have hn := h.1.pos_of hu
    have hA := h.1.some_ hn
    have hb := h.1.inS hn
    rw [← h.1.cell j u hu]
    refine World.cell?_of_block (w := w) ?_
    rw [atp_block]
    refine hg.block _ hb ?_
    rcases hne with h0 | h0
    · exact absurd h0 (by unfold Ent.block; rw [hA]; simp)
    · unfold Ent.block at h0; rw [hA] at h0; exact h0

theorem set_mem {α : Type} {l : List α} {i : Nat} {x y : α} (h : y ∈ l.set i x) : y = x ∨ y ∈ l := by
  rcases List.mem_or_eq_of_mem_set h with h1 | h1
  · exact .inr h1
  · exact .inl h1

/-- Two entries speak of two blocks. -/
def Ent.apart (e f : Ent) : Prop := e.block = none ∨ e.block ≠ f.block
theorem Ent.apart.symm {e f : Ent} (h : e.apart f) : f.apart e := by
  unfold Ent.apart at *
  rcases h with h | h
  · cases hf : f.block with
    | none => exact .inl rfl
    | some b => right; rw [h]; simp
  · exact .inr fun e => h e.symm

/-- From w0 to w: nothing that was there has changed but blocks in X; and these entries hold, each of another block. -/
structure Fr (X : List Nat) (w0 w : World) (es : List Ent) : Prop where
  os : w.os = w0.os
  tape : w.tape = w0.tape
  output : w.output = w0.output
  size : w0.heap.size ≤ w.heap.size
  block : ∀ k, k < w0.heap.size → k ∉ X → w.heap[k]? = w0.heap[k]?
  holds : ∀ (i : Nat) (e : Ent), es[i]? = some e → e.holds w
  fresh : ∀ (i : Nat) (e : Ent), es[i]? = some e → ∀ b, e.block = some b → w0.heap.size ≤ b ∨ b ∈ X
  apart : ∀ (i j : Nat) (e f : Ent), es[i]? = some e → es[j]? = some f → i ≠ j → e.apart f

section
variable {X : List Nat} {w0 w w' : World} {es : List Ent}
theorem Fr.nil (w : World) : Fr [] w w [] := ⟨rfl, rfl, rfl, Nat.le_refl _, fun _ _ _ => rfl, fun i e h => by simp at h, fun i e h => by simp at h, fun i j e f h => by simp at h⟩
/-- A call that was handed one block. -/
theorem Fr.one {g : Nat} {t : TypeId} {cs : List Value} (h : w.heap[g]? = some (.cells cs.toArray t (0, 0))) : Fr [g] w w [.blk g t cs] := by
  refine ⟨rfl, rfl, rfl, Nat.le_refl _, fun _ _ _ => rfl, fun i e he => ?_, fun i e he b hb => ?_, fun i j e f he hf hij => ?_⟩
  · match i, he with
    | 0, he => injection he with he; subst he; exact h
  · match i, he with
    | 0, he => injection he with he; subst he; injection hb with hb; subst hb; exact .inr (by simp)
  · match i, j, he, hf with
    | 0, 0, _, _ => exact absurd rfl hij
/-- The world goes on; an entry's block may change: then it must hold anew. -/
theorem Fr.step (h : Fr X w0 w es) {row : Option Nat} (hg : w.grownBy w' row) (hrow : ∀ (i : Nat) (e : Ent), es[i]? = some e → e.block = none ∨ e.block ≠ row) (hX : ∀ k, row = some k → w0.heap.size ≤ k ∨ k ∈ X) : Fr X w0 w' es := by
  refine ⟨hg.os.trans h.os, hg.tape.trans h.tape, hg.output.trans h.output, Nat.le_trans h.size hg.size, fun k hk hx => ?_, fun i e he => Ent.keep (h.holds i e he) hg (hrow i e he), h.fresh, h.apart⟩
  rw [hg.block k (Nat.lt_of_lt_of_le hk h.size) (fun e => (hX k e.symm).elim (fun h1 => by omega) hx)]
  exact h.block k hk hx
theorem Fr.grow (h : Fr X w0 w es) (hg : w.grownBy w' none) : Fr X w0 w' es :=
  h.step hg (fun i e he => by cases hb : e.block <;> simp) (fun k hk => by cases hk)
theorem grown_of_below (hb : Below w.heap.size w w') : w.grownBy w' none := ⟨hb.os, hb.tape, hb.output, hb.size, fun k hk _ => hb.block k hk⟩
theorem below_of_grown (hb : w.grownBy w' none) : Below w.heap.size w w' := ⟨hb.os, hb.tape, hb.output, hb.size, fun k hk => hb.block k hk (by simp)⟩
theorem Fr.call (h : Fr X w0 w es) (hb : Below w.heap.size w w') : Fr X w0 w' es := h.grow (grown_of_below hb)
theorem Fr.drew (h : Fr X w0 w es) : Fr X w0 w.drew es := h.grow ⟨rfl, rfl, rfl, Nat.le_refl _, fun _ _ _ => rfl⟩
theorem Fr.drewN (h : Fr X w0 w es) (n : Nat) : Fr X w0 (w.drewN n) es := h.grow ⟨rfl, rfl, rfl, Nat.le_refl _, fun _ _ _ => rfl⟩
/-- One entry more. -/
theorem Fr.push (h : Fr X w0 w es) {e : Ent} (he : e.holds w) (hf : ∀ b, e.block = some b → (w0.heap.size ≤ b ∨ b ∈ X) ∧ ∀ (i : Nat) (f : Ent), es[i]? = some f → f.block ≠ some b) : Fr X w0 w (e :: es) := by
  refine ⟨h.os, h.tape, h.output, h.size, h.block, fun i f hi => ?_, fun i f hi b hb => ?_, fun i j f f' hi hj hij => ?_⟩
  · match i, hi with
    | 0, hi => injection hi with hi; subst hi; exact he
    | i + 1, hi => exact h.holds i f hi
  · match i, hi with
    | 0, hi => injection hi with hi; subst hi; exact (hf b hb).1
    | i + 1, hi => exact h.fresh i f hi b hb
  · have key : ∀ (j : Nat) (f : Ent), es[j]? = some f → e.apart f := fun j f hj => by
      unfold Ent.apart
      cases hb : e.block with
      | none => exact .inl rfl
      | some b => exact .inr fun he => (hf b hb).2 j f hj he.symm
    match i, j, hi, hj with
    | 0, 0, _, _ => exact absurd rfl hij
    | 0, j + 1, hi, hj => injection hi with hi; subst hi; exact key j f' hj
    | i + 1, 0, hi, hj => injection hj with hj; subst hj; exact (key i f hi).symm
    | i + 1, j + 1, hi, hj => exact h.apart i j f f' hi hj (by omega)
theorem Fr.old (h : Fr X w0 w es) {i : Nat} {f : Ent} (hi : es[i]? = some f) {b : Nat} (hb : w.heap.size ≤ b) : f.block ≠ some b := fun he => by
  have := Ent.lt (h.holds i f hi) he
  omega
/-- One entry more, of a block that was not there. -/
theorem Fr.more (h : Fr X w0 w es) (hg : w.grownBy w' none) {e : Ent} (he : e.holds w') (hb : ∀ b, e.block = some b → w.heap.size ≤ b) : Fr X w0 w' (e :: es) :=
  (h.grow hg).push he fun b he => ⟨.inl (Nat.le_trans h.size (hb b he)), fun _ _ hi => h.old hi (hb b he)⟩
theorem Fr.alloc (h : Fr X w0 w es) (t : TypeId) (cs : List Value) : Fr X w0 (w.alloc (.cells cs.toArray t)) (.blk w.heap.size t cs :: es) :=
  h.more (World.grownBy_alloc w _ none) (heap_alloc_new w _) fun b hb => by injection hb with hb; omega
/-- What a callee hands back. -/
theorem Fr.got (h : Fr X w0 w es) {e : TypeId} {size n : Nat} {v : Value} {xs : List Value} (hb : Below w.heap.size w w') (ho : w'.ownsRow w.heap.size e size v n xs) : Fr X w0 w' (.own w0.heap.size e size v n xs :: es) := by
  refine h.more (grown_of_below hb) (e := .own w0.heap.size e size v n xs) ?_ fun b hb => (ho.lt b hb).1
  refine ⟨ho.1, ho.2.imp id ?_⟩
  rintro ⟨g, cap, cur, hv, hg, rest⟩
  exact ⟨g, cap, cur, hv, Nat.le_trans h.size hg, rest⟩
theorem Fr.gotB (h : Fr X w0 w es) {e : TypeId} {v : Value} {l : List UInt8} (hb : Below w.heap.size w w') (ho : OwnB w' w.heap.size e v l) : Fr X w0 w' (.bytes w0.heap.size e v l :: es) := h.got hb ho.own
/-- One entry changes. -/
theorem Fr.put (h : Fr X w0 w es) {i : Nat} {e e' : Ent} (hi : es[i]? = some e) (hg : w.grownBy w' e.block) (he : e'.holds w') (hb : e'.block = e.block ∨ ∀ b, e'.block = some b → w.heap.size ≤ b) : Fr X w0 w' (es.set i e') := by
  have hil : i < es.length := (List.getElem?_eq_some_iff.1 hi).1
  have hset : ∀ (j : Nat) (f : Ent), (es.set i e')[j]? = some f → j = i ∧ f = e' ∨ j ≠ i ∧ es[j]? = some f := fun j f hj => by
    rw [List.getElem?_set] at hj
    by_cases hij : i = j
    · rw [if_pos hij, if_pos hil] at hj; injection hj with hj; exact .inl ⟨hij.symm, hj.symm⟩
    · rw [if_neg hij] at hj; exact .inr ⟨fun h => hij h.symm, hj⟩
  have hfresh : ∀ b, e'.block = some b → (w0.heap.size ≤ b ∨ b ∈ X) := fun b hb' => by
    rcases hb with h1 | h1
    · exact h.fresh i e hi b (h1 ▸ hb')
    · exact .inl (Nat.le_trans h.size (h1 b hb'))
  have hother : ∀ (j : Nat) (f : Ent), j ≠ i → es[j]? = some f → e'.apart f := fun j f hji hj => by
    rcases hb with h1 | h1
    · have := h.apart i j e f hi hj (fun h => hji h.symm)
      unfold Ent.apart at *
      rw [h1]; exact this
    · unfold Ent.apart
      cases hb' : e'.block with
      | none => exact .inl rfl
      | some b => exact .inr fun he => h.old hj (h1 b hb') he.symm
  refine ⟨hg.os.trans h.os, hg.tape.trans h.tape, hg.output.trans h.output, Nat.le_trans h.size hg.size, fun k hk hx => ?_, fun j f hj => ?_, fun j f hj b hb' => ?_, fun j k f f' hj hk hjk => ?_⟩
  · rw [hg.block k (Nat.lt_of_lt_of_le hk h.size) (fun he => (h.fresh i e hi k he.symm).elim (fun h1 => by omega) hx)]
    exact h.block k hk hx
  · rcases hset j f hj with ⟨_, rfl⟩ | ⟨hji, hj⟩
    · exact he
    · exact Ent.keep (h.holds j f hj) hg (h.apart j i f e hj hi hji)
  · rcases hset j f hj with ⟨_, rfl⟩ | ⟨hji, hj⟩
    · exact hfresh b hb'
    · exact h.fresh j f hj b hb'
  · rcases hset j f hj with ⟨h1, h2⟩ | ⟨hji, hj⟩
    · rcases hset k f' hk with ⟨h3, h4⟩ | ⟨hki, hk⟩
      · exact absurd (h1.trans h3.symm) hjk
      · rw [h2]; exact hother k f' hki hk
    · rcases hset k f' hk with ⟨h3, h4⟩ | ⟨hki, hk⟩
      · rw [h4]; exact (hother j f hji hj).symm
      · exact h.apart j k f f' hj hk hjk
/-- Entries that are not wanted any more. -/
theorem Fr.tail {e : Ent} (h : Fr X w0 w (e :: es)) : Fr X w0 w es :=
  ⟨h.os, h.tape, h.output, h.size, h.block, fun i f hi => h.holds (i + 1) f hi, fun i f hi => h.fresh (i + 1) f hi, fun i j f f' hi hj hij => h.apart (i + 1) (j + 1) f f' hi hj (by omega)⟩
theorem Fr.drop1 {e e' : Ent} (h : Fr X w0 w (e :: e' :: es)) : Fr X w0 w (e :: es) :=
  (h.tail.tail).push (h.holds 0 e rfl) fun b hb => ⟨h.fresh 0 e rfl b hb, fun i f hi he => by
    rcases h.apart 0 (i + 2) e f rfl hi (by omega) with h1 | h1
    · rw [h1] at hb; cases hb
    · exact h1 (hb.trans he.symm)⟩
/-- What comes out of it. -/
theorem Fr.below {es : List Ent} (h : Fr [] w0 w es) : Below w0.heap.size w0 w := ⟨h.os, h.tape, h.output, h.size, fun k hk => h.block k hk (by simp)⟩
theorem Fr.grown {g : Nat} {es : List Ent} (h : Fr [g] w0 w es) : w0.grownBy w (some g) := ⟨h.os, h.tape, h.output, h.size, fun k hk hne => h.block k hk (by simpa using hne)⟩
theorem Fr.blk (h : Fr X w0 w es) {i g : Nat} {t : TypeId} {cs : List Value} (hi : es[i]? = some (.blk g t cs)) : w.heap[g]? = some (.cells cs.toArray t (0, 0)) := h.holds i _ hi
theorem Fr.lt (h : Fr X w0 w es) {i g : Nat} {t : TypeId} {cs : List Value} (hi : es[i]? = some (.blk g t cs)) : g < w.heap.size := Ent.lt (h.holds i _ hi) rfl
theorem Fr.own (h : Fr X w0 w es) {i b : Nat} {e : TypeId} {v : Value} {l : List UInt8} (hi : es[i]? = some (.bytes b e v l)) : OwnB w b e v l := ⟨h.holds i _ hi⟩
theorem Fr.rdOwn (h : Fr X w0 w es) {i b : Nat} {e : TypeId} {size n m : Nat} {A : Option Addr} {c : Nat} {xs : List Value} (hi : es[i]? = some (.own b e size (.slice A n c) m xs)) : Rd w (· < w.heap.size) A size n xs := by
  have ho : w.ownsRow b e size (.slice A n c) m xs := h.holds i _ hi
  have hm : m = n := by
    rcases ho.2 with ⟨h1, h2⟩ | ⟨g, cap, cur, h1, _⟩
    · injection h1; omega
    · injection h1; omega
  subst hm
  exact (Rd.of_own ho).mono fun k hk => hk.2
theorem Fr.rd (h : Fr X w0 w es) {i size n : Nat} {A : Option Addr} {xs : List Value} (hi : es[i]? = some (.rd A size n xs)) : Rd w (· < w.heap.size) A size n xs := (h.holds i _ hi).1
/-- A part of a block, as a slice of it reads. -/
theorem Fr.rdBlk (h : Fr X w0 w es) {i g off n : Nat} {t : TypeId} {cs xs : List Value} (hi : es[i]? = some (.blk g t cs)) (hx : xs.length = n) (hc : (cs.drop off).take n = xs) : Rd w (· < w.heap.size) (some ⟨g, off, none⟩) 1 n xs := by
  refine ⟨by simpa using hx, fun _ => rfl, fun _ => h.lt hi, fun j u hu => ?_⟩
  have hb := h.blk hi
  have hat : atp (some ⟨g, off, none⟩) j = ⟨g, off + j, none⟩ := by
    unfold atp Addr.add
    by_cases hj : j = 0 <;> simp [hj]
  rw [hat, cell_of_row w g (off + j) _ t (0, 0) hb]
  rw [← hc, List.getElem?_take] at hu
  split at hu
  · rw [List.getElem?_drop] at hu; simpa using hu
  · cases hu
/-- What came in reads as it did. -/
theorem Fr.rdOld {es : List Ent} (h : Fr [] w0 w es) {size n : Nat} {A : Option Addr} {xs : List Value} (hr : Rd w0 (· < w0.heap.size) A size n xs) : Rd w (· < w.heap.size) A size n xs := hr.on h.below
end

/-- A part of the cells is replaced. -/
def spl (cs : List Value) (off : Nat) (ds : List Value) : List Value := cs.take off ++ ds ++ cs.drop (off + ds.length)
theorem spl_length {cs ds : List Value} {off : Nat} (h : off + ds.length ≤ cs.length) : (spl cs off ds).length = cs.length := by unfold spl; simp; omega
theorem setRow_grown (w : World) (g : Nat) (cs : Array Value) : w.grownBy (w.setRow g cs) (some g) := ⟨rfl, rfl, rfl, by simp, fun k hk hne => setRow_other w g k cs (fun h => hne (by rw [h]))⟩

section laws
variable {P : Program} {o : Oper} {a : Act} {X : List Nat} {w0 w : World} {es : List Ent} {K : Act → World → Prop} {Q : Exit → Act → World → Prop}
variable {i g : Nat} {t : TypeId} {cs : List Value}

theorem run_isAgg {e : TypeId} {d : TypeDesc} (hu : P.underlying e = some d) (w : World) : (isAgg e).run P w = .ok (aggT d) w := by
  unfold isAgg
  rw [Sem.run_bind, run_underlying hu w]
  cases d <;> simp_all [aggT]
/-- One cell of a block is read. -/
theorem wp_fld (hF : Fr X w0 w es) (hi : es[i]? = some (.blk g t cs)) {e : TypeId} {d : TypeDesc} (hu : P.underlying e = some d) (hd : aggT d = false) {off : Nat} (ho : IsLd o a e ⟨g, off, none⟩) {u : Value} (hc : cs[off]? = some u)
    (k : K (a.put o.dst u) w) : o.wp P a w K Q := by
  obtain ⟨x, ho, hx⟩ := ho
  have hcell : w.cell? ⟨g, off, none⟩ = some u := by rw [cell_of_row w g off _ t (0, 0) (hF.blk hi)]; simpa using hc
  have hagg := run_isAgg hu w
  rw [hd] at hagg
  refine wp_run (v := u) (w' := w) ?_ k
  unfold execOp
  simp [ho, hx, Instr.loadAt, Instr.sureAddr, loadVar, hagg, hcell]
theorem rangeAt_blk (hF : Fr X w0 w es) (hi : es[i]? = some (.blk g t cs)) {off : Nat} {ds : List Value} (hc : (cs.drop off).take ds.length = ds) : w.rangeAt g off ds := by
  intro j v hv
  rw [cell_of_row w g (off + j) _ t (0, 0) (hF.blk hi)]
  rw [← hc, List.getElem?_take] at hv
  split at hv
  · rw [List.getElem?_drop] at hv; simpa using hv
  · cases hv
/-- A part of a block is read: an array, or all of it. -/
theorem wp_fldA (hF : Fr X w0 w es) (hi : es[i]? = some (.blk g t cs)) {e : TypeId} {d : TypeDesc} (hu : P.underlying e = some d) (hd : aggT d = true) {off : Nat} (ho : IsLd o a e ⟨g, off, none⟩) {ds : List Value}
    (hs : (P.info? e).map (·.size) = some ds.length) (hc : (cs.drop off).take ds.length = ds) (k : K (a.put o.dst (.agg ds.toArray)) w) : o.wp P a w K Q := by
  obtain ⟨x, ho, hx⟩ := ho
  exact wp_load_mid e x ho g off hx ds d (rangeAt_blk hF hi hc) hu (by cases d <;> simp_all [aggT, TypeDesc.isRow]) hs k
/-- Cells are stored into a block. -/
theorem run_storeF (hF : Fr X w0 w es) (hi : es[i]? = some (.blk g t cs)) {off : Nat} {ds : List Value} (hl : off + ds.length ≤ cs.length) (h1 : ∀ u ∈ ds, u.oneCell' = true) :
    (storeCells ⟨g, off, none⟩ ds).run P w = .ok () (w.setRow g (spl cs off ds).toArray) ∧ Fr X w0 (w.setRow g (spl cs off ds).toArray) (es.set i (.blk g t (spl cs off ds))) := by
  have h := run_storeCells_at P g off t ds 0 cs.toArray w (hF.blk hi) (by simpa using hl) h1
  refine ⟨by simpa [spl] using h, hF.put hi (setRow_grown w g _) (setRow_heap w g _ _ t _ (hF.blk hi)) (.inl rfl)⟩
theorem wp_fst (hF : Fr X w0 w es) (hi : es[i]? = some (.blk g t cs)) {e : TypeId} {off : Nat} {v : Value} (ho : IsSt o a e ⟨g, off, none⟩ v) (hs : (P.info? e).map (·.size) = some 1) (hv : v.cells = #[v]) (h1 : v.oneCell' = true) (hl : off < cs.length)
    (k : ∀ w', Fr X w0 w' (es.set i (.blk g t (spl cs off [v]))) → w'.heap.size = w.heap.size → K (a.put o.dst undef) w') : o.wp P a w K Q := by
  obtain ⟨x, y, ho, hx, hy⟩ := ho
  obtain ⟨hr, hF'⟩ := run_storeF (P := P) hF hi (off := off) (ds := [v]) (by simp; omega) (by simpa using h1)
  obtain ⟨j, hj, hsz⟩ := Option.map_eq_some_iff.1 hs
  unfold Oper.wp execOp
  simp only [ho, hx, hy, Instr.storeAt, Instr.sureAddr, storeVar, Sem.run_bind, Sem.run_pure, Result.andThen_ok]
  simp [sizeOf, typeInfo, hj, hsz, hv, hr]
  exact k _ hF' (by simp)
theorem wp_fstA (hF : Fr X w0 w es) (hi : es[i]? = some (.blk g t cs)) {e : TypeId} {off : Nat} {ds : List Value} (ho : IsSt o a e ⟨g, off, none⟩ (.agg ds.toArray)) (hs : (P.info? e).map (·.size) = some ds.length) (h1 : ∀ u ∈ ds, u.oneCell' = true) (hl : off + ds.length ≤ cs.length)
    (k : ∀ w', Fr X w0 w' (es.set i (.blk g t (spl cs off ds))) → w'.heap.size = w.heap.size → K (a.put o.dst undef) w') : o.wp P a w K Q := by
  obtain ⟨x, y, ho, hx, hy⟩ := ho
  obtain ⟨hr, hF'⟩ := run_storeF (P := P) hF hi hl h1
  obtain ⟨j, hj, hsz⟩ := Option.map_eq_some_iff.1 hs
  unfold Oper.wp execOp
  simp only [ho, hx, hy, Instr.storeAt, Instr.sureAddr, storeVar, Sem.run_bind, Sem.run_pure, Result.andThen_ok]
  simp [sizeOf, typeInfo, hj, hsz, Value.cells, hr]
  exact k _ hF' (by simp)
/-- A new variable, zero. -/
theorem wp_falloc (hF : Fr X w0 w es) {e : TypeId} (ho : o.op = .alloc e) {z : Value} (hz : (P.info? e).map (·.zero) = some (some z)) (hc : z.cells = cs.toArray)
    (k : ∀ w' g, Fr X w0 w' (.blk g e cs :: es) → w'.heap.size = w.heap.size + 1 → K (a.put o.dst (.pointer (some ⟨g, 0, none⟩))) w') : o.wp P a w K Q := by
  obtain ⟨j, hj, hzz⟩ := Option.map_eq_some_iff.1 hz
  refine wp_run (v := .pointer (some ⟨w.heap.size, 0, none⟩)) (w' := w.alloc (.cells cs.toArray e)) ?_ (k _ _ (hF.alloc e cs) (by simp))
  unfold execOp
  simp [ho, Instr.alloc, zeroValue, typeInfo, hj, hzz, newVar, newRow, hc]
/-- A new variable that holds a value. -/
theorem wp_fbox (hF : Fr X w0 w es) {e : TypeId} {x : Operand} (ho : o.op = .box e x) {v : Value} (hx : a.eval x = v) (hc : v.cells = cs.toArray)
    (k : ∀ w' g, Fr X w0 w' (.blk g e cs :: es) → w'.heap.size = w.heap.size + 1 → K (a.put o.dst (.pointer (some ⟨g, 0, none⟩))) w') : o.wp P a w K Q := by
  refine wp_run (v := .pointer (some ⟨w.heap.size, 0, none⟩)) (w' := w.alloc (.cells cs.toArray e)) ?_ (k _ _ (hF.alloc e cs) (by simp))
  unfold execOp
  simp [ho, hx, Instr.box, newVar, newRow, hc]
/-- Bytes appended to bytes that the call owns. -/
theorem wp_fapp {sl e : TypeId} (T : SlT P sl e 1 1 (.int .u8 0)) (hF : Fr X w0 w es) {b : Nat} {v : Value} {l : List UInt8} (hi : es[i]? = some (.bytes b e v l)) (hb : b ≤ w0.heap.size) {S : Nat → Prop} {A : Option Addr} {m c : Nat} {l' : List UInt8} (hr : Rd w S A 1 m (l'.map bv))
    (ho : IsApp o a sl v (.slice A m c)) (hroom : l.length + m ≤ 140737488355328)
    (k : ∀ v' w', Fr X w0 w' (es.set i (.bytes b e v' (l ++ l'))) → w.heap.size ≤ w'.heap.size → K (a.put o.dst v') w') : o.wp P a w K Q := by
  have hown := hF.own hi
  have hm := hr.bytes_len
  have hbw : b ≤ w.heap.size := Nat.le_trans hb hF.size
  refine wp_app T hown.own hr ho (bv_one _) (by unfold maxLen; omega) (by omega) hbw fun v' w' h2 h3 h4 => k v' w' (hF.put hi h3 ?_ (h4.imp id fun h b hb => ?_)) h3.size
  · show w'.ownsRow b e 1 v' (l ++ l').length ((l ++ l').map bv)
    rw [List.map_append, List.length_append, hm]; exact h2
  · have hb : v'.ownBlock = some b := hb
    rw [h] at hb; injection hb with hb; omega
/-- Bytes copied into a part of a block. -/
theorem wp_fcopy {dT sT el : TypeId} (hu : P.underlying dT = some (.slice el)) (hs : (P.info? el).map (·.size) = some 1) (hF : Fr X w0 w es) (hi : es[i]? = some (.blk g t cs)) {S : Nat → Prop} {A : Option Addr} {off n m c dc : Nat} {xs : List Value} (hr : Rd w S A 1 m xs) (h1 : ∀ u ∈ xs, u.oneCell' = true)
    {d s : Operand} (ho : o.op = .call { callee := .builtin .copy, args := #[d, s], argTypes := #[dT, sT] }) (hd : a.eval d = .slice (some ⟨g, off, none⟩) n dc) (hsrc : a.eval s = .slice A m c) (hl : off + n ≤ cs.length)
    (k : ∀ w', Fr X w0 w' (es.set i (.blk g t (spl cs off (xs.take n)))) → w'.heap.size = w.heap.size → K (a.put o.dst (goInt (Nat.min m n))) w') : o.wp P a w K Q := by
  have hlen : xs.length = m := by simpa using hr.len
  rcases Nat.eq_zero_or_pos m with h0 | h0
  · subst h0
    have hx : xs = [] := List.eq_nil_of_length_eq_zero hlen
    subst hx
    have hrun := run_copy_none (P := P) w dT sT o.type el (some ⟨g, off, none⟩) A n dc 0 c hu hs (Nat.zero_min n)
    have hsame : spl cs off (List.take n []) = cs := by unfold spl; simp
    have hset : Fr X w0 w (es.set i (.blk g t (spl cs off (List.take n [])))) := by
      rw [hsame]
      exact hF.put hi ⟨rfl, rfl, rfl, Nat.le_refl _, fun _ _ _ => rfl⟩ (hF.holds i _ hi) (.inl rfl)
    have := k w hset rfl
    unfold Oper.wp execOp
    simp only [ho, resolve, invoke, builtin, Sem.run_bind, Sem.run_pure, Result.andThen_ok, List.map_toArray, List.map_cons, List.map_nil, hd, hsrc, hrun]
    have h00 : Nat.min 0 n = 0 := Nat.zero_min n
    rw [h00] at this
    exact this
  · obtain ⟨ad, rfl⟩ : ∃ ad, A = some ad := ⟨_, hr.some_ h0⟩
    have htl : (xs.take n).length = Nat.min m n := by rw [List.length_take, hlen, Nat.min_comm]
    have hle : (xs.take n).length ≤ n := by rw [List.length_take]; exact Nat.min_le_left _ _
    have hrun := run_copy_row (P := P) w dT sT o.type el g off n dc ad m c cs.toArray t (xs.take n) hu hs (hF.blk hi) htl (fun j v hv => by
      rw [List.getElem?_take] at hv
      split at hv
      · exact hr.cell j v hv
      · cases hv) (by simp; omega) (fun v hv => h1 v (List.mem_of_mem_take hv))
    have hk := k (w.setRow g (spl cs off (xs.take n)).toArray) (hF.put hi (setRow_grown w g _) (setRow_heap w g _ _ t _ (hF.blk hi)) (.inl rfl)) (by simp)
    unfold Oper.wp execOp
    simp only [ho, resolve, invoke, builtin, Sem.run_bind, Sem.run_pure, Result.andThen_ok, List.map_toArray, List.map_cons, List.map_nil, hd, hsrc, hrun]
    rw [htl]
    have : (Array.toList cs.toArray).take off ++ xs.take n ++ (Array.toList cs.toArray).drop (off + Nat.min m n) = spl cs off (xs.take n) := by unfold spl; rw [htl]
    rw [this]
    exact hk
end laws
end Go.Proofs.YtdekogmegdhjoaaDoor
