/-
  A number of bytes, plainly.
  Laws over a frame of known blocks, for slices of any elements: appends, elements of several cells, literals of one element. No program is named here.
  Frames of known blocks, joined: what a call hands back in blocks of its own. No program is named here.
  Regions that draw their order and only read: the place of an element, its cell, its cells. Texts are compared. No program is named here.
  Layer 14 in plain words: what bytes are read as a record. And the laws of a region that draws its order and cuts or turns bytes into a string. No program is named here.
  The walk of octet.ReadCount.
  The walk of octet.ReadText.
-/
import Derived.Test.YtpdbjhgphgcjoaaDoorJ01
import Derived.Test.YtpdbjhgphgcjoaaDoorJ02
import Derived.Test.YtpdbjhgphgcjoaaDoorJ08
import Derived.Test.YtpdbjhgphgcjoaaDoorJ06
import Derived.Test.YtpdbjhgphgcjoaaDoorJ10
namespace Go.Proofs.YtpdbjhgphgcjoaaDoor
open Go.RowKit

theorem get_mul (C : Nat) (d : UInt8) (hC : C < 72057594037927936) :
    IntKind.u64.wrap ((C : Int) * 256) = ((C * 256 : Nat) : Int) ∧ bits BinOp.or IntKind.u64 ((C : Int) * 256) (d.toNat : Int) = ((C * 256 + d.toNat : Nat) : Int) ∧
      IntKind.u64.wrap ((C : Int) * 256 + (d.toNat : Int)) = ((C * 256 + d.toNat : Nat) : Int) := by
  have hd := d.toNat_lt
  refine ⟨by rw [IntWalk.u64_in _ (by omega)]; omega, ?_, by rw [IntWalk.u64_in _ (by omega)]; omega⟩
  rw [show ((C : Int) * 256) = ((C * 256 : Nat) : Int) by omega, u64_or_nat _ _ (by omega) (by omega), nat_join 8 (C * 256) d.toNat (by omega) (by omega)]
theorem getN_snoc (l : List UInt8) (c : UInt8) : getN (l ++ [c]) = getN l * 256 + c.toNat := by simp [getN]
theorem getN_lt_from : ∀ (l : List UInt8) (a j : Nat), a < 2 ^ (8 * j) → l.foldl (fun n c => n * 256 + c.toNat) a < 2 ^ (8 * (j + l.length))
  | [], a, j, h => by simpa using h
  | c :: l, a, j, h => by
    have h2 := c.toNat_lt
    have h3 := getN_lt_from l (a * 256 + c.toNat) (j + 1) (by rw [Nat.mul_add, Nat.pow_add]; omega)
    rw [List.foldl_cons, List.length_cons, show j + (l.length + 1) = j + 1 + l.length by omega]
    exact h3
theorem getN_lt (k : Nat) (l : List UInt8) (h : l.length ≤ k) : getN l < 2 ^ (8 * k) :=
  Nat.lt_of_lt_of_le (getN_lt_from l 0 0 (by simp)) (Nat.pow_le_pow_right (by decide) (by omega))
theorem getN_next {l : List UInt8} {k : Nat} {c : UInt8} (hk : k < 8) (hc : l[k]? = some c) :
    getN (l.take (k + 1)) = getN (l.take k) * 256 + c.toNat ∧ getN (l.take k) < 72057594037927936 ∧ getN (l.take (k + 1)) < 18446744073709551616 := by
  refine ⟨by rw [take_snoc hc, getN_snoc], ?_, ?_⟩
  · exact Nat.lt_of_lt_of_le (getN_lt 7 _ (by rw [List.length_take]; omega)) (by decide)
  · exact Nat.lt_of_lt_of_le (getN_lt 8 _ (by rw [List.length_take]; omega)) (by decide)
end Go.Proofs.YtpdbjhgphgcjoaaDoor

namespace Go.Proofs.YtpdbjhgphgcjoaaDoor
open Go.RowKit

section laws
variable {P : Program} {o : Oper} {a : Act} {X : List Nat} {w0 w : World} {es : List Ent} {K : Act → World → Prop} {Q : Exit → Act → World → Prop}
/-- Elements appended to a slice that the call owns. -/
theorem wp_fappG {sl e : TypeId} {size bytes : Nat} {z : Value} (T : SlT P sl e size bytes z) (hF : Fr X w0 w es) {i b : Nat} {v : Value} {n : Nat} {xs : List Value} (hi : es[i]? = some (.own b e size v n xs)) (hb : b ≤ w0.heap.size) {S : Nat → Prop} {A : Option Addr} {m c : Nat} {news : List Value} (hr : Rd w S A size m news) (h1 : ∀ u ∈ news, u.oneCell' = true)
    (ho : IsApp o a sl v (.slice A m c)) (h63 : n + m ≤ maxLen) (hbytes : (n + m) * bytes ≤ 140737488355328)
    (k : ∀ v' w', Fr X w0 w' (es.set i (.own b e size v' (n + m) (xs ++ news))) → w.heap.size ≤ w'.heap.size → K (a.put o.dst v') w') : o.wp P a w K Q := by
  have hown : w.ownsRow b e size v n xs := hF.holds i _ hi
  have hbw : b ≤ w.heap.size := Nat.le_trans hb hF.size
  refine wp_app T hown hr ho h1 h63 hbytes hbw fun v' w' h2 h3 h4 => k v' w' (hF.put hi h3 h2 (h4.imp id fun h b hb => ?_)) h3.size
  have hb : v'.ownBlock = some b := hb
  rw [h] at hb; injection hb with hb; omega
/-- An element of several cells is read. -/
theorem wp_loadA {S : Nat → Prop} {A : Option Addr} {n size : Nat} {xs : List Value} (hr : Rd w S A size n xs) {e : TypeId} {j : Nat} {d : TypeDesc} (hu : P.underlying e = some d) (hd : aggT d = true) (ho : IsLd o a e (atp A j)) {ds : List Value} (hs : (P.info? e).map (·.size) = some ds.length)
    (hc : (xs.drop j).take ds.length = ds) (k : K (a.put o.dst (.agg ds.toArray)) w) : o.wp P a w K Q := by
  obtain ⟨x, ho, hx⟩ := ho
  have hagg := run_isAgg hu w
  rw [hd] at hagg
  obtain ⟨i, hi, hsz⟩ := Option.map_eq_some_iff.1 hs
  have hl : (loadCells (atp A j) ds.length).run P w = .ok ds.toArray w := run_loadCells_list (P := P) w (atp A j) ds (fun q v hv => by
    unfold atp
    rw [add_add]
    refine hr.cell (j + q) v ?_
    rw [← hc, List.getElem?_take] at hv
    split at hv
    · rw [List.getElem?_drop] at hv; exact hv
    · cases hv)
  refine wp_run (v := .agg ds.toArray) (w' := w) ?_ k
  unfold execOp
  simp [ho, hx, Instr.loadAt, Instr.sureAddr, loadVar, hagg, sizeOf, typeInfo, hi, hsz, hl]
/-- A slice literal of one element of several cells. -/
theorem wp_fbs1 {sl e : TypeId} {size bytes : Nat} {z : Value} (T : SlT P sl e size bytes z) (hF : Fr X w0 w es) {x : Operand} (ho : o.op = .buildSlice sl 1 #[(0, x)]) {ds : List Value} (hx : (a.eval x).cells = ds.toArray) (hds : ds.length = size) (h16 : size ≤ 16777216)
    (k : ∀ w' g, Fr X w0 w' (.own w0.heap.size e size (.slice (some ⟨g, 0, none⟩) 1 1) 1 ds :: es) → w'.heap.size = w.heap.size + 1 → K (a.put o.dst (.slice (some ⟨g, 0, none⟩) 1 1)) w') : o.wp P a w K Q := by
  obtain ⟨i, hi, hz, hs, hby⟩ := info_parts T.info
  have hzc : (zeroValue e).run P w = .ok z w := by simp [zeroValue, typeInfo, hi, hz]
  have hsz : (sizeOf e).run P w = .ok size w := by simp [sizeOf, typeInfo, hi, hs]
  have hown : (w.alloc (.cells ds.toArray e)).ownsRow w0.heap.size e size (.slice (some ⟨w.heap.size, 0, none⟩) 1 1) 1 ds := by
    have := World.ownsRow_lit (e := e) (size := size) (base := w0.heap.size) w ds.toArray 1 hF.size (by unfold maxLen; omega) (by simp [hds])
    simpa using this
  have hF' := hF.more (World.grownBy_alloc w (.cells ds.toArray e) none) (e := .own w0.heap.size e size (.slice (some ⟨w.heap.size, 0, none⟩) 1 1) 1 ds) hown (fun b hb => by
    have hb : some w.heap.size = some b := hb
    injection hb with hb; omega)
  refine wp_run (v := .slice (some ⟨w.heap.size, 0, none⟩) 1 1) (w' := w.alloc (.cells ds.toArray e)) ?_ (k _ _ hF' (by simp))
  have hpos := T.pos
  have hcell := T.zs
  have hmap : ((Array.range (1 * size)).map (fun q => z.cells[q % z.cells.size]!)).toList.length = size := by simp
  have hf := fill_step (place := fun i => some (i * size, size)) (cells := ((Array.range (1 * size)).map (fun q => z.cells[q % z.cells.size]!)).toList) (i := 0) (off := 0 * size) (size := size) (v := a.eval x) (rest := []) rfl (by rw [hx]; simpa using hds) (by rw [hmap]; omega)
  rw [hx] at hf
  have hspl : spl ((Array.range (1 * size)).map (fun q => z.cells[q % z.cells.size]!)).toList (0 * size) ds.toArray.toList = ds := by
    rw [Nat.zero_mul]; exact spl_all (by rw [hmap]; simpa using hds)
  rw [hspl, Array.toArray_toList] at hf
  have hle' : (1 * size > 2 ^ 24) = False := eq_false (by omega)
  have h0' : (1 * size = 0) = False := eq_false (by omega)
  have hp : (#[(0, x)] : Array (Nat × Operand)).map (fun p => (p.1, a.eval p.2)) = #[(0, a.eval x)] := by simp
  unfold execOp
  simp only [ho, Instr.buildSlice, Sem.run_bind, run_underlying T.und, hsz, Result.andThen_ok, hp, hle', h0', if_false, hzc, Sem.run_pure]
  rw [hf]
  simp [Instr.fill, newRow]
end laws
end Go.Proofs.YtpdbjhgphgcjoaaDoor

namespace Go.Proofs.YtpdbjhgphgcjoaaDoor
open Go.RowKit

section
variable {X : List Nat} {w0 w w' : World} {es es' : List Ent}
theorem app_at {α : Type} {l l' : List α} {i : Nat} {x : α} (h : (l ++ l')[i]? = some x) : (l[i]? = some x ∧ i < l.length) ∨ (l'[i - l.length]? = some x ∧ l.length ≤ i) := by
  rcases Nat.lt_or_ge i l.length with h1 | h1
  · rw [List.getElem?_append_left h1] at h; exact .inl ⟨h, h1⟩
  · rw [List.getElem?_append_right h1] at h; exact .inr ⟨h, h1⟩
theorem Fr.join (h : Fr X w0 w es) (h' : Fr [] w w' es') : Fr X w0 w' (es' ++ es) := by
  have hg := h.grow (grown_of_below h'.below)
  have old : ∀ {i : Nat} {e : Ent}, es'[i]? = some e → ∀ b, e.block = some b → w.heap.size ≤ b := fun {i e} hi b hb => by simpa using h'.fresh i e hi b hb
  have part : ∀ {i j : Nat} {e f : Ent}, es'[i]? = some e → es[j]? = some f → e.apart f := fun {i j e f} hi hj => by
    unfold Ent.apart
    cases hb : e.block with
    | none => exact .inl rfl
    | some b => exact .inr fun he => h.old hj (old hi b hb) he.symm
  refine ⟨hg.os, hg.tape, hg.output, hg.size, hg.block, fun i e hi => ?_, fun i e hi b hb => ?_, fun i j e f hi hj hij => ?_⟩
  · rcases app_at hi with ⟨h1, _⟩ | ⟨h1, _⟩
    · exact h'.holds i e h1
    · exact hg.holds _ e h1
  · rcases app_at hi with ⟨h1, _⟩ | ⟨h1, _⟩
    · exact .inl (Nat.le_trans h.size (old h1 b hb))
    · exact h.fresh _ e h1 b hb
  · rcases app_at hi with ⟨h1, i1⟩ | ⟨h1, i1⟩
    · rcases app_at hj with ⟨h2, j1⟩ | ⟨h2, j1⟩
      · exact h'.apart i j e f h1 h2 hij
      · exact part h1 h2
    · rcases app_at hj with ⟨h2, j1⟩ | ⟨h2, j1⟩
      · exact (part h2 h1).symm
      · exact h.apart _ _ e f h1 h2 (by omega)
/-- Some of the entries, by their places. -/
theorem Fr.picks (h : Fr X w0 w es) (is : List Nat) {fs : List Ent} (hx : is.map (fun i => es[i]?) = fs.map some) (nd : is.Nodup) : Fr X w0 w fs := by
  have key : ∀ (j : Nat) (f : Ent), fs[j]? = some f → ∃ i, is[j]? = some i ∧ es[i]? = some f := fun j f hj => by
    have h1 : (is.map (fun i => es[i]?))[j]? = some (some f) := by rw [hx, List.getElem?_map, hj]; rfl
    rw [List.getElem?_map] at h1
    cases hi : is[j]? with
    | none => rw [hi] at h1; cases h1
    | some i => rw [hi] at h1; exact ⟨i, rfl, by simpa using h1⟩
  refine ⟨h.os, h.tape, h.output, h.size, h.block, fun j f hj => ?_, fun j f hj b hb => ?_, fun j k f f' hj hk hjk => ?_⟩
  · obtain ⟨i, _, hi⟩ := key j f hj; exact h.holds i f hi
  · obtain ⟨i, _, hi⟩ := key j f hj; exact h.fresh i f hi b hb
  · obtain ⟨i, h1, hi⟩ := key j f hj
    obtain ⟨i', h2, hi'⟩ := key k f' hk
    refine h.apart i i' f f' hi hi' fun he => hjk ?_
    subst he
    obtain ⟨l1, e1⟩ := List.getElem?_eq_some_iff.1 h1
    obtain ⟨l2, e2⟩ := List.getElem?_eq_some_iff.1 h2
    have hp := List.pairwise_iff_getElem.1 nd
    rcases Nat.lt_trichotomy j k with h3 | h3 | h3
    · exact absurd (e1.trans e2.symm) (hp j k l1 l2 h3)
    · exact h3
    · exact absurd (e2.trans e1.symm) (hp k j l2 l1 h3)
/-- A slice that is none owns nothing. -/
theorem Fr.none_ (h : Fr X w0 w es) (b : Nat) (e : TypeId) (size : Nat) : Fr X w0 w (.own b e size (.slice none 0 0) 0 [] :: es) :=
  h.push (e := .own b e size (.slice none 0 0) 0 []) (World.ownsRow_nil _ _ _ _) fun b hb => by cases hb
theorem own_parts {b : Nat} {e : TypeId} {size n : Nat} {v : Value} {xs : List Value} (h : w.ownsRow b e size v n xs) : ∃ A c, v = .slice A n c ∧ n ≤ c := by
  rcases h.2 with ⟨h1, h2⟩ | ⟨g, cap, cur, h1, _, _, h2, _⟩
  · subst h2; exact ⟨none, 0, h1, Nat.le_refl _⟩
  · exact ⟨_, _, h1, h2⟩
theorem Fr.ownParts (h : Fr X w0 w es) {i b : Nat} {e : TypeId} {size n : Nat} {v : Value} {xs : List Value} (hi : es[i]? = some (.own b e size v n xs)) : ∃ A c, v = .slice A n c ∧ n ≤ c := own_parts (w := w) (h.holds i _ hi)
end
end Go.Proofs.YtpdbjhgphgcjoaaDoor

namespace Go.Proofs.YtpdbjhgphgcjoaaDoor
open Go.RowKit

section
variable {P : Program} {o : Oper} {a : Act}
theorem yi_run {S : World → Prop} {ops : Array Oper} {v : Value} (hw : Region.wanted o (yielded ops a.tmps) = true) (h : ∀ w, S w → (execOp a.eval o).run P w = .ok (.value v) w) : YieldsIf P ops S o v a := .inl ⟨hw, h⟩
theorem yi_ix {S : World → Prop} {ops : Array Oper} (hw : Region.wanted o (yielded ops a.tmps) = true) {t e : TypeId} {size bytes : Nat} {z : Value} (T : SlT P t e size bytes z) {A : Option Addr} {n k : Nat} {j : Int} (hA : 0 < n → A = some (A.getD default))
    (ho : IsIx o a t A n j) (hj : j = (k : Int)) (hk : k < n) : YieldsIf P ops S o (.pointer (some (atp A (k * size)))) a := by
  refine yi_run hw fun w _ => ?_
  obtain ⟨x, i, c, kd, ho, hx, hi⟩ := ho
  obtain ⟨i', hi', _, hsz, _⟩ := info_parts T.info
  have hA := hA (by omega)
  have he : P.elem t = e := by simp [Program.elem, T.und]
  subst hj
  unfold execOp
  have hrun := run_indexAt_slice (P := P) w t (A.getD default) n c kd (k : Int) (by rw [he]; exact T.und)
  rw [if_pos ⟨by omega, by omega⟩] at hrun
  simp only [ho, hx, hi]
  rw [hA]
  simp [hrun, he, sizeOf, typeInfo, hi', hsz, atp]
theorem yi_ld {S : World → Prop} {ops : Array Oper} (hw : Region.wanted o (yielded ops a.tmps) = true) {S' : World → Nat → Prop} {A : Option Addr} {n size : Nat} {xs : List Value} (hr : ∀ w, S w → Rd w (S' w) A size n xs) {e : TypeId} {j : Nat} {u : Value} {d : TypeDesc} (hu : P.underlying e = some d) (hd : aggT d = false)
    (ho : IsLd o a e (atp A j)) (hj : xs[j]? = some u) : YieldsIf P ops S o u a := by
  refine yi_run hw fun w hS => ?_
  obtain ⟨x, ho, hx⟩ := ho
  have hc := (hr w hS).cell j u hj
  have hagg := run_isAgg hu w
  rw [hd] at hagg
  unfold execOp
  simp [ho, hx, Instr.loadAt, Instr.sureAddr, loadVar, hagg, hc]
theorem yi_ldA {S : World → Prop} {ops : Array Oper} (hw : Region.wanted o (yielded ops a.tmps) = true) {S' : World → Nat → Prop} {A : Option Addr} {n size : Nat} {xs : List Value} (hr : ∀ w, S w → Rd w (S' w) A size n xs) {e : TypeId} {j : Nat} {d : TypeDesc} (hu : P.underlying e = some d) (hd : aggT d = true)
    (ho : IsLd o a e (atp A j)) {ds : List Value} (hs : (P.info? e).map (·.size) = some ds.length) (hc : (xs.drop j).take ds.length = ds) : YieldsIf P ops S o (.agg ds.toArray) a := by
  refine yi_run hw fun w hS => ?_
  obtain ⟨x, ho, hx⟩ := ho
  have hagg := run_isAgg hu w
  rw [hd] at hagg
  obtain ⟨i, hi, hsz⟩ := Option.map_eq_some_iff.1 hs
  have hl : (loadCells (atp A j) ds.length).run P w = .ok ds.toArray w := run_loadCells_list (P := P) w (atp A j) ds (fun q v hv => by
    unfold atp
    rw [add_add]
    refine (hr w hS).cell (j + q) v ?_
    rw [← hc, List.getElem?_take] at hv
    split at hv
    · rw [List.getElem?_drop] at hv; exact hv
    · cases hv)
  unfold execOp
  simp [ho, hx, Instr.loadAt, Instr.sureAddr, loadVar, hagg, sizeOf, typeInfo, hi, hsz, hl]
/-- Two arrays of bytes compared: they differ? -/
theorem yi_neB {S : World → Prop} {ops : Array Oper} (hw : Region.wanted o (yielded ops a.tmps) = true) {t e : TypeId} {n : Nat} (ht : P.underlying t = some (.array n e)) (he : P.underlying e = some (.int .u8)) (hs : (P.info? e).map (·.size) = some 1) (hg : P.eqGuardType P.depth t = false) {l m : List UInt8} (hl : l.length = n) (hm : m.length = n)
    {x y : Operand} {ty : TypeId} (ho : o.op = .binOp .neq t x y ty) (hx : a.eval x = .agg (l.map bv).toArray) (hy : a.eval y = .agg (m.map bv).toArray) {r : Bool} (hr : (l == m) = r) : YieldsIf P ops S o (.bool (!r)) a := by
  subst hr
  refine yi_run hw fun w _ => ?_
  have h1 := run_eqGuard_agg (P := P) w .neq t x y (l.map bv).toArray (m.map bv).toArray hg
  have h2 := run_neq_struct (P := P) w t (l.map bv).toArray (m.map bv).toArray
  have h3 := run_eqBytes (P := P) ht he hs l m hl hm 9998 w
  unfold execOp
  simp only [ho, hx, hy, Sem.run_bind, h1, h2, h3, Result.andThen_ok, Sem.run_pure]
end
end Go.Proofs.YtpdbjhgphgcjoaaDoor

namespace Go.Proofs.YtpdbjhgphgcjoaaDoor
open Go.RowKit

theorem Rd.same {w w0 : World} {S : Nat → Prop} {A : Option Addr} {size n : Nat} {xs : List Value} (h : Rd w S A size n xs) (hk : ∀ k, S k → w0.heap[k]? = w.heap[k]?) : Rd w0 S A size n xs :=
  ⟨h.len, h.some_, h.inS, fun j u hu => by
    rw [← h.cell j u hu]
    exact World.cell?_of_block (w := w) (hk _ (by rw [atp_block]; exact h.inS (h.pos_of hu)))⟩
def recF : Rec × Int := (Rec.zero, 10)
/-- The record of a kind, two texts, a sum and what stands behind. -/
def recT (k : Int) (repo tag d tl : List UInt8) : Rec × Int :=
  if tl.length = 8 then if getN tl ≤ 1099511627776 then if recOk ⟨k, ⟨repo.toArray⟩, ⟨tag.toArray⟩, d, (getN tl : Int)⟩ = true then (⟨k, ⟨repo.toArray⟩, ⟨tag.toArray⟩, d, (getN tl : Int)⟩, 0) else recF else recF else recF
def recM (k : Int) (repo tag rest : List UInt8) : Rec × Int :=
  if k = 1 then if 32 ≤ rest.length then recT k repo tag (rest.take 32) (rest.drop 32) else recF else recT k repo tag zeros rest
def recD (l : List UInt8) : Rec × Int :=
  match l[0]? with
  | none => recF
  | some x =>
    if (rdt (l.drop 1) 128).2.2 = 0 then
      if (rdt (l.drop (1 + (rdt (l.drop 1) 128).2.1)) 128).2.2 = 0 then
        recM (x.toNat : Int) (rdt (l.drop 1) 128).1 (rdt (l.drop (1 + (rdt (l.drop 1) 128).2.1)) 128).1 (l.drop (1 + (rdt (l.drop 1) 128).2.1 + (rdt (l.drop (1 + (rdt (l.drop 1) 128).2.1)) 128).2.1))
      else recF
    else recF
theorem rdt_most (l : List UInt8) : (rdt l 128).1.length ≤ 128 := by
  unfold rdt
  simp only []
  repeat' split
  all_goals simp only [List.length_nil, List.length_take, List.length_drop]
  all_goals omega

section
variable {P : Program} {o : Oper} {a : Act}
def cutA (A : Option Addr) (l m : Nat) : Option Addr := if m = l then A else A.map (·.add l)
theorem run_cutX {t e : TypeId} (T : SlT P t e 1 1 (.int .u8 0)) (w : World) {A : Option Addr} {n c : Nat}
    {lo hi mx : Option Int} (ho : IsCut o a t A n c lo hi mx) {l h m : Nat} (hl : lo.getD 0 = (l : Int)) (hh : hi.getD (n : Int) = (h : Int)) (hm : mx.getD (c : Int) = (m : Int)) (hmx : mx.isSome = true → hi.isSome = true)
    (h1 : l ≤ h) (h2 : h ≤ n) (h3 : h ≤ m) (h4 : m ≤ c) :
    (execOp a.eval o).run P w = .ok (.value (.slice (cutA A l m) (h - l) (m - l))) w := by
  obtain ⟨x, ol, oh, om, k1, k2, k3, ho, hx, b1, b2, b3⟩ := ho
  obtain ⟨i', hi', _, hsz, _⟩ := info_parts T.info
  unfold execOp
  have hrun : ∀ (lv hv mv : Option Value), lv = lo.map (.int k1) → hv = hi.map (.int k2) → mv = mx.map (.int k3) →
      (Instr.sliceBounds true n c lv hv mv).run P w = .ok (l, h, m) w := by
    intro lv hv mv e1 e2 e3
    subst e1 e2 e3
    have h5 : h ≤ c := by omega
    have h6 : l ≤ n := by omega
    cases lo <;> cases hi <;> cases mx <;> simp at hl hh hm hmx <;> subst_vars <;> simp [Instr.sliceBounds, run_bound, h1, h3, h4, h5, h6] <;> omega
  have e1 : ol.map a.eval = lo.map (.int k1) := b1
  have e2 : oh.map a.eval = hi.map (.int k2) := b2
  have e3 : om.map a.eval = mx.map (.int k3) := b3
  simp [ho, hx, Instr.sliceAt, Instr.slice, run_underlying T.und, hrun _ _ _ e1 e2 e3, sizeOf, typeInfo, hi', hsz, cutA]
theorem cut_rd {w : World} {S : Nat → Prop} {A : Option Addr} {n l h m : Nat} {bs : List UInt8} (hr : Rd w S A 1 n (bs.map bv)) (h1 : l ≤ h) (h2 : h ≤ n) (h3 : h ≤ m) : Rd w S (cutA A l m) 1 (h - l) (((bs.take h).drop l).map bv) := by
  have hrc := hr.cut (m = l) h1 h2 (fun hml => by omega)
  simp only [Nat.mul_one, ← List.map_take, ← List.map_drop] at hrc
  exact hrc
theorem yi_cut {S : World → Prop} {ops : Array Oper} (hw : Region.wanted o (yielded ops a.tmps) = true) {t e : TypeId} (T : SlT P t e 1 1 (.int .u8 0)) {A : Option Addr} {n c : Nat}
    {lo hi mx : Option Int} (ho : IsCut o a t A n c lo hi mx) {l h m : Nat} (hl : lo.getD 0 = (l : Int)) (hh : hi.getD (n : Int) = (h : Int)) (hm : mx.getD (c : Int) = (m : Int)) (hmx : mx.isSome = true → hi.isSome = true)
    (h1 : l ≤ h) (h2 : h ≤ n) (h3 : h ≤ m) (h4 : m ≤ c) : YieldsIf P ops S o (.slice (cutA A l m) (h - l) (m - l)) a :=
  yi_run hw fun w _ => run_cutX T w ho hl hh hm hmx h1 h2 h3 h4
theorem run_b2s {t st e : TypeId} {size bytes : Nat} {z : Value} (T : SlT P t e size bytes z) (he : P.underlying e = some (.int .u8)) (hst : P.underlying st = some .string) {w : World} {S : Nat → Prop} {A : Option Addr} {n c : Nat} {l : List UInt8} (hr : Rd w S A 1 n (l.map bv))
    (ho : IsCv o a t st (.slice A n c)) : (execOp a.eval o).run P w = .ok (.value (.string ⟨l.toArray⟩)) w := by
  obtain ⟨x, ho, hx⟩ := ho
  have hl := hr.bytes_len
  have hrun : (convert t st (.slice A n c)).run P w = .ok (.string ⟨l.toArray⟩) w := by
    rw [run_convert_bytes_string w t st e A n c T.und he hst]
    cases hA : A with
    | none =>
      have hn : n = 0 := by
        rcases Nat.eq_zero_or_pos n with h | h
        · exact h
        · have := hr.some_ h; rw [hA] at this; cases this
      have : l = [] := List.eq_nil_of_length_eq_zero (by omega)
      subst this
      simp [Conv.bytesToString]
      rfl
    | some ad =>
      have hld : (loadCells ad n).run P w = .ok ((l.map (fun b => (b.toNat : Int))).map (Value.int .u8)).toArray w := by
        have h2 := run_loadCells_list (P := P) w ad (l.map bv) (fun j v hv => by
          have := hr.cell j v hv
          rwa [hA] at this)
        rw [List.length_map, hl] at h2
        rw [h2, List.map_map]
        rfl
      rw [run_bytesToString w ad n c _ hld, fold_push]
      simp
  unfold execOp
  simp [ho, hx, hrun]
theorem yi_b2s {S : World → Prop} {ops : Array Oper} (hw : Region.wanted o (yielded ops a.tmps) = true) {t st e : TypeId} {size bytes : Nat} {z : Value} (T : SlT P t e size bytes z) (he : P.underlying e = some (.int .u8)) (hst : P.underlying st = some .string) {S' : World → Nat → Prop} {A : Option Addr} {n c : Nat} {l : List UInt8}
    (hr : ∀ w, S w → Rd w (S' w) A 1 n (l.map bv)) (ho : IsCv o a t st (.slice A n c)) : YieldsIf P ops S o (.string ⟨l.toArray⟩) a :=
  yi_run hw fun w hS => run_b2s T he hst (hr w hS) ho
end
end Go.Proofs.YtpdbjhgphgcjoaaDoor

namespace Go.Proofs.YtpdbjhgphgcjoaaDoor
open Go.RowKit

set_option maxRecDepth 20000 in
set_option maxHeartbeats 400000 in
theorem readCount_any (A : Option Addr) (n c : Nat) (l : List UInt8) (w : World) (hm : n ≤ 9223372036854775807) (hr : Rd w (· < w.heap.size) A 1 n (l.map bv)) :
    Calls Tryd.prog 42 #[.slice A n c] w fun e w' => e = .returned (.tuple #[.int .u64 (rdc 0 0 l).1, .int .i64 (rdc 0 0 l).2.1, .int .i64 (rdc 0 0 l).2.2]) ∧ w = w' := by
  have hl := box hr.bytes_len
  go_enter Tryd.func42, Tryd.ntmps42
  go_wp2
  go_loop [5, 10] (fun x i => ∃ k C : Nat, k ≤ 9 ∧ k ≤ n ∧ Box (RdcAt l k C) ∧ i = .int .i64 k ∧ x = .int .u64 (C : Nat)) (fun _ i => n - (intOf i).toNat)
  case atStart => exact ⟨0, 0, by omega, by omega, box ⟨by omega, by simp, by simp⟩, rfl, rfl⟩
  case round =>
    obtain ⟨k, C, hk9, hk, HR, rfl, rfl⟩ := hrel
    by_cases hlt : k < n
    · obtain ⟨d, hd⟩ : ∃ d, l[k]? = some d := ⟨l[k]'(by have := hl.out; omega), by simp⟩
      have hs := rdc_step HR.out hd
      replace hd := box hd
      have dlt : d.toNat < 256 := d.toNat_lt
      have h127 := and127 d
      by_cases hA : (k = 9 ∧ 1 < d.toNat) ∨ (0 < k ∧ d.toNat = 0)
      · rw [if_pos hA] at hs
        have hs' := box hs
        clear hs
        rcases hA with ⟨h1, h2⟩ | ⟨h1, h2⟩
        · go_wp2_with (first | (with_reducible refine lst (by with_unfolding_all rfl) (wp_indexAddr T_u8 hr (by with_unfolding_all exact ⟨_, _, _, _, rfl, rfl, rfl⟩) (by omega) (by omega) ?_)) | (with_reducible refine lst (by with_unfolding_all rfl) (wp_loadC hr hd Tryd.underlying5 rfl (by with_unfolding_all exact ⟨_, rfl, rfl⟩) (by first | (simp; done) | (simp; omega) | omega) ?_)))
          go_ret3
          exact ⟨by rw [hs'.out]; rfl, rfl⟩
        · by_cases h9 : k = 9
          all_goals
            go_wp2_with (first | (with_reducible refine lst (by with_unfolding_all rfl) (wp_indexAddr T_u8 hr (by with_unfolding_all exact ⟨_, _, _, _, rfl, rfl, rfl⟩) (by omega) (by omega) ?_)) | (with_reducible refine lst (by with_unfolding_all rfl) (wp_loadC hr hd Tryd.underlying5 rfl (by with_unfolding_all exact ⟨_, rfl, rfl⟩) (by first | (simp; done) | (simp; omega) | omega) ?_)))
            go_ret3
            exact ⟨by rw [hs'.out]; rfl, rfl⟩
      · rw [if_neg hA] at hs
        obtain ⟨T, hT⟩ : ∃ T, T = d.toNat % 128 * 2 ^ (7 * k) := ⟨_, rfl⟩
        rw [← hT] at hs
        have hT1 := rdc_shift d k T hk9 (fun h => by omega) hT
        have hO := rdc_or C T k d HR.out.2.1 hT1.2 hT hk9
        replace hT1 := hT1.1
        replace hT := box hT
        by_cases hd8 : d.toNat < 128
        · rw [if_pos hd8] at hs
          replace hs := box hs
          have hz : ((d.toNat : Int) == 0) = true ∧ ¬ 0 < k ∨ ((d.toNat : Int) == 0) = false := by
            by_cases h0 : d.toNat = 0
            · exact .inl ⟨by simp [h0], by omega⟩
            · exact .inr (by simp; omega)
          have h9 : ((k : Int) == 9) = true ∧ ¬ 1 < (d.toNat : Int) ∨ ((k : Int) == 9) = false := by
            by_cases h0 : k = 9
            · exact .inl ⟨by simp; omega, by omega⟩
            · exact .inr (by simp; omega)
          replace hA := box hA
          rcases hz with ⟨hz, hk0⟩ | hz <;> rcases h9 with ⟨h9, hd1⟩ | h9
          all_goals
            go_wp2_with (first | (with_reducible refine lst (by with_unfolding_all rfl) (wp_indexAddr T_u8 hr (by with_unfolding_all exact ⟨_, _, _, _, rfl, rfl, rfl⟩) (by omega) (by omega) ?_)) | (with_reducible refine lst (by with_unfolding_all rfl) (wp_loadC hr hd Tryd.underlying5 rfl (by with_unfolding_all exact ⟨_, rfl, rfl⟩) (by first | (simp; done) | (simp; omega) | omega) ?_)))
            go_ret3
            exact ⟨by rw [hs.out]; rfl, rfl⟩
        · rw [if_neg hd8] at hs
          have hkn : k + 1 ≤ 9 := by omega
          have h9 : ((k : Int) == 9) = false := by simp; omega
          replace hs : Box (RdcAt l (k + 1) (C + T)) := box ⟨hkn, rdc_next HR.out.2.1 hT.out, hs⟩
          replace hA := box hA
          go_wp2_with (first | (with_reducible refine lst (by with_unfolding_all rfl) (wp_indexAddr T_u8 hr (by with_unfolding_all exact ⟨_, _, _, _, rfl, rfl, rfl⟩) (by omega) (by omega) ?_)) | (with_reducible refine lst (by with_unfolding_all rfl) (wp_loadC hr hd Tryd.underlying5 rfl (by with_unfolding_all exact ⟨_, rfl, rfl⟩) (by first | (simp; done) | (simp; omega) | omega) ?_)))
          go_round
          case rel => exact ⟨k + 1, C + T, hkn, by omega, hs, by go_num, rfl⟩
          case measure => simp [intOf]; omega
    · have hs := HR.out.2.2
      rw [List.drop_of_length_le (by have := hl.out; omega), rdc] at hs
      replace hs := box hs
      go_wp2
      go_ret3
      exact ⟨by rw [hs.out]; rfl, rfl⟩
end Go.Proofs.YtpdbjhgphgcjoaaDoor

namespace Go.Proofs.YtpdbjhgphgcjoaaDoor
open Go.RowKit

set_option maxRecDepth 20000 in
set_option maxHeartbeats 800000 in
theorem readText_any (A : Option Addr) (n c : Nat) (l : List UInt8) (most : Int) (w : World) (hm : n ≤ 140737488355000) (hnc : n ≤ c) (hmo : most ≤ 9223372036854775807) (hr : Rd w (· < w.heap.size) A 1 n (l.map bv)) :
    Calls Tryd.prog 31 #[.slice A n c, .int .i64 most] w fun e w' => ∃ v, e = .returned (.tuple #[v, .int .i64 (rdt l most).2.1, .int .i64 (rdt l most).2.2]) ∧ OwnB w' w.heap.size 5 v (rdt l most).1 ∧ Below w.heap.size w w' := by
  have hrc := box (readCount_any A n c l w (by omega) hr)
  have hway := rdt_way hr.bytes_len most
  have h64 := box (rdc_lt l)
  have herr := rdc_err l 0 0
  generalize (rdc 0 0 l).1 = x at *
  generalize (rdc 0 0 l).2.1 = u at *
  generalize (rdc 0 0 l).2.2 = er at *
  generalize rdt l most = r at *
  have herr' : er ≤ 10 := by omega
  clear herr
  rcases hway.way with ⟨h0, rfl⟩ | ⟨rfl, hu, ⟨h1, rfl⟩ | ⟨h1, ⟨h2, rfl⟩ | ⟨h2, rfl⟩⟩⟩
  · clear hway
    have hne : ((er : Int) != 0) = true := by simp; omega
    go_enter Tryd.func31, Tryd.ntmps31
    go_wp2_with fail
    refine hrc.out.mono ?_
    rintro e w1 ⟨rfl, rfl⟩
    go_wp2
    go_ret3
    exact ⟨_, rfl, OwnB.nil _ _ _, Below.refl _ _⟩
  · clear hway
    by_cases hmn : most < 0
    · go_enter Tryd.func31, Tryd.ntmps31
      go_wp2_with fail
      refine hrc.out.mono ?_
      rintro e w1 ⟨rfl, rfl⟩
      go_wp2
      go_ret3
      exact ⟨_, rfl, OwnB.nil _ _ _, Below.refl _ _⟩
    · go_enter Tryd.func31, Tryd.ntmps31
      go_wp2_with fail
      refine hrc.out.mono ?_
      rintro e w1 ⟨rfl, rfl⟩
      go_wp2
      go_ret3
      exact ⟨_, rfl, OwnB.nil _ _ _, Below.refl _ _⟩
  · clear hway
    have hmn : ¬ most < 0 := by omega
    go_enter Tryd.func31, Tryd.ntmps31
    go_wp2_with fail
    refine hrc.out.mono ?_
    rintro e w1 ⟨rfl, rfl⟩
    go_wp2
    go_ret3
    exact ⟨_, rfl, OwnB.nil _ _ _, Below.refl _ _⟩
  · clear hway
    have hmn : ¬ most < 0 := by omega
    have hr' := hr.mapB (k := u) (j := x) (by omega)
    have hb0 := Below.refl w.heap.size w
    have hB0 := Nat.le_refl w.heap.size
    go_enter Tryd.func31, Tryd.ntmps31
    go_wp2_with fail
    refine hrc.out.mono ?_
    rintro e w1 ⟨rfl, rfl⟩
    have hn0 : ([] : List UInt8).length + (u + x - u) ≤ 140737488355328 := by simp; omega
    go_wp2_with (first | ((with_reducible refine lst (by with_unfolding_all rfl) (wp_build0 T_u8 hb0 hB0 (by with_unfolding_all rfl) ?_)); intro v1 w1 hown1 hb1 hB1 hg1) | (at_builtin; go_must (with_reducible refine lst (by with_unfolding_all rfl) (wp_appB T_u8 hown1 hb1 hr2 (by with_unfolding_all exact ⟨_, _, rfl, rfl, rfl⟩) hn0 hB1 ?_); intro v' w1 hown1 hb1 hg1 hB1)) | ((with_reducible refine lst (by with_unfolding_all rfl) (wp_cutB T_u8 (hr.below hb1) hnc (lo := (some (u:Int))) (hi := (some ((u:Int)+(x:Int)))) (mx := (some ((u:Int)+(x:Int)))) ?_ (l := u) (h := (u+x)) (m := (u+x)) (by first | (simp; done) | (simp; omega)) (by first | (simp; done) | (simp; omega)) (by first | (simp; done) | (simp; omega)) (by simp) (by omega) (by omega) (by omega) (by omega) ?_)); exact ⟨_, _, _, _, .i64, .i64, .i64, rfl, rfl, rfl, rfl, rfl⟩; intro A2 c2 hr2 hc2 hc3))
    go_ret3
    rw [List.nil_append, List.drop_take, Nat.add_sub_cancel_left] at hown1
    exact ⟨v', ret3 rfl (int_eq (by simp)) rfl, hown1, hb1⟩
end Go.Proofs.YtpdbjhgphgcjoaaDoor
