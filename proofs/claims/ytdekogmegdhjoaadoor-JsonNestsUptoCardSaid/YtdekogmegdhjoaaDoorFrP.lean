/-
  The laws over a frame of known blocks, by the place of the entry. (Printed by gen_frp.py.) No program is named here.
-/
import Derived.Test.YtdekogmegdhjoaaDoorFr3
namespace Go.Proofs.YtdekogmegdhjoaaDoor
open Go.RowKit

theorem own_or {v v' : Value} {B : Nat} (hv : ∀ k, v'.ownBlock = some k → B ≤ k ∨ v.ownBlock = some k) : v'.ownBlock = v.ownBlock ∨ ∀ k, v'.ownBlock = some k → B ≤ k := by
  cases h : v'.ownBlock with
  | none => exact .inr fun k hk => by cases hk
  | some k =>
    rcases hv k h with h1 | h1
    · exact .inr fun j hj => by injection hj with hj; omega
    · exact .inl h1.symm
theorem put_got {X : List Nat} {w0 w w' : World} {es : List Ent} (hF : Fr X w0 w es) {i g : Nat} {t : TypeId} {cs cs' : List Value} (hi : es[i]? = some (.blk g t cs)) (hg : w.grownBy w' (some g)) (hb : w'.heap[g]? = some (.cells cs'.toArray t (0, 0))) {e : TypeId} {v : Value} {l : List UInt8} (ho : OwnB w' w.heap.size e v l) : Fr X w0 w' (Ent.bytes w0.heap.size e v l :: es.set i (.blk g t cs')) := by
  refine (hF.put hi (e' := .blk g t cs') hg hb (.inl rfl)).push (e := Ent.bytes w0.heap.size e v l) ?_ fun b hb => ?_
  · refine ⟨ho.own.1, ho.own.2.imp id ?_⟩
    rintro ⟨g, cap, cur, hv, hg, rest⟩
    exact ⟨g, cap, cur, hv, Nat.le_trans hF.size hg, rest⟩
  · have hge : w.heap.size ≤ b := (ho.own.lt b hb).1
    refine ⟨.inl (Nat.le_trans hF.size hge), fun j f hj hf => ?_⟩
    have hlt : b < w.heap.size := by
      rw [List.getElem?_set] at hj
      by_cases hij : i = j
      · rw [if_pos hij] at hj
        by_cases hil : i < es.length
        · rw [if_pos (hij ▸ hil)] at hj
          injection hj with hj
          subst hj
          injection hf with hf
          subst hf
          exact hF.lt hi
        · rw [if_neg (hij ▸ hil)] at hj; cases hj
      · rw [if_neg hij] at hj
        exact Ent.lt (hF.holds j f hj) hf
    omega
section laws
variable {P : Program} {o : Oper} {a : Act} {X : List Nat} {w0 w : World} {es : List Ent} {K : Act → World → Prop} {Q : Exit → Act → World → Prop}
variable {g : Nat} {t : TypeId} {cs : List Value} {e0 e1 e2 e3 e4 e5 : Ent}
theorem wp_fld0 (hF : Fr X w0 w (.blk g t cs :: es)) {e : TypeId} {d : TypeDesc} (hu : P.underlying e = some d) (hd : aggT d = false) {off : Nat} (ho : IsLd o a e ⟨g, off, none⟩) {u : Value} (hc : cs[off]? = some u) (k : K (a.put o.dst u) w) : o.wp P a w K Q :=
  wp_fld hF (i := 0) rfl hu hd ho hc k
theorem wp_fldA0 (hF : Fr X w0 w (.blk g t cs :: es)) {e : TypeId} {d : TypeDesc} (hu : P.underlying e = some d) (hd : aggT d = true) {off : Nat} (ho : IsLd o a e ⟨g, off, none⟩) {ds : List Value} (hs : (P.info? e).map (·.size) = some ds.length) (hc : (cs.drop off).take ds.length = ds) (k : K (a.put o.dst (.agg ds.toArray)) w) : o.wp P a w K Q :=
  wp_fldA hF (i := 0) rfl hu hd ho hs hc k
theorem wp_fst0 (hF : Fr X w0 w (.blk g t cs :: es)) {e : TypeId} {off : Nat} {v : Value} (ho : IsSt o a e ⟨g, off, none⟩ v) (hs : (P.info? e).map (·.size) = some 1) (hv : v.cells = #[v]) (h1 : v.oneCell' = true) (hl : off < cs.length) {cs' : List Value} (hcs : spl cs off [v] = cs')
    (k : ∀ w', Fr X w0 w' (.blk g t cs' :: es) → w'.heap.size = w.heap.size → K (a.put o.dst undef) w') : o.wp P a w K Q := by
  subst hcs; exact wp_fst hF (i := 0) rfl ho hs hv h1 hl k
theorem wp_fstA0 (hF : Fr X w0 w (.blk g t cs :: es)) {e : TypeId} {off : Nat} {ds : List Value} (ho : IsSt o a e ⟨g, off, none⟩ (.agg ds.toArray)) (hs : (P.info? e).map (·.size) = some ds.length) (h1 : ∀ u ∈ ds, u.oneCell' = true) (hl : off + ds.length ≤ cs.length) {cs' : List Value} (hcs : spl cs off ds = cs')
    (k : ∀ w', Fr X w0 w' (.blk g t cs' :: es) → w'.heap.size = w.heap.size → K (a.put o.dst undef) w') : o.wp P a w K Q := by
  subst hcs; exact wp_fstA hF (i := 0) rfl ho hs h1 hl k
theorem wp_fapp0 {sl e : TypeId} (T : SlT P sl e 1 1 (.int .u8 0)) {b : Nat} {v : Value} {l : List UInt8} (hF : Fr X w0 w (.bytes b e v l :: es)) (hb : b ≤ w0.heap.size) {S : Nat → Prop} {A : Option Addr} {m c : Nat} {l' : List UInt8} (hr : Rd w S A 1 m (l'.map bv))
    (ho : IsApp o a sl v (.slice A m c)) (hroom : l.length + m ≤ 140737488355328)
    (k : ∀ v' w', Fr X w0 w' (Ent.bytes b e v' (l ++ l') :: es) → w.heap.size ≤ w'.heap.size → K (a.put o.dst v') w') : o.wp P a w K Q :=
  wp_fapp T hF (i := 0) rfl hb hr ho hroom k
theorem wp_fcopy0 {dT sT el : TypeId} (hu : P.underlying dT = some (.slice el)) (hs : (P.info? el).map (·.size) = some 1) (hF : Fr X w0 w (.blk g t cs :: es)) {S : Nat → Prop} {A : Option Addr} {off n m c dc : Nat} {xs : List Value} (hr : Rd w S A 1 m xs) (h1 : ∀ u ∈ xs, u.oneCell' = true)
    {d s : Operand} (ho : o.op = .call { callee := .builtin .copy, args := #[d, s], argTypes := #[dT, sT] }) (hd : a.eval d = .slice (some ⟨g, off, none⟩) n dc) (hsrc : a.eval s = .slice A m c) (hl : off + n ≤ cs.length) {cs' : List Value} (hcs : spl cs off (xs.take n) = cs')
    (k : ∀ w', Fr X w0 w' (.blk g t cs' :: es) → w'.heap.size = w.heap.size → K (a.put o.dst (goInt (Nat.min m n))) w') : o.wp P a w K Q := by
  subst hcs; exact wp_fcopy hu hs hF (i := 0) rfl hr h1 ho hd hsrc hl k
theorem Fr.cell0 (hF : Fr X w0 w (.blk g t cs :: es)) {off : Nat} {u : Value} (hc : cs[off]? = some u) : w.cell? ⟨g, off, none⟩ = some u := by
  rw [cell_of_row w g off _ t (0, 0) (hF.blk (i := 0) rfl)]; simpa using hc
theorem Fr.heap0 (hF : Fr X w0 w (.blk g t cs :: es)) : w.heap[g]? = some (.cells cs.toArray t (0, 0)) := hF.blk (i := 0) rfl
theorem Fr.rdBlk0 (hF : Fr X w0 w (.blk g t cs :: es)) {off n : Nat} {xs : List Value} (hx : xs.length = n) (hc : (cs.drop off).take n = xs) : Rd w (· < w.heap.size) (some ⟨g, off, none⟩) 1 n xs := hF.rdBlk (i := 0) rfl hx hc
theorem Fr.rdOwn0 {b : Nat} {e : TypeId} {size n m c : Nat} {A : Option Addr} {xs : List Value} (hF : Fr X w0 w (.own b e size (.slice A n c) m xs :: es)) : Rd w (· < w.heap.size) A size n xs := hF.rdOwn (i := 0) rfl
theorem Fr.rd0 {size n : Nat} {A : Option Addr} {xs : List Value} (hF : Fr X w0 w (.rd A size n xs :: es)) : Rd w (· < w.heap.size) A size n xs := hF.rd (i := 0) rfl
theorem Fr.bytes0 {b : Nat} {e : TypeId} {v : Value} {l : List UInt8} (hF : Fr X w0 w (.bytes b e v l :: es)) : OwnB w b e v l := hF.own (i := 0) rfl
/-- A callee has changed the block. -/
theorem Fr.put0 {w' : World} (hF : Fr X w0 w (.blk g t cs :: es)) {cs' : List Value} (hg : w.grownBy w' (some g)) (hb : w'.heap[g]? = some (.cells cs'.toArray t (0, 0))) : Fr X w0 w' (.blk g t cs' :: es) := hF.put (i := 0) (e' := .blk g t cs') rfl hg hb (.inl rfl)
/-- A callee has changed the block, and hands back bytes of its own. -/
theorem Fr.putGot0 {w' : World} (hF : Fr X w0 w (.blk g t cs :: es)) {cs' : List Value} (hg : w.grownBy w' (some g)) (hb : w'.heap[g]? = some (.cells cs'.toArray t (0, 0))) {e : TypeId} {v : Value} {l : List UInt8} (ho : OwnB w' w.heap.size e v l) : Fr X w0 w' (Ent.bytes w0.heap.size e v l :: (.blk g t cs' :: es)) := put_got hF (i := 0) rfl hg hb ho
/-- A callee has appended to the bytes. -/
theorem Fr.putB0 {w' : World} {b : Nat} {e : TypeId} {v v' : Value} {l l' : List UInt8} (hF : Fr X w0 w (.bytes b e v l :: es)) (hg : w.grownBy w' v.ownBlock) (hb : OwnB w' b e v' l') (hv : ∀ k, v'.ownBlock = some k → w.heap.size ≤ k ∨ v.ownBlock = some k) : Fr X w0 w' (Ent.bytes b e v' l' :: es) := hF.put (i := 0) (e' := Ent.bytes b e v' l') rfl hg hb.own (own_or hv)
theorem results_cellF_0 {fn : Func} {p : Tmp} {ty : TypeId} (hF : Fr X w0 w (.blk g t cs :: es)) (h : fn.results = #[.cell p ty]) (tmps : Array Value) (hp : tmps.getD p undef = .pointer (some ⟨g, 0, none⟩)) {d : TypeDesc} (hu : P.underlying ty = some d) (hd : aggT d = true) (hs : (P.info? ty).map (·.size) = some cs.length) : (results fn tmps).run P w = .ok (.agg cs.toArray) w :=
  results_cellF h tmps hF (i := 0) rfl hp hu hd hs
theorem results_cellF2_0 {fn : Func} {p q : Tmp} {ty : TypeId} (hF : Fr X w0 w (.blk g t cs :: es)) (h : fn.results = #[.cell p ty, .tmp q]) (tmps : Array Value) (hp : tmps.getD p undef = .pointer (some ⟨g, 0, none⟩)) {d : TypeDesc} (hu : P.underlying ty = some d) (hd : aggT d = true) (hs : (P.info? ty).map (·.size) = some cs.length) : (results fn tmps).run P w = .ok (.tuple #[.agg cs.toArray, tmps.getD q undef]) w :=
  results_cellF2 h tmps hF (i := 0) rfl hp hu hd hs
theorem wp_fld1 (hF : Fr X w0 w (e0 :: .blk g t cs :: es)) {e : TypeId} {d : TypeDesc} (hu : P.underlying e = some d) (hd : aggT d = false) {off : Nat} (ho : IsLd o a e ⟨g, off, none⟩) {u : Value} (hc : cs[off]? = some u) (k : K (a.put o.dst u) w) : o.wp P a w K Q :=
  wp_fld hF (i := 1) rfl hu hd ho hc k
theorem wp_fldA1 (hF : Fr X w0 w (e0 :: .blk g t cs :: es)) {e : TypeId} {d : TypeDesc} (hu : P.underlying e = some d) (hd : aggT d = true) {off : Nat} (ho : IsLd o a e ⟨g, off, none⟩) {ds : List Value} (hs : (P.info? e).map (·.size) = some ds.length) (hc : (cs.drop off).take ds.length = ds) (k : K (a.put o.dst (.agg ds.toArray)) w) : o.wp P a w K Q :=
  wp_fldA hF (i := 1) rfl hu hd ho hs hc k
theorem wp_fst1 (hF : Fr X w0 w (e0 :: .blk g t cs :: es)) {e : TypeId} {off : Nat} {v : Value} (ho : IsSt o a e ⟨g, off, none⟩ v) (hs : (P.info? e).map (·.size) = some 1) (hv : v.cells = #[v]) (h1 : v.oneCell' = true) (hl : off < cs.length) {cs' : List Value} (hcs : spl cs off [v] = cs')
    (k : ∀ w', Fr X w0 w' (e0 :: .blk g t cs' :: es) → w'.heap.size = w.heap.size → K (a.put o.dst undef) w') : o.wp P a w K Q := by
  subst hcs; exact wp_fst hF (i := 1) rfl ho hs hv h1 hl k
theorem wp_fstA1 (hF : Fr X w0 w (e0 :: .blk g t cs :: es)) {e : TypeId} {off : Nat} {ds : List Value} (ho : IsSt o a e ⟨g, off, none⟩ (.agg ds.toArray)) (hs : (P.info? e).map (·.size) = some ds.length) (h1 : ∀ u ∈ ds, u.oneCell' = true) (hl : off + ds.length ≤ cs.length) {cs' : List Value} (hcs : spl cs off ds = cs')
    (k : ∀ w', Fr X w0 w' (e0 :: .blk g t cs' :: es) → w'.heap.size = w.heap.size → K (a.put o.dst undef) w') : o.wp P a w K Q := by
  subst hcs; exact wp_fstA hF (i := 1) rfl ho hs h1 hl k
theorem wp_fapp1 {sl e : TypeId} (T : SlT P sl e 1 1 (.int .u8 0)) {b : Nat} {v : Value} {l : List UInt8} (hF : Fr X w0 w (e0 :: .bytes b e v l :: es)) (hb : b ≤ w0.heap.size) {S : Nat → Prop} {A : Option Addr} {m c : Nat} {l' : List UInt8} (hr : Rd w S A 1 m (l'.map bv))
    (ho : IsApp o a sl v (.slice A m c)) (hroom : l.length + m ≤ 140737488355328)
    (k : ∀ v' w', Fr X w0 w' (e0 :: Ent.bytes b e v' (l ++ l') :: es) → w.heap.size ≤ w'.heap.size → K (a.put o.dst v') w') : o.wp P a w K Q :=
  wp_fapp T hF (i := 1) rfl hb hr ho hroom k
theorem wp_fcopy1 {dT sT el : TypeId} (hu : P.underlying dT = some (.slice el)) (hs : (P.info? el).map (·.size) = some 1) (hF : Fr X w0 w (e0 :: .blk g t cs :: es)) {S : Nat → Prop} {A : Option Addr} {off n m c dc : Nat} {xs : List Value} (hr : Rd w S A 1 m xs) (h1 : ∀ u ∈ xs, u.oneCell' = true)
    {d s : Operand} (ho : o.op = .call { callee := .builtin .copy, args := #[d, s], argTypes := #[dT, sT] }) (hd : a.eval d = .slice (some ⟨g, off, none⟩) n dc) (hsrc : a.eval s = .slice A m c) (hl : off + n ≤ cs.length) {cs' : List Value} (hcs : spl cs off (xs.take n) = cs')
    (k : ∀ w', Fr X w0 w' (e0 :: .blk g t cs' :: es) → w'.heap.size = w.heap.size → K (a.put o.dst (goInt (Nat.min m n))) w') : o.wp P a w K Q := by
  subst hcs; exact wp_fcopy hu hs hF (i := 1) rfl hr h1 ho hd hsrc hl k
theorem Fr.cell1 (hF : Fr X w0 w (e0 :: .blk g t cs :: es)) {off : Nat} {u : Value} (hc : cs[off]? = some u) : w.cell? ⟨g, off, none⟩ = some u := by
  rw [cell_of_row w g off _ t (0, 0) (hF.blk (i := 1) rfl)]; simpa using hc
theorem Fr.heap1 (hF : Fr X w0 w (e0 :: .blk g t cs :: es)) : w.heap[g]? = some (.cells cs.toArray t (0, 0)) := hF.blk (i := 1) rfl
theorem Fr.rdBlk1 (hF : Fr X w0 w (e0 :: .blk g t cs :: es)) {off n : Nat} {xs : List Value} (hx : xs.length = n) (hc : (cs.drop off).take n = xs) : Rd w (· < w.heap.size) (some ⟨g, off, none⟩) 1 n xs := hF.rdBlk (i := 1) rfl hx hc
theorem Fr.rdOwn1 {b : Nat} {e : TypeId} {size n m c : Nat} {A : Option Addr} {xs : List Value} (hF : Fr X w0 w (e0 :: .own b e size (.slice A n c) m xs :: es)) : Rd w (· < w.heap.size) A size n xs := hF.rdOwn (i := 1) rfl
theorem Fr.rd1 {size n : Nat} {A : Option Addr} {xs : List Value} (hF : Fr X w0 w (e0 :: .rd A size n xs :: es)) : Rd w (· < w.heap.size) A size n xs := hF.rd (i := 1) rfl
theorem Fr.bytes1 {b : Nat} {e : TypeId} {v : Value} {l : List UInt8} (hF : Fr X w0 w (e0 :: .bytes b e v l :: es)) : OwnB w b e v l := hF.own (i := 1) rfl
/-- A callee has changed the block. -/
theorem Fr.put1 {w' : World} (hF : Fr X w0 w (e0 :: .blk g t cs :: es)) {cs' : List Value} (hg : w.grownBy w' (some g)) (hb : w'.heap[g]? = some (.cells cs'.toArray t (0, 0))) : Fr X w0 w' (e0 :: .blk g t cs' :: es) := hF.put (i := 1) (e' := .blk g t cs') rfl hg hb (.inl rfl)
/-- A callee has changed the block, and hands back bytes of its own. -/
theorem Fr.putGot1 {w' : World} (hF : Fr X w0 w (e0 :: .blk g t cs :: es)) {cs' : List Value} (hg : w.grownBy w' (some g)) (hb : w'.heap[g]? = some (.cells cs'.toArray t (0, 0))) {e : TypeId} {v : Value} {l : List UInt8} (ho : OwnB w' w.heap.size e v l) : Fr X w0 w' (Ent.bytes w0.heap.size e v l :: (e0 :: .blk g t cs' :: es)) := put_got hF (i := 1) rfl hg hb ho
/-- A callee has appended to the bytes. -/
theorem Fr.putB1 {w' : World} {b : Nat} {e : TypeId} {v v' : Value} {l l' : List UInt8} (hF : Fr X w0 w (e0 :: .bytes b e v l :: es)) (hg : w.grownBy w' v.ownBlock) (hb : OwnB w' b e v' l') (hv : ∀ k, v'.ownBlock = some k → w.heap.size ≤ k ∨ v.ownBlock = some k) : Fr X w0 w' (e0 :: Ent.bytes b e v' l' :: es) := hF.put (i := 1) (e' := Ent.bytes b e v' l') rfl hg hb.own (own_or hv)
theorem results_cellF_1 {fn : Func} {p : Tmp} {ty : TypeId} (hF : Fr X w0 w (e0 :: .blk g t cs :: es)) (h : fn.results = #[.cell p ty]) (tmps : Array Value) (hp : tmps.getD p undef = .pointer (some ⟨g, 0, none⟩)) {d : TypeDesc} (hu : P.underlying ty = some d) (hd : aggT d = true) (hs : (P.info? ty).map (·.size) = some cs.length) : (results fn tmps).run P w = .ok (.agg cs.toArray) w :=
  results_cellF h tmps hF (i := 1) rfl hp hu hd hs
theorem results_cellF2_1 {fn : Func} {p q : Tmp} {ty : TypeId} (hF : Fr X w0 w (e0 :: .blk g t cs :: es)) (h : fn.results = #[.cell p ty, .tmp q]) (tmps : Array Value) (hp : tmps.getD p undef = .pointer (some ⟨g, 0, none⟩)) {d : TypeDesc} (hu : P.underlying ty = some d) (hd : aggT d = true) (hs : (P.info? ty).map (·.size) = some cs.length) : (results fn tmps).run P w = .ok (.tuple #[.agg cs.toArray, tmps.getD q undef]) w :=
  results_cellF2 h tmps hF (i := 1) rfl hp hu hd hs
theorem wp_fld2 (hF : Fr X w0 w (e0 :: e1 :: .blk g t cs :: es)) {e : TypeId} {d : TypeDesc} (hu : P.underlying e = some d) (hd : aggT d = false) {off : Nat} (ho : IsLd o a e ⟨g, off, none⟩) {u : Value} (hc : cs[off]? = some u) (k : K (a.put o.dst u) w) : o.wp P a w K Q :=
  wp_fld hF (i := 2) rfl hu hd ho hc k
theorem wp_fldA2 (hF : Fr X w0 w (e0 :: e1 :: .blk g t cs :: es)) {e : TypeId} {d : TypeDesc} (hu : P.underlying e = some d) (hd : aggT d = true) {off : Nat} (ho : IsLd o a e ⟨g, off, none⟩) {ds : List Value} (hs : (P.info? e).map (·.size) = some ds.length) (hc : (cs.drop off).take ds.length = ds) (k : K (a.put o.dst (.agg ds.toArray)) w) : o.wp P a w K Q :=
  wp_fldA hF (i := 2) rfl hu hd ho hs hc k
theorem wp_fst2 (hF : Fr X w0 w (e0 :: e1 :: .blk g t cs :: es)) {e : TypeId} {off : Nat} {v : Value} (ho : IsSt o a e ⟨g, off, none⟩ v) (hs : (P.info? e).map (·.size) = some 1) (hv : v.cells = #[v]) (h1 : v.oneCell' = true) (hl : off < cs.length) {cs' : List Value} (hcs : spl cs off [v] = cs')
    (k : ∀ w', Fr X w0 w' (e0 :: e1 :: .blk g t cs' :: es) → w'.heap.size = w.heap.size → K (a.put o.dst undef) w') : o.wp P a w K Q := by
  subst hcs; exact wp_fst hF (i := 2) rfl ho hs hv h1 hl k
theorem wp_fstA2 (hF : Fr X w0 w (e0 :: e1 :: .blk g t cs :: es)) {e : TypeId} {off : Nat} {ds : List Value} (ho : IsSt o a e ⟨g, off, none⟩ (.agg ds.toArray)) (hs : (P.info? e).map (·.size) = some ds.length) (h1 : ∀ u ∈ ds, u.oneCell' = true) (hl : off + ds.length ≤ cs.length) {cs' : List Value} (hcs : spl cs off ds = cs')
    (k : ∀ w', Fr X w0 w' (e0 :: e1 :: .blk g t cs' :: es) → w'.heap.size = w.heap.size → K (a.put o.dst undef) w') : o.wp P a w K Q := by
  subst hcs; exact wp_fstA hF (i := 2) rfl ho hs h1 hl k
theorem wp_fapp2 {sl e : TypeId} (T : SlT P sl e 1 1 (.int .u8 0)) {b : Nat} {v : Value} {l : List UInt8} (hF : Fr X w0 w (e0 :: e1 :: .bytes b e v l :: es)) (hb : b ≤ w0.heap.size) {S : Nat → Prop} {A : Option Addr} {m c : Nat} {l' : List UInt8} (hr : Rd w S A 1 m (l'.map bv))
    (ho : IsApp o a sl v (.slice A m c)) (hroom : l.length + m ≤ 140737488355328)
    (k : ∀ v' w', Fr X w0 w' (e0 :: e1 :: Ent.bytes b e v' (l ++ l') :: es) → w.heap.size ≤ w'.heap.size → K (a.put o.dst v') w') : o.wp P a w K Q :=
  wp_fapp T hF (i := 2) rfl hb hr ho hroom k
theorem wp_fcopy2 {dT sT el : TypeId} (hu : P.underlying dT = some (.slice el)) (hs : (P.info? el).map (·.size) = some 1) (hF : Fr X w0 w (e0 :: e1 :: .blk g t cs :: es)) {S : Nat → Prop} {A : Option Addr} {off n m c dc : Nat} {xs : List Value} (hr : Rd w S A 1 m xs) (h1 : ∀ u ∈ xs, u.oneCell' = true)
    {d s : Operand} (ho : o.op = .call { callee := .builtin .copy, args := #[d, s], argTypes := #[dT, sT] }) (hd : a.eval d = .slice (some ⟨g, off, none⟩) n dc) (hsrc : a.eval s = .slice A m c) (hl : off + n ≤ cs.length) {cs' : List Value} (hcs : spl cs off (xs.take n) = cs')
    (k : ∀ w', Fr X w0 w' (e0 :: e1 :: .blk g t cs' :: es) → w'.heap.size = w.heap.size → K (a.put o.dst (goInt (Nat.min m n))) w') : o.wp P a w K Q := by
  subst hcs; exact wp_fcopy hu hs hF (i := 2) rfl hr h1 ho hd hsrc hl k
theorem Fr.cell2 (hF : Fr X w0 w (e0 :: e1 :: .blk g t cs :: es)) {off : Nat} {u : Value} (hc : cs[off]? = some u) : w.cell? ⟨g, off, none⟩ = some u := by
  rw [cell_of_row w g off _ t (0, 0) (hF.blk (i := 2) rfl)]; simpa using hc
theorem Fr.heap2 (hF : Fr X w0 w (e0 :: e1 :: .blk g t cs :: es)) : w.heap[g]? = some (.cells cs.toArray t (0, 0)) := hF.blk (i := 2) rfl
theorem Fr.rdBlk2 (hF : Fr X w0 w (e0 :: e1 :: .blk g t cs :: es)) {off n : Nat} {xs : List Value} (hx : xs.length = n) (hc : (cs.drop off).take n = xs) : Rd w (· < w.heap.size) (some ⟨g, off, none⟩) 1 n xs := hF.rdBlk (i := 2) rfl hx hc
theorem Fr.rdOwn2 {b : Nat} {e : TypeId} {size n m c : Nat} {A : Option Addr} {xs : List Value} (hF : Fr X w0 w (e0 :: e1 :: .own b e size (.slice A n c) m xs :: es)) : Rd w (· < w.heap.size) A size n xs := hF.rdOwn (i := 2) rfl
theorem Fr.rd2 {size n : Nat} {A : Option Addr} {xs : List Value} (hF : Fr X w0 w (e0 :: e1 :: .rd A size n xs :: es)) : Rd w (· < w.heap.size) A size n xs := hF.rd (i := 2) rfl
theorem Fr.bytes2 {b : Nat} {e : TypeId} {v : Value} {l : List UInt8} (hF : Fr X w0 w (e0 :: e1 :: .bytes b e v l :: es)) : OwnB w b e v l := hF.own (i := 2) rfl
/-- A callee has changed the block. -/
theorem Fr.put2 {w' : World} (hF : Fr X w0 w (e0 :: e1 :: .blk g t cs :: es)) {cs' : List Value} (hg : w.grownBy w' (some g)) (hb : w'.heap[g]? = some (.cells cs'.toArray t (0, 0))) : Fr X w0 w' (e0 :: e1 :: .blk g t cs' :: es) := hF.put (i := 2) (e' := .blk g t cs') rfl hg hb (.inl rfl)
/-- A callee has changed the block, and hands back bytes of its own. -/
theorem Fr.putGot2 {w' : World} (hF : Fr X w0 w (e0 :: e1 :: .blk g t cs :: es)) {cs' : List Value} (hg : w.grownBy w' (some g)) (hb : w'.heap[g]? = some (.cells cs'.toArray t (0, 0))) {e : TypeId} {v : Value} {l : List UInt8} (ho : OwnB w' w.heap.size e v l) : Fr X w0 w' (Ent.bytes w0.heap.size e v l :: (e0 :: e1 :: .blk g t cs' :: es)) := put_got hF (i := 2) rfl hg hb ho
/-- A callee has appended to the bytes. -/
theorem Fr.putB2 {w' : World} {b : Nat} {e : TypeId} {v v' : Value} {l l' : List UInt8} (hF : Fr X w0 w (e0 :: e1 :: .bytes b e v l :: es)) (hg : w.grownBy w' v.ownBlock) (hb : OwnB w' b e v' l') (hv : ∀ k, v'.ownBlock = some k → w.heap.size ≤ k ∨ v.ownBlock = some k) : Fr X w0 w' (e0 :: e1 :: Ent.bytes b e v' l' :: es) := hF.put (i := 2) (e' := Ent.bytes b e v' l') rfl hg hb.own (own_or hv)
theorem results_cellF_2 {fn : Func} {p : Tmp} {ty : TypeId} (hF : Fr X w0 w (e0 :: e1 :: .blk g t cs :: es)) (h : fn.results = #[.cell p ty]) (tmps : Array Value) (hp : tmps.getD p undef = .pointer (some ⟨g, 0, none⟩)) {d : TypeDesc} (hu : P.underlying ty = some d) (hd : aggT d = true) (hs : (P.info? ty).map (·.size) = some cs.length) : (results fn tmps).run P w = .ok (.agg cs.toArray) w :=
  results_cellF h tmps hF (i := 2) rfl hp hu hd hs
theorem results_cellF2_2 {fn : Func} {p q : Tmp} {ty : TypeId} (hF : Fr X w0 w (e0 :: e1 :: .blk g t cs :: es)) (h : fn.results = #[.cell p ty, .tmp q]) (tmps : Array Value) (hp : tmps.getD p undef = .pointer (some ⟨g, 0, none⟩)) {d : TypeDesc} (hu : P.underlying ty = some d) (hd : aggT d = true) (hs : (P.info? ty).map (·.size) = some cs.length) : (results fn tmps).run P w = .ok (.tuple #[.agg cs.toArray, tmps.getD q undef]) w :=
  results_cellF2 h tmps hF (i := 2) rfl hp hu hd hs
theorem wp_fld3 (hF : Fr X w0 w (e0 :: e1 :: e2 :: .blk g t cs :: es)) {e : TypeId} {d : TypeDesc} (hu : P.underlying e = some d) (hd : aggT d = false) {off : Nat} (ho : IsLd o a e ⟨g, off, none⟩) {u : Value} (hc : cs[off]? = some u) (k : K (a.put o.dst u) w) : o.wp P a w K Q :=
  wp_fld hF (i := 3) rfl hu hd ho hc k
theorem wp_fldA3 (hF : Fr X w0 w (e0 :: e1 :: e2 :: .blk g t cs :: es)) {e : TypeId} {d : TypeDesc} (hu : P.underlying e = some d) (hd : aggT d = true) {off : Nat} (ho : IsLd o a e ⟨g, off, none⟩) {ds : List Value} (hs : (P.info? e).map (·.size) = some ds.length) (hc : (cs.drop off).take ds.length = ds) (k : K (a.put o.dst (.agg ds.toArray)) w) : o.wp P a w K Q :=
  wp_fldA hF (i := 3) rfl hu hd ho hs hc k
theorem wp_fst3 (hF : Fr X w0 w (e0 :: e1 :: e2 :: .blk g t cs :: es)) {e : TypeId} {off : Nat} {v : Value} (ho : IsSt o a e ⟨g, off, none⟩ v) (hs : (P.info? e).map (·.size) = some 1) (hv : v.cells = #[v]) (h1 : v.oneCell' = true) (hl : off < cs.length) {cs' : List Value} (hcs : spl cs off [v] = cs')
    (k : ∀ w', Fr X w0 w' (e0 :: e1 :: e2 :: .blk g t cs' :: es) → w'.heap.size = w.heap.size → K (a.put o.dst undef) w') : o.wp P a w K Q := by
  subst hcs; exact wp_fst hF (i := 3) rfl ho hs hv h1 hl k
theorem wp_fstA3 (hF : Fr X w0 w (e0 :: e1 :: e2 :: .blk g t cs :: es)) {e : TypeId} {off : Nat} {ds : List Value} (ho : IsSt o a e ⟨g, off, none⟩ (.agg ds.toArray)) (hs : (P.info? e).map (·.size) = some ds.length) (h1 : ∀ u ∈ ds, u.oneCell' = true) (hl : off + ds.length ≤ cs.length) {cs' : List Value} (hcs : spl cs off ds = cs')
    (k : ∀ w', Fr X w0 w' (e0 :: e1 :: e2 :: .blk g t cs' :: es) → w'.heap.size = w.heap.size → K (a.put o.dst undef) w') : o.wp P a w K Q := by
  subst hcs; exact wp_fstA hF (i := 3) rfl ho hs h1 hl k
theorem wp_fapp3 {sl e : TypeId} (T : SlT P sl e 1 1 (.int .u8 0)) {b : Nat} {v : Value} {l : List UInt8} (hF : Fr X w0 w (e0 :: e1 :: e2 :: .bytes b e v l :: es)) (hb : b ≤ w0.heap.size) {S : Nat → Prop} {A : Option Addr} {m c : Nat} {l' : List UInt8} (hr : Rd w S A 1 m (l'.map bv))
    (ho : IsApp o a sl v (.slice A m c)) (hroom : l.length + m ≤ 140737488355328)
    (k : ∀ v' w', Fr X w0 w' (e0 :: e1 :: e2 :: Ent.bytes b e v' (l ++ l') :: es) → w.heap.size ≤ w'.heap.size → K (a.put o.dst v') w') : o.wp P a w K Q :=
  wp_fapp T hF (i := 3) rfl hb hr ho hroom k
theorem wp_fcopy3 {dT sT el : TypeId} (hu : P.underlying dT = some (.slice el)) (hs : (P.info? el).map (·.size) = some 1) (hF : Fr X w0 w (e0 :: e1 :: e2 :: .blk g t cs :: es)) {S : Nat → Prop} {A : Option Addr} {off n m c dc : Nat} {xs : List Value} (hr : Rd w S A 1 m xs) (h1 : ∀ u ∈ xs, u.oneCell' = true)
    {d s : Operand} (ho : o.op = .call { callee := .builtin .copy, args := #[d, s], argTypes := #[dT, sT] }) (hd : a.eval d = .slice (some ⟨g, off, none⟩) n dc) (hsrc : a.eval s = .slice A m c) (hl : off + n ≤ cs.length) {cs' : List Value} (hcs : spl cs off (xs.take n) = cs')
    (k : ∀ w', Fr X w0 w' (e0 :: e1 :: e2 :: .blk g t cs' :: es) → w'.heap.size = w.heap.size → K (a.put o.dst (goInt (Nat.min m n))) w') : o.wp P a w K Q := by
  subst hcs; exact wp_fcopy hu hs hF (i := 3) rfl hr h1 ho hd hsrc hl k
theorem Fr.cell3 (hF : Fr X w0 w (e0 :: e1 :: e2 :: .blk g t cs :: es)) {off : Nat} {u : Value} (hc : cs[off]? = some u) : w.cell? ⟨g, off, none⟩ = some u := by
  rw [cell_of_row w g off _ t (0, 0) (hF.blk (i := 3) rfl)]; simpa using hc
theorem Fr.heap3 (hF : Fr X w0 w (e0 :: e1 :: e2 :: .blk g t cs :: es)) : w.heap[g]? = some (.cells cs.toArray t (0, 0)) := hF.blk (i := 3) rfl
theorem Fr.rdBlk3 (hF : Fr X w0 w (e0 :: e1 :: e2 :: .blk g t cs :: es)) {off n : Nat} {xs : List Value} (hx : xs.length = n) (hc : (cs.drop off).take n = xs) : Rd w (· < w.heap.size) (some ⟨g, off, none⟩) 1 n xs := hF.rdBlk (i := 3) rfl hx hc
theorem Fr.rdOwn3 {b : Nat} {e : TypeId} {size n m c : Nat} {A : Option Addr} {xs : List Value} (hF : Fr X w0 w (e0 :: e1 :: e2 :: .own b e size (.slice A n c) m xs :: es)) : Rd w (· < w.heap.size) A size n xs := hF.rdOwn (i := 3) rfl
theorem Fr.rd3 {size n : Nat} {A : Option Addr} {xs : List Value} (hF : Fr X w0 w (e0 :: e1 :: e2 :: .rd A size n xs :: es)) : Rd w (· < w.heap.size) A size n xs := hF.rd (i := 3) rfl
theorem Fr.bytes3 {b : Nat} {e : TypeId} {v : Value} {l : List UInt8} (hF : Fr X w0 w (e0 :: e1 :: e2 :: .bytes b e v l :: es)) : OwnB w b e v l := hF.own (i := 3) rfl
/-- A callee has changed the block. -/
theorem Fr.put3 {w' : World} (hF : Fr X w0 w (e0 :: e1 :: e2 :: .blk g t cs :: es)) {cs' : List Value} (hg : w.grownBy w' (some g)) (hb : w'.heap[g]? = some (.cells cs'.toArray t (0, 0))) : Fr X w0 w' (e0 :: e1 :: e2 :: .blk g t cs' :: es) := hF.put (i := 3) (e' := .blk g t cs') rfl hg hb (.inl rfl)
/-- A callee has changed the block, and hands back bytes of its own. -/
theorem Fr.putGot3 {w' : World} (hF : Fr X w0 w (e0 :: e1 :: e2 :: .blk g t cs :: es)) {cs' : List Value} (hg : w.grownBy w' (some g)) (hb : w'.heap[g]? = some (.cells cs'.toArray t (0, 0))) {e : TypeId} {v : Value} {l : List UInt8} (ho : OwnB w' w.heap.size e v l) : Fr X w0 w' (Ent.bytes w0.heap.size e v l :: (e0 :: e1 :: e2 :: .blk g t cs' :: es)) := put_got hF (i := 3) rfl hg hb ho
/-- A callee has appended to the bytes. -/
theorem Fr.putB3 {w' : World} {b : Nat} {e : TypeId} {v v' : Value} {l l' : List UInt8} (hF : Fr X w0 w (e0 :: e1 :: e2 :: .bytes b e v l :: es)) (hg : w.grownBy w' v.ownBlock) (hb : OwnB w' b e v' l') (hv : ∀ k, v'.ownBlock = some k → w.heap.size ≤ k ∨ v.ownBlock = some k) : Fr X w0 w' (e0 :: e1 :: e2 :: Ent.bytes b e v' l' :: es) := hF.put (i := 3) (e' := Ent.bytes b e v' l') rfl hg hb.own (own_or hv)
theorem results_cellF_3 {fn : Func} {p : Tmp} {ty : TypeId} (hF : Fr X w0 w (e0 :: e1 :: e2 :: .blk g t cs :: es)) (h : fn.results = #[.cell p ty]) (tmps : Array Value) (hp : tmps.getD p undef = .pointer (some ⟨g, 0, none⟩)) {d : TypeDesc} (hu : P.underlying ty = some d) (hd : aggT d = true) (hs : (P.info? ty).map (·.size) = some cs.length) : (results fn tmps).run P w = .ok (.agg cs.toArray) w :=
  results_cellF h tmps hF (i := 3) rfl hp hu hd hs
theorem results_cellF2_3 {fn : Func} {p q : Tmp} {ty : TypeId} (hF : Fr X w0 w (e0 :: e1 :: e2 :: .blk g t cs :: es)) (h : fn.results = #[.cell p ty, .tmp q]) (tmps : Array Value) (hp : tmps.getD p undef = .pointer (some ⟨g, 0, none⟩)) {d : TypeDesc} (hu : P.underlying ty = some d) (hd : aggT d = true) (hs : (P.info? ty).map (·.size) = some cs.length) : (results fn tmps).run P w = .ok (.tuple #[.agg cs.toArray, tmps.getD q undef]) w :=
  results_cellF2 h tmps hF (i := 3) rfl hp hu hd hs
theorem wp_fld4 (hF : Fr X w0 w (e0 :: e1 :: e2 :: e3 :: .blk g t cs :: es)) {e : TypeId} {d : TypeDesc} (hu : P.underlying e = some d) (hd : aggT d = false) {off : Nat} (ho : IsLd o a e ⟨g, off, none⟩) {u : Value} (hc : cs[off]? = some u) (k : K (a.put o.dst u) w) : o.wp P a w K Q :=
  wp_fld hF (i := 4) rfl hu hd ho hc k
theorem wp_fldA4 (hF : Fr X w0 w (e0 :: e1 :: e2 :: e3 :: .blk g t cs :: es)) {e : TypeId} {d : TypeDesc} (hu : P.underlying e = some d) (hd : aggT d = true) {off : Nat} (ho : IsLd o a e ⟨g, off, none⟩) {ds : List Value} (hs : (P.info? e).map (·.size) = some ds.length) (hc : (cs.drop off).take ds.length = ds) (k : K (a.put o.dst (.agg ds.toArray)) w) : o.wp P a w K Q :=
  wp_fldA hF (i := 4) rfl hu hd ho hs hc k
theorem wp_fst4 (hF : Fr X w0 w (e0 :: e1 :: e2 :: e3 :: .blk g t cs :: es)) {e : TypeId} {off : Nat} {v : Value} (ho : IsSt o a e ⟨g, off, none⟩ v) (hs : (P.info? e).map (·.size) = some 1) (hv : v.cells = #[v]) (h1 : v.oneCell' = true) (hl : off < cs.length) {cs' : List Value} (hcs : spl cs off [v] = cs')
    (k : ∀ w', Fr X w0 w' (e0 :: e1 :: e2 :: e3 :: .blk g t cs' :: es) → w'.heap.size = w.heap.size → K (a.put o.dst undef) w') : o.wp P a w K Q := by
  subst hcs; exact wp_fst hF (i := 4) rfl ho hs hv h1 hl k
theorem wp_fstA4 (hF : Fr X w0 w (e0 :: e1 :: e2 :: e3 :: .blk g t cs :: es)) {e : TypeId} {off : Nat} {ds : List Value} (ho : IsSt o a e ⟨g, off, none⟩ (.agg ds.toArray)) (hs : (P.info? e).map (·.size) = some ds.length) (h1 : ∀ u ∈ ds, u.oneCell' = true) (hl : off + ds.length ≤ cs.length) {cs' : List Value} (hcs : spl cs off ds = cs')
    (k : ∀ w', Fr X w0 w' (e0 :: e1 :: e2 :: e3 :: .blk g t cs' :: es) → w'.heap.size = w.heap.size → K (a.put o.dst undef) w') : o.wp P a w K Q := by
  subst hcs; exact wp_fstA hF (i := 4) rfl ho hs h1 hl k
theorem wp_fapp4 {sl e : TypeId} (T : SlT P sl e 1 1 (.int .u8 0)) {b : Nat} {v : Value} {l : List UInt8} (hF : Fr X w0 w (e0 :: e1 :: e2 :: e3 :: .bytes b e v l :: es)) (hb : b ≤ w0.heap.size) {S : Nat → Prop} {A : Option Addr} {m c : Nat} {l' : List UInt8} (hr : Rd w S A 1 m (l'.map bv))
    (ho : IsApp o a sl v (.slice A m c)) (hroom : l.length + m ≤ 140737488355328)
    (k : ∀ v' w', Fr X w0 w' (e0 :: e1 :: e2 :: e3 :: Ent.bytes b e v' (l ++ l') :: es) → w.heap.size ≤ w'.heap.size → K (a.put o.dst v') w') : o.wp P a w K Q :=
  wp_fapp T hF (i := 4) rfl hb hr ho hroom k
theorem wp_fcopy4 {dT sT el : TypeId} (hu : P.underlying dT = some (.slice el)) (hs : (P.info? el).map (·.size) = some 1) (hF : Fr X w0 w (e0 :: e1 :: e2 :: e3 :: .blk g t cs :: es)) {S : Nat → Prop} {A : Option Addr} {off n m c dc : Nat} {xs : List Value} (hr : Rd w S A 1 m xs) (h1 : ∀ u ∈ xs, u.oneCell' = true)
    {d s : Operand} (ho : o.op = .call { callee := .builtin .copy, args := #[d, s], argTypes := #[dT, sT] }) (hd : a.eval d = .slice (some ⟨g, off, none⟩) n dc) (hsrc : a.eval s = .slice A m c) (hl : off + n ≤ cs.length) {cs' : List Value} (hcs : spl cs off (xs.take n) = cs')
    (k : ∀ w', Fr X w0 w' (e0 :: e1 :: e2 :: e3 :: .blk g t cs' :: es) → w'.heap.size = w.heap.size → K (a.put o.dst (goInt (Nat.min m n))) w') : o.wp P a w K Q := by
  subst hcs; exact wp_fcopy hu hs hF (i := 4) rfl hr h1 ho hd hsrc hl k
theorem Fr.cell4 (hF : Fr X w0 w (e0 :: e1 :: e2 :: e3 :: .blk g t cs :: es)) {off : Nat} {u : Value} (hc : cs[off]? = some u) : w.cell? ⟨g, off, none⟩ = some u := by
  rw [cell_of_row w g off _ t (0, 0) (hF.blk (i := 4) rfl)]; simpa using hc
theorem Fr.heap4 (hF : Fr X w0 w (e0 :: e1 :: e2 :: e3 :: .blk g t cs :: es)) : w.heap[g]? = some (.cells cs.toArray t (0, 0)) := hF.blk (i := 4) rfl
theorem Fr.rdBlk4 (hF : Fr X w0 w (e0 :: e1 :: e2 :: e3 :: .blk g t cs :: es)) {off n : Nat} {xs : List Value} (hx : xs.length = n) (hc : (cs.drop off).take n = xs) : Rd w (· < w.heap.size) (some ⟨g, off, none⟩) 1 n xs := hF.rdBlk (i := 4) rfl hx hc
theorem Fr.rdOwn4 {b : Nat} {e : TypeId} {size n m c : Nat} {A : Option Addr} {xs : List Value} (hF : Fr X w0 w (e0 :: e1 :: e2 :: e3 :: .own b e size (.slice A n c) m xs :: es)) : Rd w (· < w.heap.size) A size n xs := hF.rdOwn (i := 4) rfl
theorem Fr.rd4 {size n : Nat} {A : Option Addr} {xs : List Value} (hF : Fr X w0 w (e0 :: e1 :: e2 :: e3 :: .rd A size n xs :: es)) : Rd w (· < w.heap.size) A size n xs := hF.rd (i := 4) rfl
theorem Fr.bytes4 {b : Nat} {e : TypeId} {v : Value} {l : List UInt8} (hF : Fr X w0 w (e0 :: e1 :: e2 :: e3 :: .bytes b e v l :: es)) : OwnB w b e v l := hF.own (i := 4) rfl
/-- A callee has changed the block. -/
theorem Fr.put4 {w' : World} (hF : Fr X w0 w (e0 :: e1 :: e2 :: e3 :: .blk g t cs :: es)) {cs' : List Value} (hg : w.grownBy w' (some g)) (hb : w'.heap[g]? = some (.cells cs'.toArray t (0, 0))) : Fr X w0 w' (e0 :: e1 :: e2 :: e3 :: .blk g t cs' :: es) := hF.put (i := 4) (e' := .blk g t cs') rfl hg hb (.inl rfl)
/-- A callee has changed the block, and hands back bytes of its own. -/
theorem Fr.putGot4 {w' : World} (hF : Fr X w0 w (e0 :: e1 :: e2 :: e3 :: .blk g t cs :: es)) {cs' : List Value} (hg : w.grownBy w' (some g)) (hb : w'.heap[g]? = some (.cells cs'.toArray t (0, 0))) {e : TypeId} {v : Value} {l : List UInt8} (ho : OwnB w' w.heap.size e v l) : Fr X w0 w' (Ent.bytes w0.heap.size e v l :: (e0 :: e1 :: e2 :: e3 :: .blk g t cs' :: es)) := put_got hF (i := 4) rfl hg hb ho
/-- A callee has appended to the bytes. -/
theorem Fr.putB4 {w' : World} {b : Nat} {e : TypeId} {v v' : Value} {l l' : List UInt8} (hF : Fr X w0 w (e0 :: e1 :: e2 :: e3 :: .bytes b e v l :: es)) (hg : w.grownBy w' v.ownBlock) (hb : OwnB w' b e v' l') (hv : ∀ k, v'.ownBlock = some k → w.heap.size ≤ k ∨ v.ownBlock = some k) : Fr X w0 w' (e0 :: e1 :: e2 :: e3 :: Ent.bytes b e v' l' :: es) := hF.put (i := 4) (e' := Ent.bytes b e v' l') rfl hg hb.own (own_or hv)
theorem results_cellF_4 {fn : Func} {p : Tmp} {ty : TypeId} (hF : Fr X w0 w (e0 :: e1 :: e2 :: e3 :: .blk g t cs :: es)) (h : fn.results = #[.cell p ty]) (tmps : Array Value) (hp : tmps.getD p undef = .pointer (some ⟨g, 0, none⟩)) {d : TypeDesc} (hu : P.underlying ty = some d) (hd : aggT d = true) (hs : (P.info? ty).map (·.size) = some cs.length) : (results fn tmps).run P w = .ok (.agg cs.toArray) w :=
  results_cellF h tmps hF (i := 4) rfl hp hu hd hs
theorem results_cellF2_4 {fn : Func} {p q : Tmp} {ty : TypeId} (hF : Fr X w0 w (e0 :: e1 :: e2 :: e3 :: .blk g t cs :: es)) (h : fn.results = #[.cell p ty, .tmp q]) (tmps : Array Value) (hp : tmps.getD p undef = .pointer (some ⟨g, 0, none⟩)) {d : TypeDesc} (hu : P.underlying ty = some d) (hd : aggT d = true) (hs : (P.info? ty).map (·.size) = some cs.length) : (results fn tmps).run P w = .ok (.tuple #[.agg cs.toArray, tmps.getD q undef]) w :=
  results_cellF2 h tmps hF (i := 4) rfl hp hu hd hs
theorem wp_fld5 (hF : Fr X w0 w (e0 :: e1 :: e2 :: e3 :: e4 :: .blk g t cs :: es)) {e : TypeId} {d : TypeDesc} (hu : P.underlying e = some d) (hd : aggT d = false) {off : Nat} (ho : IsLd o a e ⟨g, off, none⟩) {u : Value} (hc : cs[off]? = some u) (k : K (a.put o.dst u) w) : o.wp P a w K Q :=
  wp_fld hF (i := 5) rfl hu hd ho hc k
theorem wp_fldA5 (hF : Fr X w0 w (e0 :: e1 :: e2 :: e3 :: e4 :: .blk g t cs :: es)) {e : TypeId} {d : TypeDesc} (hu : P.underlying e = some d) (hd : aggT d = true) {off : Nat} (ho : IsLd o a e ⟨g, off, none⟩) {ds : List Value} (hs : (P.info? e).map (·.size) = some ds.length) (hc : (cs.drop off).take ds.length = ds) (k : K (a.put o.dst (.agg ds.toArray)) w) : o.wp P a w K Q :=
  wp_fldA hF (i := 5) rfl hu hd ho hs hc k
theorem wp_fst5 (hF : Fr X w0 w (e0 :: e1 :: e2 :: e3 :: e4 :: .blk g t cs :: es)) {e : TypeId} {off : Nat} {v : Value} (ho : IsSt o a e ⟨g, off, none⟩ v) (hs : (P.info? e).map (·.size) = some 1) (hv : v.cells = #[v]) (h1 : v.oneCell' = true) (hl : off < cs.length) {cs' : List Value} (hcs : spl cs off [v] = cs')
    (k : ∀ w', Fr X w0 w' (e0 :: e1 :: e2 :: e3 :: e4 :: .blk g t cs' :: es) → w'.heap.size = w.heap.size → K (a.put o.dst undef) w') : o.wp P a w K Q := by
  subst hcs; exact wp_fst hF (i := 5) rfl ho hs hv h1 hl k
theorem wp_fstA5 (hF : Fr X w0 w (e0 :: e1 :: e2 :: e3 :: e4 :: .blk g t cs :: es)) {e : TypeId} {off : Nat} {ds : List Value} (ho : IsSt o a e ⟨g, off, none⟩ (.agg ds.toArray)) (hs : (P.info? e).map (·.size) = some ds.length) (h1 : ∀ u ∈ ds, u.oneCell' = true) (hl : off + ds.length ≤ cs.length) {cs' : List Value} (hcs : spl cs off ds = cs')
    (k : ∀ w', Fr X w0 w' (e0 :: e1 :: e2 :: e3 :: e4 :: .blk g t cs' :: es) → w'.heap.size = w.heap.size → K (a.put o.dst undef) w') : o.wp P a w K Q := by
  subst hcs; exact wp_fstA hF (i := 5) rfl ho hs h1 hl k
theorem wp_fapp5 {sl e : TypeId} (T : SlT P sl e 1 1 (.int .u8 0)) {b : Nat} {v : Value} {l : List UInt8} (hF : Fr X w0 w (e0 :: e1 :: e2 :: e3 :: e4 :: .bytes b e v l :: es)) (hb : b ≤ w0.heap.size) {S : Nat → Prop} {A : Option Addr} {m c : Nat} {l' : List UInt8} (hr : Rd w S A 1 m (l'.map bv))
    (ho : IsApp o a sl v (.slice A m c)) (hroom : l.length + m ≤ 140737488355328)
    (k : ∀ v' w', Fr X w0 w' (e0 :: e1 :: e2 :: e3 :: e4 :: Ent.bytes b e v' (l ++ l') :: es) → w.heap.size ≤ w'.heap.size → K (a.put o.dst v') w') : o.wp P a w K Q :=
  wp_fapp T hF (i := 5) rfl hb hr ho hroom k
theorem wp_fcopy5 {dT sT el : TypeId} (hu : P.underlying dT = some (.slice el)) (hs : (P.info? el).map (·.size) = some 1) (hF : Fr X w0 w (e0 :: e1 :: e2 :: e3 :: e4 :: .blk g t cs :: es)) {S : Nat → Prop} {A : Option Addr} {off n m c dc : Nat} {xs : List Value} (hr : Rd w S A 1 m xs) (h1 : ∀ u ∈ xs, u.oneCell' = true)
    {d s : Operand} (ho : o.op = .call { callee := .builtin .copy, args := #[d, s], argTypes := #[dT, sT] }) (hd : a.eval d = .slice (some ⟨g, off, none⟩) n dc) (hsrc : a.eval s = .slice A m c) (hl : off + n ≤ cs.length) {cs' : List Value} (hcs : spl cs off (xs.take n) = cs')
    (k : ∀ w', Fr X w0 w' (e0 :: e1 :: e2 :: e3 :: e4 :: .blk g t cs' :: es) → w'.heap.size = w.heap.size → K (a.put o.dst (goInt (Nat.min m n))) w') : o.wp P a w K Q := by
  subst hcs; exact wp_fcopy hu hs hF (i := 5) rfl hr h1 ho hd hsrc hl k
theorem Fr.cell5 (hF : Fr X w0 w (e0 :: e1 :: e2 :: e3 :: e4 :: .blk g t cs :: es)) {off : Nat} {u : Value} (hc : cs[off]? = some u) : w.cell? ⟨g, off, none⟩ = some u := by
  rw [cell_of_row w g off _ t (0, 0) (hF.blk (i := 5) rfl)]; simpa using hc
theorem Fr.heap5 (hF : Fr X w0 w (e0 :: e1 :: e2 :: e3 :: e4 :: .blk g t cs :: es)) : w.heap[g]? = some (.cells cs.toArray t (0, 0)) := hF.blk (i := 5) rfl
theorem Fr.rdBlk5 (hF : Fr X w0 w (e0 :: e1 :: e2 :: e3 :: e4 :: .blk g t cs :: es)) {off n : Nat} {xs : List Value} (hx : xs.length = n) (hc : (cs.drop off).take n = xs) : Rd w (· < w.heap.size) (some ⟨g, off, none⟩) 1 n xs := hF.rdBlk (i := 5) rfl hx hc
theorem Fr.rdOwn5 {b : Nat} {e : TypeId} {size n m c : Nat} {A : Option Addr} {xs : List Value} (hF : Fr X w0 w (e0 :: e1 :: e2 :: e3 :: e4 :: .own b e size (.slice A n c) m xs :: es)) : Rd w (· < w.heap.size) A size n xs := hF.rdOwn (i := 5) rfl
theorem Fr.rd5 {size n : Nat} {A : Option Addr} {xs : List Value} (hF : Fr X w0 w (e0 :: e1 :: e2 :: e3 :: e4 :: .rd A size n xs :: es)) : Rd w (· < w.heap.size) A size n xs := hF.rd (i := 5) rfl
theorem Fr.bytes5 {b : Nat} {e : TypeId} {v : Value} {l : List UInt8} (hF : Fr X w0 w (e0 :: e1 :: e2 :: e3 :: e4 :: .bytes b e v l :: es)) : OwnB w b e v l := hF.own (i := 5) rfl
/-- A callee has changed the block. -/
theorem Fr.put5 {w' : World} (hF : Fr X w0 w (e0 :: e1 :: e2 :: e3 :: e4 :: .blk g t cs :: es)) {cs' : List Value} (hg : w.grownBy w' (some g)) (hb : w'.heap[g]? = some (.cells cs'.toArray t (0, 0))) : Fr X w0 w' (e0 :: e1 :: e2 :: e3 :: e4 :: .blk g t cs' :: es) := hF.put (i := 5) (e' := .blk g t cs') rfl hg hb (.inl rfl)
/-- A callee has changed the block, and hands back bytes of its own. -/
theorem Fr.putGot5 {w' : World} (hF : Fr X w0 w (e0 :: e1 :: e2 :: e3 :: e4 :: .blk g t cs :: es)) {cs' : List Value} (hg : w.grownBy w' (some g)) (hb : w'.heap[g]? = some (.cells cs'.toArray t (0, 0))) {e : TypeId} {v : Value} {l : List UInt8} (ho : OwnB w' w.heap.size e v l) : Fr X w0 w' (Ent.bytes w0.heap.size e v l :: (e0 :: e1 :: e2 :: e3 :: e4 :: .blk g t cs' :: es)) := put_got hF (i := 5) rfl hg hb ho
/-- A callee has appended to the bytes. -/
theorem Fr.putB5 {w' : World} {b : Nat} {e : TypeId} {v v' : Value} {l l' : List UInt8} (hF : Fr X w0 w (e0 :: e1 :: e2 :: e3 :: e4 :: .bytes b e v l :: es)) (hg : w.grownBy w' v.ownBlock) (hb : OwnB w' b e v' l') (hv : ∀ k, v'.ownBlock = some k → w.heap.size ≤ k ∨ v.ownBlock = some k) : Fr X w0 w' (e0 :: e1 :: e2 :: e3 :: e4 :: Ent.bytes b e v' l' :: es) := hF.put (i := 5) (e' := Ent.bytes b e v' l') rfl hg hb.own (own_or hv)
theorem results_cellF_5 {fn : Func} {p : Tmp} {ty : TypeId} (hF : Fr X w0 w (e0 :: e1 :: e2 :: e3 :: e4 :: .blk g t cs :: es)) (h : fn.results = #[.cell p ty]) (tmps : Array Value) (hp : tmps.getD p undef = .pointer (some ⟨g, 0, none⟩)) {d : TypeDesc} (hu : P.underlying ty = some d) (hd : aggT d = true) (hs : (P.info? ty).map (·.size) = some cs.length) : (results fn tmps).run P w = .ok (.agg cs.toArray) w :=
  results_cellF h tmps hF (i := 5) rfl hp hu hd hs
theorem results_cellF2_5 {fn : Func} {p q : Tmp} {ty : TypeId} (hF : Fr X w0 w (e0 :: e1 :: e2 :: e3 :: e4 :: .blk g t cs :: es)) (h : fn.results = #[.cell p ty, .tmp q]) (tmps : Array Value) (hp : tmps.getD p undef = .pointer (some ⟨g, 0, none⟩)) {d : TypeDesc} (hu : P.underlying ty = some d) (hd : aggT d = true) (hs : (P.info? ty).map (·.size) = some cs.length) : (results fn tmps).run P w = .ok (.tuple #[.agg cs.toArray, tmps.getD q undef]) w :=
  results_cellF2 h tmps hF (i := 5) rfl hp hu hd hs
end laws
end Go.Proofs.YtdekogmegdhjoaaDoor
