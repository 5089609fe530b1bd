/-
  The laws over a frame of known blocks, by the place of the entry. (Printed by gen_frp.py.) No program is named here.
  Laws over a frame of known blocks, for regions that draw their order: a call met by its contract; entries picked out. No program is named here.
  Laws over a frame of known blocks, for slices of any elements: appends, elements of several cells, literals of one element. No program is named here.
  Frames of known blocks, joined: what a call hands back in blocks of its own. No program is named here.
-/
import Derived.Test.YtdekogmegdhjoaaDoorM02
import Derived.Deep.RegionHeld3
namespace Go.Proofs.YtdekogmegdhjoaaDoor
open Go.RowKit

theorem own_or {v v' : Value} {B : Nat} (hv : ∀ k, v'.ownBlock = some k → B ≤ k ∨ v.ownBlock = some k) : v'.ownBlock = v.ownBlock ∨ ∀ k, v'.ownBlock = some k → B ≤ k := by
  cases h : v'.ownBlock with
  | none => exact .inr fun k hk => by cases hk
  | some k =>
    rcases hv k h with h1 | h1
    · exact .inr fun j hj => by injection hj with hj; omega
    · exact .inl h1.symm
theorem put_got {X : List Nat} {w0 w w' : World} {es : List Ent} (hF : Fr X w0 w es) {i g : Nat} {t : TypeId} {cs cs' : List Value} (hi : es[i]? = some (.blk g t cs)) (hg : w.grownBy w' (some g)) (hb : w'.heap[g]? = some (.cells cs'.toArray t (0, 0))) {e : TypeId} {v : Value} {l : List UInt8} (ho : OwnB w' w.heap.size e v l) : Fr X w0 w' (Ent.bytes w0.heap.size e v l :: es.set i (.blk g t cs')) := by
  refine (hF.put hi (e' := .blk g t cs') hg hb (.inl rfl)).push (e := Ent.bytes w0.heap.size e v l) ?_ fun b hb => ?_
  · refine ⟨ho.own.1, ho.own.2.imp id ?_⟩
    rintro ⟨g, cap, cur, hv, hg, rest⟩
    exact ⟨g, cap, cur, hv, Nat.le_trans hF.size hg, rest⟩
  · have hge : w.heap.size ≤ b := (ho.own.lt b hb).1
    refine ⟨.inl (Nat.le_trans hF.size hge), fun j f hj hf => ?_⟩
    have hlt : b < w.heap.size := by
      rw [List.getElem?_set] at hj
      by_cases hij : i = j
      · rw [if_pos hij] at hj
        by_cases hil : i < es.length
        · rw [if_pos (hij ▸ hil)] at hj
          injection hj with hj
          subst hj
          injection hf with hf
          subst hf
          exact hF.lt hi
        · rw [if_neg (hij ▸ hil)] at hj; cases hj
      · rw [if_neg hij] at hj
        exact Ent.lt (hF.holds j f hj) hf
    omega
section laws
variable {P : Program} {o : Oper} {a : Act} {X : List Nat} {w0 w : World} {es : List Ent} {K : Act → World → Prop} {Q : Exit → Act → World → Prop}
variable {g : Nat} {t : TypeId} {cs : List Value} {e0 e1 e2 e3 e4 e5 : Ent}
theorem wp_fld0 (hF : Fr X w0 w (.blk g t cs :: es)) {e : TypeId} {d : TypeDesc} (hu : P.underlying e = some d) (hd : aggT d = false) {off : Nat} (ho : IsLd o a e ⟨g, off, none⟩) {u : Value} (hc : cs[off]? = some u) (k : K (a.put o.dst u) w) : o.wp P a w K Q :=
  wp_fld hF (i := 0) rfl hu hd ho hc k
theorem wp_fldA0 (hF : Fr X w0 w (.blk g t cs :: es)) {e : TypeId} {d : TypeDesc} (hu : P.underlying e = some d) (hd : aggT d = true) {off : Nat} (ho : IsLd o a e ⟨g, off, none⟩) {ds : List Value} (hs : (P.info? e).map (·.size) = some ds.length) (hc : (cs.drop off).take ds.length = ds) (k : K (a.put o.dst (.agg ds.toArray)) w) : o.wp P a w K Q :=
  wp_fldA hF (i := 0) rfl hu hd ho hs hc k
theorem wp_fst0 (hF : Fr X w0 w (.blk g t cs :: es)) {e : TypeId} {off : Nat} {v : Value} (ho : IsSt o a e ⟨g, off, none⟩ v) (hs : (P.info? e).map (·.size) = some 1) (hv : v.cells = #[v]) (h1 : v.oneCell' = true) (hl : off < cs.length) {cs' : List Value} (hcs : spl cs off [v] = cs')
    (k : ∀ w', Fr X w0 w' (.blk g t cs' :: es) → w'.heap.size = w.heap.size → K (a.put o.dst undef) w') : o.wp P a w K Q := by
  subst hcs; exact wp_fst hF (i := 0) rfl ho hs hv h1 hl k
theorem wp_fstA0 (hF : Fr X w0 w (.blk g t cs :: es)) {e : TypeId} {off : Nat} {ds : List Value} (ho : IsSt o a e ⟨g, off, none⟩ (.agg ds.toArray)) (hs : (P.info? e).map (·.size) = some ds.length) (h1 : ∀ u ∈ ds, u.oneCell' = true) (hl : off + ds.length ≤ cs.length) {cs' : List Value} (hcs : spl cs off ds = cs')
    (k : ∀ w', Fr X w0 w' (.blk g t cs' :: es) → w'.heap.size = w.heap.size → K (a.put o.dst undef) w') : o.wp P a w K Q := by
  subst hcs; exact wp_fstA hF (i := 0) rfl ho hs h1 hl k
theorem wp_fapp0 {sl e : TypeId} (T : SlT P sl e 1 1 (.int .u8 0)) {b : Nat} {v : Value} {l : List UInt8} (hF : Fr X w0 w (.bytes b e v l :: es)) (hb : b ≤ w0.heap.size) {S : Nat → Prop} {A : Option Addr} {m c : Nat} {l' : List UInt8} (hr : Rd w S A 1 m (l'.map bv))
    (ho : IsApp o a sl v (.slice A m c)) (hroom : l.length + m ≤ 140737488355328)
    (k : ∀ v' w', Fr X w0 w' (Ent.bytes b e v' (l ++ l') :: es) → w.heap.size ≤ w'.heap.size → K (a.put o.dst v') w') : o.wp P a w K Q :=
  wp_fapp T hF (i := 0) rfl hb hr ho hroom k
theorem wp_fcopy0 {dT sT el : TypeId} (hu : P.underlying dT = some (.slice el)) (hs : (P.info? el).map (·.size) = some 1) (hF : Fr X w0 w (.blk g t cs :: es)) {S : Nat → Prop} {A : Option Addr} {off n m c dc : Nat} {xs : List Value} (hr : Rd w S A 1 m xs) (h1 : ∀ u ∈ xs, u.oneCell' = true)
    {d s : Operand} (ho : o.op = .call { callee := .builtin .copy, args := #[d, s], argTypes := #[dT, sT] }) (hd : a.eval d = .slice (some ⟨g, off, none⟩) n dc) (hsrc : a.eval s = .slice A m c) (hl : off + n ≤ cs.length) {cs' : List Value} (hcs : spl cs off (xs.take n) = cs')
    (k : ∀ w', Fr X w0 w' (.blk g t cs' :: es) → w'.heap.size = w.heap.size → K (a.put o.dst (goInt (Nat.min m n))) w') : o.wp P a w K Q := by
  subst hcs; exact wp_fcopy hu hs hF (i := 0) rfl hr h1 ho hd hsrc hl k
theorem Fr.cell0 (hF : Fr X w0 w (.blk g t cs :: es)) {off : Nat} {u : Value} (hc : cs[off]? = some u) : w.cell? ⟨g, off, none⟩ = some u := by
  rw [cell_of_row w g off _ t (0, 0) (hF.blk (i := 0) rfl)]; simpa using hc
theorem Fr.heap0 (hF : Fr X w0 w (.blk g t cs :: es)) : w.heap[g]? = some (.cells cs.toArray t (0, 0)) := hF.blk (i := 0) rfl
theorem Fr.rdBlk0 (hF : Fr X w0 w (.blk g t cs :: es)) {off n : Nat} {xs : List Value} (hx : xs.length = n) (hc : (cs.drop off).take n = xs) : Rd w (· < w.heap.size) (some ⟨g, off, none⟩) 1 n xs := hF.rdBlk (i := 0) rfl hx hc
theorem Fr.rdOwn0 {b : Nat} {e : TypeId} {size n m c : Nat} {A : Option Addr} {xs : List Value} (hF : Fr X w0 w (.own b e size (.slice A n c) m xs :: es)) : Rd w (· < w.heap.size) A size n xs := hF.rdOwn (i := 0) rfl
theorem Fr.rd0 {size n : Nat} {A : Option Addr} {xs : List Value} (hF : Fr X w0 w (.rd A size n xs :: es)) : Rd w (· < w.heap.size) A size n xs := hF.rd (i := 0) rfl
theorem Fr.bytes0 {b : Nat} {e : TypeId} {v : Value} {l : List UInt8} (hF : Fr X w0 w (.bytes b e v l :: es)) : OwnB w b e v l := hF.own (i := 0) rfl
/-- A callee has changed the block. -/
theorem Fr.put0 {w' : World} (hF : Fr X w0 w (.blk g t cs :: es)) {cs' : List Value} (hg : w.grownBy w' (some g)) (hb : w'.heap[g]? = some (.cells cs'.toArray t (0, 0))) : Fr X w0 w' (.blk g t cs' :: es) := hF.put (i := 0) (e' := .blk g t cs') rfl hg hb (.inl rfl)
/-- A callee has changed the block, and hands back bytes of its own. -/
theorem Fr.putGot0 {w' : World} (hF : Fr X w0 w (.blk g t cs :: es)) {cs' : List Value} (hg : w.grownBy w' (some g)) (hb : w'.heap[g]? = some (.cells cs'.toArray t (0, 0))) {e : TypeId} {v : Value} {l : List UInt8} (ho : OwnB w' w.heap.size e v l) : Fr X w0 w' (Ent.bytes w0.heap.size e v l :: (.blk g t cs' :: es)) := put_got hF (i := 0) rfl hg hb ho
/-- A callee has appended to the bytes. -/
theorem Fr.putB0 {w' : World} {b : Nat} {e : TypeId} {v v' : Value} {l l' : List UInt8} (hF : Fr X w0 w (.bytes b e v l :: es)) (hg : w.grownBy w' v.ownBlock) (hb : OwnB w' b e v' l') (hv : ∀ k, v'.ownBlock = some k → w.heap.size ≤ k ∨ v.ownBlock = some k) : Fr X w0 w' (Ent.bytes b e v' l' :: es) := hF.put (i := 0) (e' := Ent.bytes b e v' l') rfl hg hb.own (own_or hv)
theorem results_cellF_0 {fn : Func} {p : Tmp} {ty : TypeId} (hF : Fr X w0 w (.blk g t cs :: es)) (h : fn.results = #[.cell p ty]) (tmps : Array Value) (hp : tmps.getD p undef = .pointer (some ⟨g, 0, none⟩)) {d : TypeDesc} (hu : P.underlying ty = some d) (hd : aggT d = true) (hs : (P.info? ty).map (·.size) = some cs.length) : (results fn tmps).run P w = .ok (.agg cs.toArray) w :=
  results_cellF h tmps hF (i := 0) rfl hp hu hd hs
theorem results_cellF2_0 {fn : Func} {p q : Tmp} {ty : TypeId} (hF : Fr X w0 w (.blk g t cs :: es)) (h : fn.results = #[.cell p ty, .tmp q]) (tmps : Array Value) (hp : tmps.getD p undef = .pointer (some ⟨g, 0, none⟩)) {d : TypeDesc} (hu : P.underlying ty = some d) (hd : aggT d = true) (hs : (P.info? ty).map (·.size) = some cs.length) : (results fn tmps).run P w = .ok (.tuple #[.agg cs.toArray, tmps.getD q undef]) w :=
  results_cellF2 h tmps hF (i := 0) rfl hp hu hd hs
theorem wp_fld1 (hF : Fr X w0 w (e0 :: .blk g t cs :: es)) {e : TypeId} {d : TypeDesc} (hu : P.underlying e = some d) (hd : aggT d = false) {off : Nat} (ho : IsLd o a e ⟨g, off, none⟩) {u : Value} (hc : cs[off]? = some u) (k : K (a.put o.dst u) w) : o.wp P a w K Q :=
  wp_fld hF (i := 1) rfl hu hd ho hc k
theorem wp_fldA1 (hF : Fr X w0 w (e0 :: .blk g t cs :: es)) {e : TypeId} {d : TypeDesc} (hu : P.underlying e = some d) (hd : aggT d = true) {off : Nat} (ho : IsLd o a e ⟨g, off, none⟩) {ds : List Value} (hs : (P.info? e).map (·.size) = some ds.length) (hc : (cs.drop off).take ds.length = ds) (k : K (a.put o.dst (.agg ds.toArray)) w) : o.wp P a w K Q :=
  wp_fldA hF (i := 1) rfl hu hd ho hs hc k
theorem wp_fst1 (hF : Fr X w0 w (e0 :: .blk g t cs :: es)) {e : TypeId} {off : Nat} {v : Value} (ho : IsSt o a e ⟨g, off, none⟩ v) (hs : (P.info? e).map (·.size) = some 1) (hv : v.cells = #[v]) (h1 : v.oneCell' = true) (hl : off < cs.length) {cs' : List Value} (hcs : spl cs off [v] = cs')
    (k : ∀ w', Fr X w0 w' (e0 :: .blk g t cs' :: es) → w'.heap.size = w.heap.size → K (a.put o.dst undef) w') : o.wp P a w K Q := by
  subst hcs; exact wp_fst hF (i := 1) rfl ho hs hv h1 hl k
theorem wp_fstA1 (hF : Fr X w0 w (e0 :: .blk g t cs :: es)) {e : TypeId} {off : Nat} {ds : List Value} (ho : IsSt o a e ⟨g, off, none⟩ (.agg ds.toArray)) (hs : (P.info? e).map (·.size) = some ds.length) (h1 : ∀ u ∈ ds, u.oneCell' = true) (hl : off + ds.length ≤ cs.length) {cs' : List Value} (hcs : spl cs off ds = cs')
    (k : ∀ w', Fr X w0 w' (e0 :: .blk g t cs' :: es) → w'.heap.size = w.heap.size → K (a.put o.dst undef) w') : o.wp P a w K Q := by
  subst hcs; exact wp_fstA hF (i := 1) rfl ho hs h1 hl k
theorem wp_fapp1 {sl e : TypeId} (T : SlT P sl e 1 1 (.int .u8 0)) {b : Nat} {v : Value} {l : List UInt8} (hF : Fr X w0 w (e0 :: .bytes b e v l :: es)) (hb : b ≤ w0.heap.size) {S : Nat → Prop} {A : Option Addr} {m c : Nat} {l' : List UInt8} (hr : Rd w S A 1 m (l'.map bv))
    (ho : IsApp o a sl v (.slice A m c)) (hroom : l.length + m ≤ 140737488355328)
    (k : ∀ v' w', Fr X w0 w' (e0 :: Ent.bytes b e v' (l ++ l') :: es) → w.heap.size ≤ w'.heap.size → K (a.put o.dst v') w') : o.wp P a w K Q :=
  wp_fapp T hF (i := 1) rfl hb hr ho hroom k
theorem wp_fcopy1 {dT sT el : TypeId} (hu : P.underlying dT = some (.slice el)) (hs : (P.info? el).map (·.size) = some 1) (hF : Fr X w0 w (e0 :: .blk g t cs :: es)) {S : Nat → Prop} {A : Option Addr} {off n m c dc : Nat} {xs : List Value} (hr : Rd w S A 1 m xs) (h1 : ∀ u ∈ xs, u.oneCell' = true)
    {d s : Operand} (ho : o.op = .call { callee := .builtin .copy, args := #[d, s], argTypes := #[dT, sT] }) (hd : a.eval d = .slice (some ⟨g, off, none⟩) n dc) (hsrc : a.eval s = .slice A m c) (hl : off + n ≤ cs.length) {cs' : List Value} (hcs : spl cs off (xs.take n) = cs')
    (k : ∀ w', Fr X w0 w' (e0 :: .blk g t cs' :: es) → w'.heap.size = w.heap.size → K (a.put o.dst (goInt (Nat.min m n))) w') : o.wp P a w K Q := by
  subst hcs; exact wp_fcopy hu hs hF (i := 1) rfl hr h1 ho hd hsrc hl k
theorem Fr.cell1 (hF : Fr X w0 w (e0 :: .blk g t cs :: es)) {off : Nat} {u : Value} (hc : cs[off]? = some u) : w.cell? ⟨g, off, none⟩ = some u := by
  rw [cell_of_row w g off _ t (0, 0) (hF.blk (i := 1) rfl)]; simpa using hc
theorem Fr.heap1 (hF : Fr X w0 w (e0 :: .blk g t cs :: es)) : w.heap[g]? = some (.cells cs.toArray t (0, 0)) := hF.blk (i := 1) rfl
theorem Fr.rdBlk1 (hF : Fr X w0 w (e0 :: .blk g t cs :: es)) {off n : Nat} {xs : List Value} (hx : xs.length = n) (hc : (cs.drop off).take n = xs) : Rd w (· < w.heap.size) (some ⟨g, off, none⟩) 1 n xs := hF.rdBlk (i := 1) rfl hx hc
theorem Fr.rdOwn1 {b : Nat} {e : TypeId} {size n m c : Nat} {A : Option Addr} {xs : List Value} (hF : Fr X w0 w (e0 :: .own b e size (.slice A n c) m xs :: es)) : Rd w (· < w.heap.size) A size n xs := hF.rdOwn (i := 1) rfl
theorem Fr.rd1 {size n : Nat} {A : Option Addr} {xs : List Value} (hF : Fr X w0 w (e0 :: .rd A size n xs :: es)) : Rd w (· < w.heap.size) A size n xs := hF.rd (i := 1) rfl
theorem Fr.bytes1 {b : Nat} {e : TypeId} {v : Value} {l : List UInt8} (hF : Fr X w0 w (e0 :: .bytes b e v l :: es)) : OwnB w b e v l := hF.own (i := 1) rfl
/-- A callee has changed the block. -/
theorem Fr.put1 {w' : World} (hF : Fr X w0 w (e0 :: .blk g t cs :: es)) {cs' : List Value} (hg : w.grownBy w' (some g)) (hb : w'.heap[g]? = some (.cells cs'.toArray t (0, 0))) : Fr X w0 w' (e0 :: .blk g t cs' :: es) := hF.put (i := 1) (e' := .blk g t cs') rfl hg hb (.inl rfl)
/-- A callee has changed the block, and hands back bytes of its own. -/
theorem Fr.putGot1 {w' : World} (hF : Fr X w0 w (e0 :: .blk g t cs :: es)) {cs' : List Value} (hg : w.grownBy w' (some g)) (hb : w'.heap[g]? = some (.cells cs'.toArray t (0, 0))) {e : TypeId} {v : Value} {l : List UInt8} (ho : OwnB w' w.heap.size e v l) : Fr X w0 w' (Ent.bytes w0.heap.size e v l :: (e0 :: .blk g t cs' :: es)) := put_got hF (i := 1) rfl hg hb ho
/-- A callee has appended to the bytes. -/
theorem Fr.putB1 {w' : World} {b : Nat} {e : TypeId} {v v' : Value} {l l' : List UInt8} (hF : Fr X w0 w (e0 :: .bytes b e v l :: es)) (hg : w.grownBy w' v.ownBlock) (hb : OwnB w' b e v' l') (hv : ∀ k, v'.ownBlock = some k → w.heap.size ≤ k ∨ v.ownBlock = some k) : Fr X w0 w' (e0 :: Ent.bytes b e v' l' :: es) := hF.put (i := 1) (e' := Ent.bytes b e v' l') rfl hg hb.own (own_or hv)
theorem results_cellF_1 {fn : Func} {p : Tmp} {ty : TypeId} (hF : Fr X w0 w (e0 :: .blk g t cs :: es)) (h : fn.results = #[.cell p ty]) (tmps : Array Value) (hp : tmps.getD p undef = .pointer (some ⟨g, 0, none⟩)) {d : TypeDesc} (hu : P.underlying ty = some d) (hd : aggT d = true) (hs : (P.info? ty).map (·.size) = some cs.length) : (results fn tmps).run P w = .ok (.agg cs.toArray) w :=
  results_cellF h tmps hF (i := 1) rfl hp hu hd hs
theorem results_cellF2_1 {fn : Func} {p q : Tmp} {ty : TypeId} (hF : Fr X w0 w (e0 :: .blk g t cs :: es)) (h : fn.results = #[.cell p ty, .tmp q]) (tmps : Array Value) (hp : tmps.getD p undef = .pointer (some ⟨g, 0, none⟩)) {d : TypeDesc} (hu : P.underlying ty = some d) (hd : aggT d = true) (hs : (P.info? ty).map (·.size) = some cs.length) : (results fn tmps).run P w = .ok (.tuple #[.agg cs.toArray, tmps.getD q undef]) w :=
  results_cellF2 h tmps hF (i := 1) rfl hp hu hd hs
theorem wp_fld2 (hF : Fr X w0 w (e0 :: e1 :: .blk g t cs :: es)) {e : TypeId} {d : TypeDesc} (hu : P.underlying e = some d) (hd : aggT d = false) {off : Nat} (ho : IsLd o a e ⟨g, off, none⟩) {u : Value} (hc : cs[off]? = some u) (k : K (a.put o.dst u) w) : o.wp P a w K Q :=
  wp_fld hF (i := 2) rfl hu hd ho hc k
theorem wp_fldA2 (hF : Fr X w0 w (e0 :: e1 :: .blk g t cs :: es)) {e : TypeId} {d : TypeDesc} (hu : P.underlying e = some d) (hd : aggT d = true) {off : Nat} (ho : IsLd o a e ⟨g, off, none⟩) {ds : List Value} (hs : (P.info? e).map (·.size) = some ds.length) (hc : (cs.drop off).take ds.length = ds) (k : K (a.put o.dst (.agg ds.toArray)) w) : o.wp P a w K Q :=
  wp_fldA hF (i := 2) rfl hu hd ho hs hc k
theorem wp_fst2 (hF : Fr X w0 w (e0 :: e1 :: .blk g t cs :: es)) {e : TypeId} {off : Nat} {v : Value} (ho : IsSt o a e ⟨g, off, none⟩ v) (hs : (P.info? e).map (·.size) = some 1) (hv : v.cells = #[v]) (h1 : v.oneCell' = true) (hl : off < cs.length) {cs' : List Value} (hcs : spl cs off [v] = cs')
    (k : ∀ w', Fr X w0 w' (e0 :: e1 :: .blk g t cs' :: es) → w'.heap.size = w.heap.size → K (a.put o.dst undef) w') : o.wp P a w K Q := by
  subst hcs; exact wp_fst hF (i := 2) rfl ho hs hv h1 hl k
theorem wp_fstA2 (hF : Fr X w0 w (e0 :: e1 :: .blk g t cs :: es)) {e : TypeId} {off : Nat} {ds : List Value} (ho : IsSt o a e ⟨g, off, none⟩ (.agg ds.toArray)) (hs : (P.info? e).map (·.size) = some ds.length) (h1 : ∀ u ∈ ds, u.oneCell' = true) (hl : off + ds.length ≤ cs.length) {cs' : List Value} (hcs : spl cs off ds = cs')
    (k : ∀ w', Fr X w0 w' (e0 :: e1 :: .blk g t cs' :: es) → w'.heap.size = w.heap.size → K (a.put o.dst undef) w') : o.wp P a w K Q := by
  subst hcs; exact wp_fstA hF (i := 2) rfl ho hs h1 hl k
theorem wp_fapp2 {sl e : TypeId} (T : SlT P sl e 1 1 (.int .u8 0)) {b : Nat} {v : Value} {l : List UInt8} (hF : Fr X w0 w (e0 :: e1 :: .bytes b e v l :: es)) (hb : b ≤ w0.heap.size) {S : Nat → Prop} {A : Option Addr} {m c : Nat} {l' : List UInt8} (hr : Rd w S A 1 m (l'.map bv))
    (ho : IsApp o a sl v (.slice A m c)) (hroom : l.length + m ≤ 140737488355328)
    (k : ∀ v' w', Fr X w0 w' (e0 :: e1 :: Ent.bytes b e v' (l ++ l') :: es) → w.heap.size ≤ w'.heap.size → K (a.put o.dst v') w') : o.wp P a w K Q :=
  wp_fapp T hF (i := 2) rfl hb hr ho hroom k
theorem wp_fcopy2 {dT sT el : TypeId} (hu : P.underlying dT = some (.slice el)) (hs : (P.info? el).map (·.size) = some 1) (hF : Fr X w0 w (e0 :: e1 :: .blk g t cs :: es)) {S : Nat → Prop} {A : Option Addr} {off n m c dc : Nat} {xs : List Value} (hr : Rd w S A 1 m xs) (h1 : ∀ u ∈ xs, u.oneCell' = true)
    {d s : Operand} (ho : o.op = .call { callee := .builtin .copy, args := #[d, s], argTypes := #[dT, sT] }) (hd : a.eval d = .slice (some ⟨g, off, none⟩) n dc) (hsrc : a.eval s = .slice A m c) (hl : off + n ≤ cs.length) {cs' : List Value} (hcs : spl cs off (xs.take n) = cs')
    (k : ∀ w', Fr X w0 w' (e0 :: e1 :: .blk g t cs' :: es) → w'.heap.size = w.heap.size → K (a.put o.dst (goInt (Nat.min m n))) w') : o.wp P a w K Q := by
  subst hcs; exact wp_fcopy hu hs hF (i := 2) rfl hr h1 ho hd hsrc hl k
theorem Fr.cell2 (hF : Fr X w0 w (e0 :: e1 :: .blk g t cs :: es)) {off : Nat} {u : Value} (hc : cs[off]? = some u) : w.cell? ⟨g, off, none⟩ = some u := by
  rw [cell_of_row w g off _ t (0, 0) (hF.blk (i := 2) rfl)]; simpa using hc
theorem Fr.heap2 (hF : Fr X w0 w (e0 :: e1 :: .blk g t cs :: es)) : w.heap[g]? = some (.cells cs.toArray t (0, 0)) := hF.blk (i := 2) rfl
theorem Fr.rdBlk2 (hF : Fr X w0 w (e0 :: e1 :: .blk g t cs :: es)) {off n : Nat} {xs : List Value} (hx : xs.length = n) (hc : (cs.drop off).take n = xs) : Rd w (· < w.heap.size) (some ⟨g, off, none⟩) 1 n xs := hF.rdBlk (i := 2) rfl hx hc
theorem Fr.rdOwn2 {b : Nat} {e : TypeId} {size n m c : Nat} {A : Option Addr} {xs : List Value} (hF : Fr X w0 w (e0 :: e1 :: .own b e size (.slice A n c) m xs :: es)) : Rd w (· < w.heap.size) A size n xs := hF.rdOwn (i := 2) rfl
theorem Fr.rd2 {size n : Nat} {A : Option Addr} {xs : List Value} (hF : Fr X w0 w (e0 :: e1 :: .rd A size n xs :: es)) : Rd w (· < w.heap.size) A size n xs := hF.rd (i := 2) rfl
theorem Fr.bytes2 {b : Nat} {e : TypeId} {v : Value} {l : List UInt8} (hF : Fr X w0 w (e0 :: e1 :: .bytes b e v l :: es)) : OwnB w b e v l := hF.own (i := 2) rfl
/-- A callee has changed the block. -/
theorem Fr.put2 {w' : World} (hF : Fr X w0 w (e0 :: e1 :: .blk g t cs :: es)) {cs' : List Value} (hg : w.grownBy w' (some g)) (hb : w'.heap[g]? = some (.cells cs'.toArray t (0, 0))) : Fr X w0 w' (e0 :: e1 :: .blk g t cs' :: es) := hF.put (i := 2) (e' := .blk g t cs') rfl hg hb (.inl rfl)
/-- A callee has changed the block, and hands back bytes of its own. -/
theorem Fr.putGot2 {w' : World} (hF : Fr X w0 w (e0 :: e1 :: .blk g t cs :: es)) {cs' : List Value} (hg : w.grownBy w' (some g)) (hb : w'.heap[g]? = some (.cells cs'.toArray t (0, 0))) {e : TypeId} {v : Value} {l : List UInt8} (ho : OwnB w' w.heap.size e v l) : Fr X w0 w' (Ent.bytes w0.heap.size e v l :: (e0 :: e1 :: .blk g t cs' :: es)) := put_got hF (i := 2) rfl hg hb ho
/-- A callee has appended to the bytes. -/
theorem Fr.putB2 {w' : World} {b : Nat} {e : TypeId} {v v' : Value} {l l' : List UInt8} (hF : Fr X w0 w (e0 :: e1 :: .bytes b e v l :: es)) (hg : w.grownBy w' v.ownBlock) (hb : OwnB w' b e v' l') (hv : ∀ k, v'.ownBlock = some k → w.heap.size ≤ k ∨ v.ownBlock = some k) : Fr X w0 w' (e0 :: e1 :: Ent.bytes b e v' l' :: es) := hF.put (i := 2) (e' := Ent.bytes b e v' l') rfl hg hb.own (own_or hv)
theorem results_cellF_2 {fn : Func} {p : Tmp} {ty : TypeId} (hF : Fr X w0 w (e0 :: e1 :: .blk g t cs :: es)) (h : fn.results = #[.cell p ty]) (tmps : Array Value) (hp : tmps.getD p undef = .pointer (some ⟨g, 0, none⟩)) {d : TypeDesc} (hu : P.underlying ty = some d) (hd : aggT d = true) (hs : (P.info? ty).map (·.size) = some cs.length) : (results fn tmps).run P w = .ok (.agg cs.toArray) w :=
  results_cellF h tmps hF (i := 2) rfl hp hu hd hs
theorem results_cellF2_2 {fn : Func} {p q : Tmp} {ty : TypeId} (hF : Fr X w0 w (e0 :: e1 :: .blk g t cs :: es)) (h : fn.results = #[.cell p ty, .tmp q]) (tmps : Array Value) (hp : tmps.getD p undef = .pointer (some ⟨g, 0, none⟩)) {d : TypeDesc} (hu : P.underlying ty = some d) (hd : aggT d = true) (hs : (P.info? ty).map (·.size) = some cs.length) : (results fn tmps).run P w = .ok (.tuple #[.agg cs.toArray, tmps.getD q undef]) w :=
  results_cellF2 h tmps hF (i := 2) rfl hp hu hd hs
theorem wp_fld3 (hF : Fr X w0 w (e0 :: e1 :: e2 :: .blk g t cs :: es)) {e : TypeId} {d : TypeDesc} (hu : P.underlying e = some d) (hd : aggT d = false) {off : Nat} (ho : IsLd o a e ⟨g, off, none⟩) {u : Value} (hc : cs[off]? = some u) (k : K (a.put o.dst u) w) : o.wp P a w K Q :=
  wp_fld hF (i := 3) rfl hu hd ho hc k
theorem wp_fldA3 (hF : Fr X w0 w (e0 :: e1 :: e2 :: .blk g t cs :: es)) {e : TypeId} {d : TypeDesc} (hu : P.underlying e = some d) (hd : aggT d = true) {off : Nat} (ho : IsLd o a e ⟨g, off, none⟩) {ds : List Value} (hs : (P.info? e).map (·.size) = some ds.length) (hc : (cs.drop off).take ds.length = ds) (k : K (a.put o.dst (.agg ds.toArray)) w) : o.wp P a w K Q :=
  wp_fldA hF (i := 3) rfl hu hd ho hs hc k
theorem wp_fst3 (hF : Fr X w0 w (e0 :: e1 :: e2 :: .blk g t cs :: es)) {e : TypeId} {off : Nat} {v : Value} (ho : IsSt o a e ⟨g, off, none⟩ v) (hs : (P.info? e).map (·.size) = some 1) (hv : v.cells = #[v]) (h1 : v.oneCell' = true) (hl : off < cs.length) {cs' : List Value} (hcs : spl cs off [v] = cs')
    (k : ∀ w', Fr X w0 w' (e0 :: e1 :: e2 :: .blk g t cs' :: es) → w'.heap.size = w.heap.size → K (a.put o.dst undef) w') : o.wp P a w K Q := by
  subst hcs; exact wp_fst hF (i := 3) rfl ho hs hv h1 hl k
theorem wp_fstA3 (hF : Fr X w0 w (e0 :: e1 :: e2 :: .blk g t cs :: es)) {e : TypeId} {off : Nat} {ds : List Value} (ho : IsSt o a e ⟨g, off, none⟩ (.agg ds.toArray)) (hs : (P.info? e).map (·.size) = some ds.length) (h1 : ∀ u ∈ ds, u.oneCell' = true) (hl : off + ds.length ≤ cs.length) {cs' : List Value} (hcs : spl cs off ds = cs')
    (k : ∀ w', Fr X w0 w' (e0 :: e1 :: e2 :: .blk g t cs' :: es) → w'.heap.size = w.heap.size → K (a.put o.dst undef) w') : o.wp P a w K Q := by
  subst hcs; exact wp_fstA hF (i := 3) rfl ho hs h1 hl k
theorem wp_fapp3 {sl e : TypeId} (T : SlT P sl e 1 1 (.int .u8 0)) {b : Nat} {v : Value} {l : List UInt8} (hF : Fr X w0 w (e0 :: e1 :: e2 :: .bytes b e v l :: es)) (hb : b ≤ w0.heap.size) {S : Nat → Prop} {A : Option Addr} {m c : Nat} {l' : List UInt8} (hr : Rd w S A 1 m (l'.map bv))
    (ho : IsApp o a sl v (.slice A m c)) (hroom : l.length + m ≤ 140737488355328)
    (k : ∀ v' w', Fr X w0 w' (e0 :: e1 :: e2 :: Ent.bytes b e v' (l ++ l') :: es) → w.heap.size ≤ w'.heap.size → K (a.put o.dst v') w') : o.wp P a w K Q :=
  wp_fapp T hF (i := 3) rfl hb hr ho hroom k
theorem wp_fcopy3 {dT sT el : TypeId} (hu : P.underlying dT = some (.slice el)) (hs : (P.info? el).map (·.size) = some 1) (hF : Fr X w0 w (e0 :: e1 :: e2 :: .blk g t cs :: es)) {S : Nat → Prop} {A : Option Addr} {off n m c dc : Nat} {xs : List Value} (hr : Rd w S A 1 m xs) (h1 : ∀ u ∈ xs, u.oneCell' = true)
    {d s : Operand} (ho : o.op = .call { callee := .builtin .copy, args := #[d, s], argTypes := #[dT, sT] }) (hd : a.eval d = .slice (some ⟨g, off, none⟩) n dc) (hsrc : a.eval s = .slice A m c) (hl : off + n ≤ cs.length) {cs' : List Value} (hcs : spl cs off (xs.take n) = cs')
    (k : ∀ w', Fr X w0 w' (e0 :: e1 :: e2 :: .blk g t cs' :: es) → w'.heap.size = w.heap.size → K (a.put o.dst (goInt (Nat.min m n))) w') : o.wp P a w K Q := by
  subst hcs; exact wp_fcopy hu hs hF (i := 3) rfl hr h1 ho hd hsrc hl k
theorem Fr.cell3 (hF : Fr X w0 w (e0 :: e1 :: e2 :: .blk g t cs :: es)) {off : Nat} {u : Value} (hc : cs[off]? = some u) : w.cell? ⟨g, off, none⟩ = some u := by
  rw [cell_of_row w g off _ t (0, 0) (hF.blk (i := 3) rfl)]; simpa using hc
theorem Fr.heap3 (hF : Fr X w0 w (e0 :: e1 :: e2 :: .blk g t cs :: es)) : w.heap[g]? = some (.cells cs.toArray t (0, 0)) := hF.blk (i := 3) rfl
theorem Fr.rdBlk3 (hF : Fr X w0 w (e0 :: e1 :: e2 :: .blk g t cs :: es)) {off n : Nat} {xs : List Value} (hx : xs.length = n) (hc : (cs.drop off).take n = xs) : Rd w (· < w.heap.size) (some ⟨g, off, none⟩) 1 n xs := hF.rdBlk (i := 3) rfl hx hc
theorem Fr.rdOwn3 {b : Nat} {e : TypeId} {size n m c : Nat} {A : Option Addr} {xs : List Value} (hF : Fr X w0 w (e0 :: e1 :: e2 :: .own b e size (.slice A n c) m xs :: es)) : Rd w (· < w.heap.size) A size n xs := hF.rdOwn (i := 3) rfl
theorem Fr.rd3 {size n : Nat} {A : Option Addr} {xs : List Value} (hF : Fr X w0 w (e0 :: e1 :: e2 :: .rd A size n xs :: es)) : Rd w (· < w.heap.size) A size n xs := hF.rd (i := 3) rfl
theorem Fr.bytes3 {b : Nat} {e : TypeId} {v : Value} {l : List UInt8} (hF : Fr X w0 w (e0 :: e1 :: e2 :: .bytes b e v l :: es)) : OwnB w b e v l := hF.own (i := 3) rfl
/-- A callee has changed the block. -/
theorem Fr.put3 {w' : World} (hF : Fr X w0 w (e0 :: e1 :: e2 :: .blk g t cs :: es)) {cs' : List Value} (hg : w.grownBy w' (some g)) (hb : w'.heap[g]? = some (.cells cs'.toArray t (0, 0))) : Fr X w0 w' (e0 :: e1 :: e2 :: .blk g t cs' :: es) := hF.put (i := 3) (e' := .blk g t cs') rfl hg hb (.inl rfl)
/-- A callee has changed the block, and hands back bytes of its own. -/
theorem Fr.putGot3 {w' : World} (hF : Fr X w0 w (e0 :: e1 :: e2 :: .blk g t cs :: es)) {cs' : List Value} (hg : w.grownBy w' (some g)) (hb : w'.heap[g]? = some (.cells cs'.toArray t (0, 0))) {e : TypeId} {v : Value} {l : List UInt8} (ho : OwnB w' w.heap.size e v l) : Fr X w0 w' (Ent.bytes w0.heap.size e v l :: (e0 :: e1 :: e2 :: .blk g t cs' :: es)) := put_got hF (i := 3) rfl hg hb ho
/-- A callee has appended to the bytes. -/
theorem Fr.putB3 {w' : World} {b : Nat} {e : TypeId} {v v' : Value} {l l' : List UInt8} (hF : Fr X w0 w (e0 :: e1 :: e2 :: .bytes b e v l :: es)) (hg : w.grownBy w' v.ownBlock) (hb : OwnB w' b e v' l') (hv : ∀ k, v'.ownBlock = some k → w.heap.size ≤ k ∨ v.ownBlock = some k) : Fr X w0 w' (e0 :: e1 :: e2 :: Ent.bytes b e v' l' :: es) := hF.put (i := 3) (e' := Ent.bytes b e v' l') rfl hg hb.own (own_or hv)
theorem results_cellF_3 {fn : Func} {p : Tmp} {ty : TypeId} (hF : Fr X w0 w (e0 :: e1 :: e2 :: .blk g t cs :: es)) (h : fn.results = #[.cell p ty]) (tmps : Array Value) (hp : tmps.getD p undef = .pointer (some ⟨g, 0, none⟩)) {d : TypeDesc} (hu : P.underlying ty = some d) (hd : aggT d = true) (hs : (P.info? ty).map (·.size) = some cs.length) : (results fn tmps).run P w = .ok (.agg cs.toArray) w :=
  results_cellF h tmps hF (i := 3) rfl hp hu hd hs
theorem results_cellF2_3 {fn : Func} {p q : Tmp} {ty : TypeId} (hF : Fr X w0 w (e0 :: e1 :: e2 :: .blk g t cs :: es)) (h : fn.results = #[.cell p ty, .tmp q]) (tmps : Array Value) (hp : tmps.getD p undef = .pointer (some ⟨g, 0, none⟩)) {d : TypeDesc} (hu : P.underlying ty = some d) (hd : aggT d = true) (hs : (P.info? ty).map (·.size) = some cs.length) : (results fn tmps).run P w = .ok (.tuple #[.agg cs.toArray, tmps.getD q undef]) w :=
  results_cellF2 h tmps hF (i := 3) rfl hp hu hd hs
theorem wp_fld4 (hF : Fr X w0 w (e0 :: e1 :: e2 :: e3 :: .blk g t cs :: es)) {e : TypeId} {d : TypeDesc} (hu : P.underlying e = some d) (hd : aggT d = false) {off : Nat} (ho : IsLd o a e ⟨g, off, none⟩) {u : Value} (hc : cs[off]? = some u) (k : K (a.put o.dst u) w) : o.wp P a w K Q :=
  wp_fld hF (i := 4) rfl hu hd ho hc k
theorem wp_fldA4 (hF : Fr X w0 w (e0 :: e1 :: e2 :: e3 :: .blk g t cs :: es)) {e : TypeId} {d : TypeDesc} (hu : P.underlying e = some d) (hd : aggT d = true) {off : Nat} (ho : IsLd o a e ⟨g, off, none⟩) {ds : List Value} (hs : (P.info? e).map (·.size) = some ds.length) (hc : (cs.drop off).take ds.length = ds) (k : K (a.put o.dst (.agg ds.toArray)) w) : o.wp P a w K Q :=
  wp_fldA hF (i := 4) rfl hu hd ho hs hc k
theorem wp_fst4 (hF : Fr X w0 w (e0 :: e1 :: e2 :: e3 :: .blk g t cs :: es)) {e : TypeId} {off : Nat} {v : Value} (ho : IsSt o a e ⟨g, off, none⟩ v) (hs : (P.info? e).map (·.size) = some 1) (hv : v.cells = #[v]) (h1 : v.oneCell' = true) (hl : off < cs.length) {cs' : List Value} (hcs : spl cs off [v] = cs')
    (k : ∀ w', Fr X w0 w' (e0 :: e1 :: e2 :: e3 :: .blk g t cs' :: es) → w'.heap.size = w.heap.size → K (a.put o.dst undef) w') : o.wp P a w K Q := by
  subst hcs; exact wp_fst hF (i := 4) rfl ho hs hv h1 hl k
theorem wp_fstA4 (hF : Fr X w0 w (e0 :: e1 :: e2 :: e3 :: .blk g t cs :: es)) {e : TypeId} {off : Nat} {ds : List Value} (ho : IsSt o a e ⟨g, off, none⟩ (.agg ds.toArray)) (hs : (P.info? e).map (·.size) = some ds.length) (h1 : ∀ u ∈ ds, u.oneCell' = true) (hl : off + ds.length ≤ cs.length) {cs' : List Value} (hcs : spl cs off ds = cs')
    (k : ∀ w', Fr X w0 w' (e0 :: e1 :: e2 :: e3 :: .blk g t cs' :: es) → w'.heap.size = w.heap.size → K (a.put o.dst undef) w') : o.wp P a w K Q := by
  subst hcs; exact wp_fstA hF (i := 4) rfl ho hs h1 hl k
theorem wp_fapp4 {sl e : TypeId} (T : SlT P sl e 1 1 (.int .u8 0)) {b : Nat} {v : Value} {l : List UInt8} (hF : Fr X w0 w (e0 :: e1 :: e2 :: e3 :: .bytes b e v l :: es)) (hb : b ≤ w0.heap.size) {S : Nat → Prop} {A : Option Addr} {m c : Nat} {l' : List UInt8} (hr : Rd w S A 1 m (l'.map bv))
    (ho : IsApp o a sl v (.slice A m c)) (hroom : l.length + m ≤ 140737488355328)
    (k : ∀ v' w', Fr X w0 w' (e0 :: e1 :: e2 :: e3 :: Ent.bytes b e v' (l ++ l') :: es) → w.heap.size ≤ w'.heap.size → K (a.put o.dst v') w') : o.wp P a w K Q :=
  wp_fapp T hF (i := 4) rfl hb hr ho hroom k
theorem wp_fcopy4 {dT sT el : TypeId} (hu : P.underlying dT = some (.slice el)) (hs : (P.info? el).map (·.size) = some 1) (hF : Fr X w0 w (e0 :: e1 :: e2 :: e3 :: .blk g t cs :: es)) {S : Nat → Prop} {A : Option Addr} {off n m c dc : Nat} {xs : List Value} (hr : Rd w S A 1 m xs) (h1 : ∀ u ∈ xs, u.oneCell' = true)
    {d s : Operand} (ho : o.op = .call { callee := .builtin .copy, args := #[d, s], argTypes := #[dT, sT] }) (hd : a.eval d = .slice (some ⟨g, off, none⟩) n dc) (hsrc : a.eval s = .slice A m c) (hl : off + n ≤ cs.length) {cs' : List Value} (hcs : spl cs off (xs.take n) = cs')
    (k : ∀ w', Fr X w0 w' (e0 :: e1 :: e2 :: e3 :: .blk g t cs' :: es) → w'.heap.size = w.heap.size → K (a.put o.dst (goInt (Nat.min m n))) w') : o.wp P a w K Q := by
  subst hcs; exact wp_fcopy hu hs hF (i := 4) rfl hr h1 ho hd hsrc hl k
theorem Fr.cell4 (hF : Fr X w0 w (e0 :: e1 :: e2 :: e3 :: .blk g t cs :: es)) {off : Nat} {u : Value} (hc : cs[off]? = some u) : w.cell? ⟨g, off, none⟩ = some u := by
  rw [cell_of_row w g off _ t (0, 0) (hF.blk (i := 4) rfl)]; simpa using hc
theorem Fr.heap4 (hF : Fr X w0 w (e0 :: e1 :: e2 :: e3 :: .blk g t cs :: es)) : w.heap[g]? = some (.cells cs.toArray t (0, 0)) := hF.blk (i := 4) rfl
theorem Fr.rdBlk4 (hF : Fr X w0 w (e0 :: e1 :: e2 :: e3 :: .blk g t cs :: es)) {off n : Nat} {xs : List Value} (hx : xs.length = n) (hc : (cs.drop off).take n = xs) : Rd w (· < w.heap.size) (some ⟨g, off, none⟩) 1 n xs := hF.rdBlk (i := 4) rfl hx hc
theorem Fr.rdOwn4 {b : Nat} {e : TypeId} {size n m c : Nat} {A : Option Addr} {xs : List Value} (hF : Fr X w0 w (e0 :: e1 :: e2 :: e3 :: .own b e size (.slice A n c) m xs :: es)) : Rd w (· < w.heap.size) A size n xs := hF.rdOwn (i := 4) rfl
theorem Fr.rd4 {size n : Nat} {A : Option Addr} {xs : List Value} (hF : Fr X w0 w (e0 :: e1 :: e2 :: e3 :: .rd A size n xs :: es)) : Rd w (· < w.heap.size) A size n xs := hF.rd (i := 4) rfl
theorem Fr.bytes4 {b : Nat} {e : TypeId} {v : Value} {l : List UInt8} (hF : Fr X w0 w (e0 :: e1 :: e2 :: e3 :: .bytes b e v l :: es)) : OwnB w b e v l := hF.own (i := 4) rfl
/-- A callee has changed the block. -/
theorem Fr.put4 {w' : World} (hF : Fr X w0 w (e0 :: e1 :: e2 :: e3 :: .blk g t cs :: es)) {cs' : List Value} (hg : w.grownBy w' (some g)) (hb : w'.heap[g]? = some (.cells cs'.toArray t (0, 0))) : Fr X w0 w' (e0 :: e1 :: e2 :: e3 :: .blk g t cs' :: es) := hF.put (i := 4) (e' := .blk g t cs') rfl hg hb (.inl rfl)
/-- A callee has changed the block, and hands back bytes of its own. -/
theorem Fr.putGot4 {w' : World} (hF : Fr X w0 w (e0 :: e1 :: e2 :: e3 :: .blk g t cs :: es)) {cs' : List Value} (hg : w.grownBy w' (some g)) (hb : w'.heap[g]? = some (.cells cs'.toArray t (0, 0))) {e : TypeId} {v : Value} {l : List UInt8} (ho : OwnB w' w.heap.size e v l) : Fr X w0 w' (Ent.bytes w0.heap.size e v l :: (e0 :: e1 :: e2 :: e3 :: .blk g t cs' :: es)) := put_got hF (i := 4) rfl hg hb ho
/-- A callee has appended to the bytes. -/
theorem Fr.putB4 {w' : World} {b : Nat} {e : TypeId} {v v' : Value} {l l' : List UInt8} (hF : Fr X w0 w (e0 :: e1 :: e2 :: e3 :: .bytes b e v l :: es)) (hg : w.grownBy w' v.ownBlock) (hb : OwnB w' b e v' l') (hv : ∀ k, v'.ownBlock = some k → w.heap.size ≤ k ∨ v.ownBlock = some k) : Fr X w0 w' (e0 :: e1 :: e2 :: e3 :: Ent.bytes b e v' l' :: es) := hF.put (i := 4) (e' := Ent.bytes b e v' l') rfl hg hb.own (own_or hv)
theorem results_cellF_4 {fn : Func} {p : Tmp} {ty : TypeId} (hF : Fr X w0 w (e0 :: e1 :: e2 :: e3 :: .blk g t cs :: es)) (h : fn.results = #[.cell p ty]) (tmps : Array Value) (hp : tmps.getD p undef = .pointer (some ⟨g, 0, none⟩)) {d : TypeDesc} (hu : P.underlying ty = some d) (hd : aggT d = true) (hs : (P.info? ty).map (·.size) = some cs.length) : (results fn tmps).run P w = .ok (.agg cs.toArray) w :=
  results_cellF h tmps hF (i := 4) rfl hp hu hd hs
theorem results_cellF2_4 {fn : Func} {p q : Tmp} {ty : TypeId} (hF : Fr X w0 w (e0 :: e1 :: e2 :: e3 :: .blk g t cs :: es)) (h : fn.results = #[.cell p ty, .tmp q]) (tmps : Array Value) (hp : tmps.getD p undef = .pointer (some ⟨g, 0, none⟩)) {d : TypeDesc} (hu : P.underlying ty = some d) (hd : aggT d = true) (hs : (P.info? ty).map (·.size) = some cs.length) : (results fn tmps).run P w = .ok (.tuple #[.agg cs.toArray, tmps.getD q undef]) w :=
  results_cellF2 h tmps hF (i := 4) rfl hp hu hd hs
theorem wp_fld5 (hF : Fr X w0 w (e0 :: e1 :: e2 :: e3 :: e4 :: .blk g t cs :: es)) {e : TypeId} {d : TypeDesc} (hu : P.underlying e = some d) (hd : aggT d = false) {off : Nat} (ho : IsLd o a e ⟨g, off, none⟩) {u : Value} (hc : cs[off]? = some u) (k : K (a.put o.dst u) w) : o.wp P a w K Q :=
  wp_fld hF (i := 5) rfl hu hd ho hc k
theorem wp_fldA5 (hF : Fr X w0 w (e0 :: e1 :: e2 :: e3 :: e4 :: .blk g t cs :: es)) {e : TypeId} {d : TypeDesc} (hu : P.underlying e = some d) (hd : aggT d = true) {off : Nat} (ho : IsLd o a e ⟨g, off, none⟩) {ds : List Value} (hs : (P.info? e).map (·.size) = some ds.length) (hc : (cs.drop off).take ds.length = ds) (k : K (a.put o.dst (.agg ds.toArray)) w) : o.wp P a w K Q :=
  wp_fldA hF (i := 5) rfl hu hd ho hs hc k
theorem wp_fst5 (hF : Fr X w0 w (e0 :: e1 :: e2 :: e3 :: e4 :: .blk g t cs :: es)) {e : TypeId} {off : Nat} {v : Value} (ho : IsSt o a e ⟨g, off, none⟩ v) (hs : (P.info? e).map (·.size) = some 1) (hv : v.cells = #[v]) (h1 : v.oneCell' = true) (hl : off < cs.length) {cs' : List Value} (hcs : spl cs off [v] = cs')
    (k : ∀ w', Fr X w0 w' (e0 :: e1 :: e2 :: e3 :: e4 :: .blk g t cs' :: es) → w'.heap.size = w.heap.size → K (a.put o.dst undef) w') : o.wp P a w K Q := by
  subst hcs; exact wp_fst hF (i := 5) rfl ho hs hv h1 hl k
theorem wp_fstA5 (hF : Fr X w0 w (e0 :: e1 :: e2 :: e3 :: e4 :: .blk g t cs :: es)) {e : TypeId} {off : Nat} {ds : List Value} (ho : IsSt o a e ⟨g, off, none⟩ (.agg ds.toArray)) (hs : (P.info? e).map (·.size) = some ds.length) (h1 : ∀ u ∈ ds, u.oneCell' = true) (hl : off + ds.length ≤ cs.length) {cs' : List Value} (hcs : spl cs off ds = cs')
    (k : ∀ w', Fr X w0 w' (e0 :: e1 :: e2 :: e3 :: e4 :: .blk g t cs' :: es) → w'.heap.size = w.heap.size → K (a.put o.dst undef) w') : o.wp P a w K Q := by
  subst hcs; exact wp_fstA hF (i := 5) rfl ho hs h1 hl k
theorem wp_fapp5 {sl e : TypeId} (T : SlT P sl e 1 1 (.int .u8 0)) {b : Nat} {v : Value} {l : List UInt8} (hF : Fr X w0 w (e0 :: e1 :: e2 :: e3 :: e4 :: .bytes b e v l :: es)) (hb : b ≤ w0.heap.size) {S : Nat → Prop} {A : Option Addr} {m c : Nat} {l' : List UInt8} (hr : Rd w S A 1 m (l'.map bv))
    (ho : IsApp o a sl v (.slice A m c)) (hroom : l.length + m ≤ 140737488355328)
    (k : ∀ v' w', Fr X w0 w' (e0 :: e1 :: e2 :: e3 :: e4 :: Ent.bytes b e v' (l ++ l') :: es) → w.heap.size ≤ w'.heap.size → K (a.put o.dst v') w') : o.wp P a w K Q :=
  wp_fapp T hF (i := 5) rfl hb hr ho hroom k
theorem wp_fcopy5 {dT sT el : TypeId} (hu : P.underlying dT = some (.slice el)) (hs : (P.info? el).map (·.size) = some 1) (hF : Fr X w0 w (e0 :: e1 :: e2 :: e3 :: e4 :: .blk g t cs :: es)) {S : Nat → Prop} {A : Option Addr} {off n m c dc : Nat} {xs : List Value} (hr : Rd w S A 1 m xs) (h1 : ∀ u ∈ xs, u.oneCell' = true)
    {d s : Operand} (ho : o.op = .call { callee := .builtin .copy, args := #[d, s], argTypes := #[dT, sT] }) (hd : a.eval d = .slice (some ⟨g, off, none⟩) n dc) (hsrc : a.eval s = .slice A m c) (hl : off + n ≤ cs.length) {cs' : List Value} (hcs : spl cs off (xs.take n) = cs')
    (k : ∀ w', Fr X w0 w' (e0 :: e1 :: e2 :: e3 :: e4 :: .blk g t cs' :: es) → w'.heap.size = w.heap.size → K (a.put o.dst (goInt (Nat.min m n))) w') : o.wp P a w K Q := by
  subst hcs; exact wp_fcopy hu hs hF (i := 5) rfl hr h1 ho hd hsrc hl k
theorem Fr.cell5 (hF : Fr X w0 w (e0 :: e1 :: e2 :: e3 :: e4 :: .blk g t cs :: es)) {off : Nat} {u : Value} (hc : cs[off]? = some u) : w.cell? ⟨g, off, none⟩ = some u := by
  rw [cell_of_row w g off _ t (0, 0) (hF.blk (i := 5) rfl)]; simpa using hc
theorem Fr.heap5 (hF : Fr X w0 w (e0 :: e1 :: e2 :: e3 :: e4 :: .blk g t cs :: es)) : w.heap[g]? = some (.cells cs.toArray t (0, 0)) := hF.blk (i := 5) rfl
theorem Fr.rdBlk5 (hF : Fr X w0 w (e0 :: e1 :: e2 :: e3 :: e4 :: .blk g t cs :: es)) {off n : Nat} {xs : List Value} (hx : xs.length = n) (hc : (cs.drop off).take n = xs) : Rd w (· < w.heap.size) (some ⟨g, off, none⟩) 1 n xs := hF.rdBlk (i := 5) rfl hx hc
theorem Fr.rdOwn5 {b : Nat} {e : TypeId} {size n m c : Nat} {A : Option Addr} {xs : List Value} (hF : Fr X w0 w (e0 :: e1 :: e2 :: e3 :: e4 :: .own b e size (.slice A n c) m xs :: es)) : Rd w (· < w.heap.size) A size n xs := hF.rdOwn (i := 5) rfl
theorem Fr.rd5 {size n : Nat} {A : Option Addr} {xs : List Value} (hF : Fr X w0 w (e0 :: e1 :: e2 :: e3 :: e4 :: .rd A size n xs :: es)) : Rd w (· < w.heap.size) A size n xs := hF.rd (i := 5) rfl
theorem Fr.bytes5 {b : Nat} {e : TypeId} {v : Value} {l : List UInt8} (hF : Fr X w0 w (e0 :: e1 :: e2 :: e3 :: e4 :: .bytes b e v l :: es)) : OwnB w b e v l := hF.own (i := 5) rfl
/-- A callee has changed the block. -/
theorem Fr.put5 {w' : World} (hF : Fr X w0 w (e0 :: e1 :: e2 :: e3 :: e4 :: .blk g t cs :: es)) {cs' : List Value} (hg : w.grownBy w' (some g)) (hb : w'.heap[g]? = some (.cells cs'.toArray t (0, 0))) : Fr X w0 w' (e0 :: e1 :: e2 :: e3 :: e4 :: .blk g t cs' :: es) := hF.put (i := 5) (e' := .blk g t cs') rfl hg hb (.inl rfl)
/-- A callee has changed the block, and hands back bytes of its own. -/
theorem Fr.putGot5 {w' : World} (hF : Fr X w0 w (e0 :: e1 :: e2 :: e3 :: e4 :: .blk g t cs :: es)) {cs' : List Value} (hg : w.grownBy w' (some g)) (hb : w'.heap[g]? = some (.cells cs'.toArray t (0, 0))) {e : TypeId} {v : Value} {l : List UInt8} (ho : OwnB w' w.heap.size e v l) : Fr X w0 w' (Ent.bytes w0.heap.size e v l :: (e0 :: e1 :: e2 :: e3 :: e4 :: .blk g t cs' :: es)) := put_got hF (i := 5) rfl hg hb ho
/-- A callee has appended to the bytes. -/
theorem Fr.putB5 {w' : World} {b : Nat} {e : TypeId} {v v' : Value} {l l' : List UInt8} (hF : Fr X w0 w (e0 :: e1 :: e2 :: e3 :: e4 :: .bytes b e v l :: es)) (hg : w.grownBy w' v.ownBlock) (hb : OwnB w' b e v' l') (hv : ∀ k, v'.ownBlock = some k → w.heap.size ≤ k ∨ v.ownBlock = some k) : Fr X w0 w' (e0 :: e1 :: e2 :: e3 :: e4 :: Ent.bytes b e v' l' :: es) := hF.put (i := 5) (e' := Ent.bytes b e v' l') rfl hg hb.own (own_or hv)
theorem results_cellF_5 {fn : Func} {p : Tmp} {ty : TypeId} (hF : Fr X w0 w (e0 :: e1 :: e2 :: e3 :: e4 :: .blk g t cs :: es)) (h : fn.results = #[.cell p ty]) (tmps : Array Value) (hp : tmps.getD p undef = .pointer (some ⟨g, 0, none⟩)) {d : TypeDesc} (hu : P.underlying ty = some d) (hd : aggT d = true) (hs : (P.info? ty).map (·.size) = some cs.length) : (results fn tmps).run P w = .ok (.agg cs.toArray) w :=
  results_cellF h tmps hF (i := 5) rfl hp hu hd hs
theorem results_cellF2_5 {fn : Func} {p q : Tmp} {ty : TypeId} (hF : Fr X w0 w (e0 :: e1 :: e2 :: e3 :: e4 :: .blk g t cs :: es)) (h : fn.results = #[.cell p ty, .tmp q]) (tmps : Array Value) (hp : tmps.getD p undef = .pointer (some ⟨g, 0, none⟩)) {d : TypeDesc} (hu : P.underlying ty = some d) (hd : aggT d = true) (hs : (P.info? ty).map (·.size) = some cs.length) : (results fn tmps).run P w = .ok (.tuple #[.agg cs.toArray, tmps.getD q undef]) w :=
  results_cellF2 h tmps hF (i := 5) rfl hp hu hd hs
end laws
end Go.Proofs.YtdekogmegdhjoaaDoor

namespace Go.Proofs.YtdekogmegdhjoaaDoor
open Go.RowKit

section
variable {X : List Nat} {w0 w : World} {es : List Ent}
/-- Some of the entries. -/
theorem Fr.pick1 (h : Fr X w0 w es) {i : Nat} {e : Ent} (hi : es[i]? = some e) : Fr X w0 w [e] :=
  ⟨h.os, h.tape, h.output, h.size, h.block, fun j f hj => by match j, hj with | 0, hj => injection hj with hj; subst hj; exact h.holds i _ hi,
    fun j f hj => by match j, hj with | 0, hj => injection hj with hj; subst hj; exact h.fresh i _ hi,
    fun j k f f' hj hk hjk => by match j, k, hj, hk with | 0, 0, _, _ => exact absurd rfl hjk⟩
theorem Fr.pick2 (h : Fr X w0 w es) {i j : Nat} {e f : Ent} (hi : es[i]? = some e) (hj : es[j]? = some f) (hij : i ≠ j) : Fr X w0 w [e, f] :=
  (h.pick1 hj).push (h.holds i e hi) fun b hb => ⟨h.fresh i e hi b hb, fun k f' hk he => by
    match k, hk with
    | 0, hk =>
      injection hk with hk; subst hk
      rcases h.apart i j e f hi hj hij with h1 | h1
      · rw [h1] at hb; cases hb
      · exact h1 (hb.trans he.symm)⟩
theorem Fr.pick3 (h : Fr X w0 w es) {i j k : Nat} {e f f' : Ent} (hi : es[i]? = some e) (hj : es[j]? = some f) (hk : es[k]? = some f') (hij : i ≠ j) (hik : i ≠ k) (hjk : j ≠ k) : Fr X w0 w [e, f, f'] :=
  (h.pick2 hj hk hjk).push (h.holds i e hi) fun b hb => ⟨h.fresh i e hi b hb, fun q f'' hq he => by
    match q, hq with
    | 0, hq =>
      injection hq with hq; subst hq
      rcases h.apart i j e f hi hj hij with h1 | h1
      · rw [h1] at hb; cases hb
      · exact h1 (hb.trans he.symm)
    | 1, hq =>
      injection hq with hq; subst hq
      rcases h.apart i k e f' hi hk hik with h1 | h1
      · rw [h1] at hb; cases hb
      · exact h1 (hb.trans he.symm)⟩
/-- What an entry reads, apart from the bytes that another owns. -/
theorem Fr.rdNe (h : Fr X w0 w es) {i j b b' : Nat} {e e' : TypeId} {size n m c : Nat} {A : Option Addr} {xs : List Value} {v : Value} {l : List UInt8} (hi : es[i]? = some (.own b e size (.slice A n c) m xs)) (hj : es[j]? = some (.bytes b' e' v l)) (hij : i ≠ j) :
    Rd w (fun k => k < w.heap.size ∧ k ∉ Xof v) A size n xs := by
  have hr := h.rdOwn hi
  refine ⟨hr.len, hr.some_, fun hn => ⟨hr.inS hn, fun hm => ?_⟩, hr.cell⟩
  have hA := hr.some_ hn
  have hv := Xof_mem.1 hm
  rcases h.apart i j _ _ hi hj hij with h1 | h1
  · have h1 : (Value.slice A n c).ownBlock = none := h1
    rw [hA] at h1; cases h1
  · have h1 : (Value.slice A n c).ownBlock ≠ v.ownBlock := h1
    rw [hv, hA] at h1
    exact h1 rfl
end

section
variable {P : Program} {o : Oper} {a : Act} {w : World} {K : Act → World → Prop} {Q : Exit → Act → World → Prop}
/-- A call, met by its contract. -/
theorem wp_call {f : FuncId} {fn : Func} {args : Array Operand} {ts : Array TypeId} {vs : Array Value} (hf : P.funcs[f]? = some fn) (hb : fn.body.isNone = false) (hn : (fn.name == "runtime.NumGoroutine") = false)
    (ho : o.op = .call { callee := .value (.func f), args := args, argTypes := ts }) (hv : args.map a.eval = vs) {R : Ending → World → Prop} (hc : Calls P f vs w R) (k : ∀ e w', R e w' → ∃ v, e = .returned v ∧ K (a.put o.dst v) w') : o.wp P a w K Q := by
  have hrun : (execOp a.eval o).run P w = .ok (.enter f vs) w := by
    unfold execOp
    have hn' : ¬ fn.name = "runtime.NumGoroutine" := by simpa using hn
    have hb' : ¬ fn.body = none := by
      intro h
      rw [h] at hb
      cases hb
    simp only [ho, resolve, Act.eval, Deferred.ofValue, invoke, callFunc, Sem.run_bind, Sem.run_pure, Result.andThen_ok, run_program, hf, ← hv]
    simp [hn', hb']
  unfold Oper.wp
  rw [hrun, Oper.upon_enter]
  refine hc.mono fun e w' hR => ?_
  obtain ⟨v, rfl, hK⟩ := k e w' hR
  exact hK
/-- Two arrays of bytes compared. -/
theorem wp_eqB {t e : TypeId} {n : Nat} (ht : P.underlying t = some (.array n e)) (he : P.underlying e = some (.int .u8)) (hs : (P.info? e).map (·.size) = some 1) (hg : P.eqGuardType P.depth t = false) {l m : List UInt8} (hl : l.length = n) (hm : m.length = n)
    {x y : Operand} {ty : TypeId} (ho : o.op = .binOp .eql t x y ty) (hx : a.eval x = .agg (l.map bv).toArray) (hy : a.eval y = .agg (m.map bv).toArray) (k : K (a.put o.dst (.bool (l == m))) w) : o.wp P a w K Q := by
  refine wp_run (v := .bool (l == m)) (w' := w) ?_ k
  have h1 := run_eqGuard_agg (P := P) w .eql t x y (l.map bv).toArray (m.map bv).toArray hg
  have h2 := run_eql_struct (P := P) w t (l.map bv).toArray (m.map bv).toArray
  have h3 := run_eqBytes (P := P) ht he hs l m hl hm 9998 w
  unfold execOp
  simp only [ho, hx, hy, Sem.run_bind, h1, h2, h3, Result.andThen_ok, Sem.run_pure]
theorem wp_neB {t e : TypeId} {n : Nat} (ht : P.underlying t = some (.array n e)) (he : P.underlying e = some (.int .u8)) (hs : (P.info? e).map (·.size) = some 1) (hg : P.eqGuardType P.depth t = false) {l m : List UInt8} (hl : l.length = n) (hm : m.length = n)
    {x y : Operand} {ty : TypeId} (ho : o.op = .binOp .neq t x y ty) (hx : a.eval x = .agg (l.map bv).toArray) (hy : a.eval y = .agg (m.map bv).toArray) (k : K (a.put o.dst (.bool (!(l == m)))) w) : o.wp P a w K Q := by
  refine wp_run (v := .bool (!(l == m))) (w' := w) ?_ k
  have h1 := run_eqGuard_agg (P := P) w .neq t x y (l.map bv).toArray (m.map bv).toArray hg
  have h2 := run_neq_struct (P := P) w t (l.map bv).toArray (m.map bv).toArray
  have h3 := run_eqBytes (P := P) ht he hs l m hl hm 9998 w
  unfold execOp
  simp only [ho, hx, hy, Sem.run_bind, h1, h2, h3, Result.andThen_ok, Sem.run_pure]
end
end Go.Proofs.YtdekogmegdhjoaaDoor

namespace Go.Proofs.YtdekogmegdhjoaaDoor
open Go.RowKit

section laws
variable {P : Program} {o : Oper} {a : Act} {X : List Nat} {w0 w : World} {es : List Ent} {K : Act → World → Prop} {Q : Exit → Act → World → Prop}
/-- Elements appended to a slice that the call owns. -/
theorem wp_fappG {sl e : TypeId} {size bytes : Nat} {z : Value} (T : SlT P sl e size bytes z) (hF : Fr X w0 w es) {i b : Nat} {v : Value} {n : Nat} {xs : List Value} (hi : es[i]? = some (.own b e size v n xs)) (hb : b ≤ w0.heap.size) {S : Nat → Prop} {A : Option Addr} {m c : Nat} {news : List Value} (hr : Rd w S A size m news) (h1 : ∀ u ∈ news, u.oneCell' = true)
    (ho : IsApp o a sl v (.slice A m c)) (h63 : n + m ≤ maxLen) (hbytes : (n + m) * bytes ≤ 140737488355328)
    (k : ∀ v' w', Fr X w0 w' (es.set i (.own b e size v' (n + m) (xs ++ news))) → w.heap.size ≤ w'.heap.size → K (a.put o.dst v') w') : o.wp P a w K Q := by
  have hown : w.ownsRow b e size v n xs := hF.holds i _ hi
  have hbw : b ≤ w.heap.size := Nat.le_trans hb hF.size
  refine wp_app T hown hr ho h1 h63 hbytes hbw fun v' w' h2 h3 h4 => k v' w' (hF.put hi h3 h2 (h4.imp id fun h b hb => ?_)) h3.size
  have hb : v'.ownBlock = some b := hb
  rw [h] at hb; injection hb with hb; omega
/-- An element of several cells is read. -/
theorem wp_loadA {S : Nat → Prop} {A : Option Addr} {n size : Nat} {xs : List Value} (hr : Rd w S A size n xs) {e : TypeId} {j : Nat} {d : TypeDesc} (hu : P.underlying e = some d) (hd : aggT d = true) (ho : IsLd o a e (atp A j)) {ds : List Value} (hs : (P.info? e).map (·.size) = some ds.length)
    (hc : (xs.drop j).take ds.length = ds) (k : K (a.put o.dst (.agg ds.toArray)) w) : o.wp P a w K Q := by
  obtain ⟨x, ho, hx⟩ := ho
  have hagg := run_isAgg hu w
  rw [hd] at hagg
  obtain ⟨i, hi, hsz⟩ := Option.map_eq_some_iff.1 hs
  have hl : (loadCells (atp A j) ds.length).run P w = .ok ds.toArray w := run_loadCells_list (P := P) w (atp A j) ds (fun q v hv => by
    unfold atp
    rw [add_add]
    refine hr.cell (j + q) v ?_
    rw [← hc, List.getElem?_take] at hv
    split at hv
    · rw [List.getElem?_drop] at hv; exact hv
    · cases hv)
  refine wp_run (v := .agg ds.toArray) (w' := w) ?_ k
  unfold execOp
  simp [ho, hx, Instr.loadAt, Instr.sureAddr, loadVar, hagg, sizeOf, typeInfo, hi, hsz, hl]
/-- A slice literal of one element of several cells. -/
theorem wp_fbs1 {sl e : TypeId} {size bytes : Nat} {z : Value} (T : SlT P sl e size bytes z) (hF : Fr X w0 w es) {x : Operand} (ho : o.op = .buildSlice sl 1 #[(0, x)]) {ds : List Value} (hx : (a.eval x).cells = ds.toArray) (hds : ds.length = size) (h16 : size ≤ 16777216)
    (k : ∀ w' g, Fr X w0 w' (.own w0.heap.size e size (.slice (some ⟨g, 0, none⟩) 1 1) 1 ds :: es) → w'.heap.size = w.heap.size + 1 → K (a.put o.dst (.slice (some ⟨g, 0, none⟩) 1 1)) w') : o.wp P a w K Q := by
  obtain ⟨i, hi, hz, hs, hby⟩ := info_parts T.info
  have hzc : (zeroValue e).run P w = .ok z w := by simp [zeroValue, typeInfo, hi, hz]
  have hsz : (sizeOf e).run P w = .ok size w := by simp [sizeOf, typeInfo, hi, hs]
  have hown : (w.alloc (.cells ds.toArray e)).ownsRow w0.heap.size e size (.slice (some ⟨w.heap.size, 0, none⟩) 1 1) 1 ds := by
    have := World.ownsRow_lit (e := e) (size := size) (base := w0.heap.size) w ds.toArray 1 hF.size (by unfold maxLen; omega) (by simp [hds])
    simpa using this
  have hF' := hF.more (World.grownBy_alloc w (.cells ds.toArray e) none) (e := .own w0.heap.size e size (.slice (some ⟨w.heap.size, 0, none⟩) 1 1) 1 ds) hown (fun b hb => by
    have hb : some w.heap.size = some b := hb
    injection hb with hb; omega)
  refine wp_run (v := .slice (some ⟨w.heap.size, 0, none⟩) 1 1) (w' := w.alloc (.cells ds.toArray e)) ?_ (k _ _ hF' (by simp))
  have hpos := T.pos
  have hcell := T.zs
  have hmap : ((Array.range (1 * size)).map (fun q => z.cells[q % z.cells.size]!)).toList.length = size := by simp
  have hf := fill_step (place := fun i => some (i * size, size)) (cells := ((Array.range (1 * size)).map (fun q => z.cells[q % z.cells.size]!)).toList) (i := 0) (off := 0 * size) (size := size) (v := a.eval x) (rest := []) rfl (by rw [hx]; simpa using hds) (by rw [hmap]; omega)
  rw [hx] at hf
  have hspl : spl ((Array.range (1 * size)).map (fun q => z.cells[q % z.cells.size]!)).toList (0 * size) ds.toArray.toList = ds := by
    rw [Nat.zero_mul]; exact spl_all (by rw [hmap]; simpa using hds)
  rw [hspl, Array.toArray_toList] at hf
  have hle' : (1 * size > 2 ^ 24) = False := eq_false (by omega)
  have h0' : (1 * size = 0) = False := eq_false (by omega)
  have hp : (#[(0, x)] : Array (Nat × Operand)).map (fun p => (p.1, a.eval p.2)) = #[(0, a.eval x)] := by simp
  unfold execOp
  simp only [ho, Instr.buildSlice, Sem.run_bind, run_underlying T.und, hsz, Result.andThen_ok, hp, hle', h0', if_false, hzc, Sem.run_pure]
  rw [hf]
  simp [Instr.fill, newRow]
end laws
end Go.Proofs.YtdekogmegdhjoaaDoor

namespace Go.Proofs.YtdekogmegdhjoaaDoor
open Go.RowKit

section
variable {X : List Nat} {w0 w w' : World} {es es' : List Ent}
theorem app_at {α : Type} {l l' : List α} {i : Nat} {x : α} (h : (l ++ l')[i]? = some x) : (l[i]? = some x ∧ i < l.length) ∨ (l'[i - l.length]? = some x ∧ l.length ≤ i) := by
  rcases Nat.lt_or_ge i l.length with h1 | h1
  · rw [List.getElem?_append_left h1] at h; exact .inl ⟨h, h1⟩
  · rw [List.getElem?_append_right h1] at h; exact .inr ⟨h, h1⟩
theorem Fr.join (h : Fr X w0 w es) (h' : Fr [] w w' es') : Fr X w0 w' (es' ++ es) := by
  have hg := h.grow (grown_of_below h'.below)
  have old : ∀ {i : Nat} {e : Ent}, es'[i]? = some e → ∀ b, e.block = some b → w.heap.size ≤ b := fun {i e} hi b hb => by simpa using h'.fresh i e hi b hb
  have part : ∀ {i j : Nat} {e f : Ent}, es'[i]? = some e → es[j]? = some f → e.apart f := fun {i j e f} hi hj => by
    unfold Ent.apart
    cases hb : e.block with
    | none => exact .inl rfl
    | some b => exact .inr fun he => h.old hj (old hi b hb) he.symm
  refine ⟨hg.os, hg.tape, hg.output, hg.size, hg.block, fun i e hi => ?_, fun i e hi b hb => ?_, fun i j e f hi hj hij => ?_⟩
  · rcases app_at hi with ⟨h1, _⟩ | ⟨h1, _⟩
    · exact h'.holds i e h1
    · exact hg.holds _ e h1
  · rcases app_at hi with ⟨h1, _⟩ | ⟨h1, _⟩
    · exact .inl (Nat.le_trans h.size (old h1 b hb))
    · exact h.fresh _ e h1 b hb
  · rcases app_at hi with ⟨h1, i1⟩ | ⟨h1, i1⟩
    · rcases app_at hj with ⟨h2, j1⟩ | ⟨h2, j1⟩
      · exact h'.apart i j e f h1 h2 hij
      · exact part h1 h2
    · rcases app_at hj with ⟨h2, j1⟩ | ⟨h2, j1⟩
      · exact (part h2 h1).symm
      · exact h.apart _ _ e f h1 h2 (by omega)
/-- Some of the entries, by their places. -/
theorem Fr.picks (h : Fr X w0 w es) (is : List Nat) {fs : List Ent} (hx : is.map (fun i => es[i]?) = fs.map some) (nd : is.Nodup) : Fr X w0 w fs := by
  have key : ∀ (j : Nat) (f : Ent), fs[j]? = some f → ∃ i, is[j]? = some i ∧ es[i]? = some f := fun j f hj => by
    have h1 : (is.map (fun i => es[i]?))[j]? = some (some f) := by rw [hx, List.getElem?_map, hj]; rfl
    rw [List.getElem?_map] at h1
    cases hi : is[j]? with
    | none => rw [hi] at h1; cases h1
    | some i => rw [hi] at h1; exact ⟨i, rfl, by simpa using h1⟩
  refine ⟨h.os, h.tape, h.output, h.size, h.block, fun j f hj => ?_, fun j f hj b hb => ?_, fun j k f f' hj hk hjk => ?_⟩
  · obtain ⟨i, _, hi⟩ := key j f hj; exact h.holds i f hi
  · obtain ⟨i, _, hi⟩ := key j f hj; exact h.fresh i f hi b hb
  · obtain ⟨i, h1, hi⟩ := key j f hj
    obtain ⟨i', h2, hi'⟩ := key k f' hk
    refine h.apart i i' f f' hi hi' fun he => hjk ?_
    subst he
    obtain ⟨l1, e1⟩ := List.getElem?_eq_some_iff.1 h1
    obtain ⟨l2, e2⟩ := List.getElem?_eq_some_iff.1 h2
    have hp := List.pairwise_iff_getElem.1 nd
    rcases Nat.lt_trichotomy j k with h3 | h3 | h3
    · exact absurd (e1.trans e2.symm) (hp j k l1 l2 h3)
    · exact h3
    · exact absurd (e2.trans e1.symm) (hp k j l2 l1 h3)
/-- A slice that is none owns nothing. -/
theorem Fr.none_ (h : Fr X w0 w es) (b : Nat) (e : TypeId) (size : Nat) : Fr X w0 w (.own b e size (.slice none 0 0) 0 [] :: es) :=
  h.push (e := .own b e size (.slice none 0 0) 0 []) (World.ownsRow_nil _ _ _ _) fun b hb => by cases hb
theorem own_parts {b : Nat} {e : TypeId} {size n : Nat} {v : Value} {xs : List Value} (h : w.ownsRow b e size v n xs) : ∃ A c, v = .slice A n c ∧ n ≤ c := by
  rcases h.2 with ⟨h1, h2⟩ | ⟨g, cap, cur, h1, _, _, h2, _⟩
  · subst h2; exact ⟨none, 0, h1, Nat.le_refl _⟩
  · exact ⟨_, _, h1, h2⟩
theorem Fr.ownParts (h : Fr X w0 w es) {i b : Nat} {e : TypeId} {size n : Nat} {v : Value} {xs : List Value} (hi : es[i]? = some (.own b e size v n xs)) : ∃ A c, v = .slice A n c ∧ n ≤ c := own_parts (w := w) (h.holds i _ hi)
end
end Go.Proofs.YtdekogmegdhjoaaDoor
