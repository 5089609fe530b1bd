/-
  From what the form reads of structs that came in to the words of the walks: parts of the cells, one by one. No program is named here.
  A slice of any elements that came in. No program is named here.
  Layer 19: a reply that came in. No program is named here.
  Layer 19: a request that came in. No program is named here.
-/
import Derived.Test.YtcnjnkkdidpjiaaJ02
import Derived.Test.YtcnjnkkdidpjiaaJ30
import Derived.Test.YtcnjnkkdidpjiaaJ07
import Derived.Test.YtcnjnkkdidpjiaaJ06
namespace Go.Proofs.Ytcnjnkkdidpjiaa
open Go.ChangeShapes Go.WideShapes Go.ChangeAt Go.RowKit

section
variable {H : Type} {enc : TypeId × Value → H} {P : Program} {W : World} {hd : Bool} {fuel : Nat}

theorem bulk_mem {l : List (DataW H)} {d : DataW H} (h : d ∈ l) : Rows.uptoBulk d ≤ Rows.uptoBulkAll l := by
  induction l with
  | nil => cases h
  | cons a l ih =>
    simp only [Rows.uptoBulkAll]
    rcases List.mem_cons.1 h with rfl | h
    · omega
    · have := ih h; omega
/-- A field of a struct that came in: its cells, and how they are read. -/
theorem field_in {t : TypeId} {fs : Array Field} (ht : P.underlying t = some (.struct fs)) {cs : List Value} {x : DataW H × List MemPlace} (h : DataW.trod enc P W 0 (fun _ => true) hd fuel t cs = some x)
    {i : Nat} {f : Field} (hf : fs[i]? = some f) : ∃ n y, DataW.trod enc P W 0 (fun _ => true) hd n f.type ((cs.drop f.offset).take (P.cellsOf f.type)) = some y ∧ Rows.uptoBulk y.1 + 1 ≤ Rows.uptoBulk x.1 := by
  obtain ⟨xs, n, _, hx, _, hlen, hg⟩ := DataW.trod_struct ht h
  have hi : i < fs.size := (Array.getElem?_eq_some_iff.1 hf).1
  have hy : xs[i]? = some (xs[i]'(by omega)) := List.getElem?_eq_getElem (by omega)
  refine ⟨n, _, (hg i f hf).trans hy, ?_⟩
  rw [hx]
  have := bulk_mem (d := (xs[i]'(by omega)).1) (l := xs.map (·.1)) (List.mem_map_of_mem (List.getElem_mem _))
  simp only [Rows.uptoBulk]; omega
theorem ints_in {t : TypeId} {k : IntKind} (ht : P.underlying t = some (.int k)) {cs : List Value} {x : DataW H × List MemPlace} (h : DataW.trod enc P W 0 (fun _ => true) hd fuel t cs = some x) : ∃ n, cs = [.int k n] ∧ (Lit.int k n).wf = true := by
  obtain ⟨n, h1, _, h2⟩ := DataW.trod_int ht h
  exact ⟨n, h1, h2⟩
theorem strs_in {t : TypeId} (ht : P.underlying t = some .string) {cs : List Value} {x : DataW H × List MemPlace} (h : DataW.trod enc P W 0 (fun _ => true) hd fuel t cs = some x) : ∃ s : ByteArray, cs = [.string s] ∧ s.size + 1 ≤ Rows.uptoBulk x.1 := by
  obtain ⟨s, h1, h2, _⟩ := DataW.trod_string ht h
  exact ⟨s, h1, by rw [h2]; simp [Rows.uptoBulk]⟩
theorem bools_in {t : TypeId} (ht : P.underlying t = some .bool) {cs : List Value} {x : DataW H × List MemPlace} (h : DataW.trod enc P W 0 (fun _ => true) hd fuel t cs = some x) : ∃ b : Bool, cs = [.bool b] := by
  cases fuel with
  | zero => simp [DataW.trod] at h
  | succ n =>
    unfold DataW.trod at h
    rw [ht] at h
    split at h <;> simp_all
theorem bytes_of_cells : ∀ (cs : List Value), (∀ i, i < cs.length → ∃ c : UInt8, cs[i]? = some (bv c)) → ∃ d : List UInt8, cs = d.map bv
  | [], _ => ⟨[], rfl⟩
  | c :: cs, h => by
    obtain ⟨a, ha⟩ := h 0 (by simp)
    obtain ⟨d, hd⟩ := bytes_of_cells cs (fun i hi => by
      have := h (i + 1) (by simp; omega)
      simpa using this)
    simp only [List.getElem?_cons_zero, Option.some.injEq] at ha
    exact ⟨a :: d, by rw [ha, hd]; rfl⟩
/-- An array of bytes that came in. -/
theorem arr_in {t e : TypeId} {n : Nat} (ht : P.underlying t = some (.array n e)) (he : P.underlying e = some (.int .u8)) (hc : P.cellsOf e = 1) (hcs : P.cellsOf t = n) {cs : List Value} {x : DataW H × List MemPlace} (h : DataW.trod enc P W 0 (fun _ => true) hd fuel t cs = some x) :
    ∃ d : List UInt8, cs = d.map bv ∧ d.length = n := by
  obtain ⟨xs, m, _, _, hlen, hxl, hg⟩ := DataW.trod_array ht h
  rw [hcs] at hlen
  have key : ∀ i, i < n → ∃ c : UInt8, cs[i]? = some (bv c) := fun i hi => by
    have h1 := hg i hi
    rw [hc, Nat.mul_one, List.getElem?_eq_getElem (by omega)] at h1
    obtain ⟨k, h2, h3⟩ := ints_in he h1
    obtain ⟨c, rfl⟩ := u8_of_wf h3
    refine ⟨c, ?_⟩
    have h4 : ((cs.drop i).take 1)[0]? = some (bv c) := by rw [h2]; rfl
    rw [List.getElem?_take, if_pos (by omega), List.getElem?_drop] at h4
    simpa using h4
  obtain ⟨d, hd⟩ := bytes_of_cells cs (fun i hi => key i (by omega))
  exact ⟨d, hd, by rw [hd, List.length_map] at hlen; exact hlen⟩
/-- A slice of bytes that came in, as a cell. -/
theorem sl_in {t e : TypeId} (ht : P.underlying t = some (.slice e)) (he : P.underlying e = some (.int .u8)) (hc : P.cellsOf e = 1) {cs : List Value} {x : DataW H × List MemPlace} (h : DataW.trod enc P W 0 (fun _ => true) hd fuel t cs = some x) :
    ∃ (a : Option Addr) (len cap : Nat) (l : List UInt8), cs = [.slice a len cap] ∧ len ≤ cap ∧ cap ≤ maxLen ∧ Rd W (· < W.heap.size) a 1 len (l.map bv) ∧ cap + 1 ≤ Rows.uptoBulk x.1 := by
  have hform : ∃ a len cap, cs = [.slice a len cap] := by
    rcases open_ints ht he hc h with ⟨hcs, _⟩ | ⟨x, l, c, zs, hcs, _⟩
    · exact ⟨none, 0, 0, hcs⟩
    · exact ⟨some x, l, c, hcs⟩
  obtain ⟨a, len, cap, rfl⟩ := hform
  obtain ⟨l, h1, h2, h3, h4⟩ := bytes_in (a := a) (len := len) (cap := cap) ht he hc (d := x.1) (ps := x.2) ⟨fuel, h⟩
  refine ⟨a, len, cap, l, rfl, h1, h2, h3, ?_⟩
  rcases h4 with ⟨e1, e2⟩ | ⟨es, sp, e1, e2⟩
  · rw [e1, e2]; simp [Rows.uptoBulk]
  · rw [e1, ← e2]; exact bulk_cap es sp
theorem cut_at (cs : List Value) (k m : Nat) : cs.drop k = (cs.drop k).take m ++ cs.drop (k + m) := by rw [← List.drop_drop, List.take_append_drop]
end
end Go.Proofs.Ytcnjnkkdidpjiaa

namespace Go.Proofs.Ytcnjnkkdidpjiaa
open Go.ChangeShapes Go.WideShapes Go.ChangeAt Go.RowKit

theorem flat_at {α β : Type} {f : α → List β} {sz : Nat} (hsz : 0 < sz) : ∀ {l : List α}, (∀ u ∈ l, (f u).length = sz) → ∀ {j : Nat} {v : β}, (l.flatMap f)[j]? = some v → ∃ u, l[j / sz]? = some u ∧ (f u)[j % sz]? = some v
  | [], _, j, v, h => by simp at h
  | u :: l, hl, j, v, h => by
    have hu := hl u (by simp)
    rw [List.flatMap_cons] at h
    rcases Nat.lt_or_ge j sz with hj | hj
    · rw [List.getElem?_append_left (by omega)] at h
      refine ⟨u, ?_, ?_⟩
      · rw [Nat.div_eq_of_lt hj]; rfl
      · rw [Nat.mod_eq_of_lt hj]; exact h
    · rw [List.getElem?_append_right (by omega), hu] at h
      obtain ⟨u', h1, h2⟩ := flat_at hsz (l := l) (fun x hx => hl x (by simp [hx])) h
      have e1 : j / sz = (j - sz) / sz + 1 := by rw [Nat.div_eq_sub_div hsz hj]
      have e2 : j % sz = (j - sz) % sz := by rw [Nat.mod_eq_sub_mod hj]
      exact ⟨u', by rw [e1]; exact h1, by rw [e2]; exact h2⟩
theorem flat_len {α β : Type} {f : α → List β} {sz : Nat} : ∀ {l : List α}, (∀ u ∈ l, (f u).length = sz) → (l.flatMap f).length = l.length * sz
  | [], _ => by simp
  | u :: l, hl => by
    rw [List.flatMap_cons, List.length_append, hl u (by simp), flat_len (fun x hx => hl x (by simp [hx])), List.length_cons, Nat.add_mul]; omega
theorem list_of {α : Type} {p : Nat → α → Prop} : ∀ (n : Nat), (∀ i, i < n → ∃ u, p i u) → ∃ l : List α, l.length = n ∧ ∀ i u, l[i]? = some u → p i u
  | 0, _ => ⟨[], rfl, fun i u h => by simp at h⟩
  | n + 1, h => by
    obtain ⟨l, hl, hp⟩ := list_of n (fun i hi => h i (by omega))
    obtain ⟨u, hu⟩ := h n (by omega)
    refine ⟨l ++ [u], by simp [hl], fun i x hx => ?_⟩
    rcases Nat.lt_or_ge i n with hi | hi
    · rw [List.getElem?_append_left (by omega)] at hx; exact hp i x hx
    · rw [List.getElem?_append_right (by omega)] at hx
      match hk : i - l.length, hx with
      | 0, hx => injection hx with hx; subst hx; obtain rfl : i = n := by omega
                 exact hu
      | k + 1, hx => simp at hx

section
variable {H : Type} {enc : TypeId × Value → H} {P : Program} {W : World} {hd : Bool} {fuel : Nat}
theorem slG_in {α : Type} {t e : TypeId} {sz : Nat} (ht : P.underlying t = some (.slice e)) (hc : P.cellsOf e = sz) (hpos : 0 < sz) {f : α → List Value} (hel : ∀ n cs x, DataW.trod enc P W 0 (fun _ => true) hd n e cs = some x → ∃ u : α, cs = f u ∧ (f u).length = sz)
    {cs : List Value} {x : DataW H × List MemPlace} (h : DataW.trod enc P W 0 (fun _ => true) hd fuel t cs = some x) :
    ∃ (A : Option Addr) (len cap : Nat) (l : List α), cs = [.slice A len cap] ∧ len ≤ cap ∧ cap ≤ maxLen ∧ l.length = len ∧ Rd W (· < W.heap.size) A sz len (l.flatMap f) ∧ (∀ u ∈ l, (f u).length = sz) ∧ cap + 1 ≤ Rows.uptoBulk x.1 := by
  rcases DataW.trod_slice ht h with ⟨hcs, hx⟩ | ⟨a, len, cap, es, rest, n, _, hcs, hx, _, hl, hm, hlen, hat, hsp, _⟩
  · exact ⟨none, 0, 0, [], hcs, Nat.le_refl _, Nat.zero_le _, rfl, Rd.nil _ _ _ _, fun u hu => by simp at hu, by rw [hx]; simp [Rows.uptoBulk]⟩
  · have key : ∀ i, i < len → ∃ u : α, W.cells? 0 (a.add (i * sz)) sz = some (f u) ∧ (f u).length = sz := fun i hi => by
      have h1 := hat i hi
      rw [hc, List.getElem?_eq_getElem (by omega), Option.bind_eq_some_iff] at h1
      obtain ⟨cs', h2, h3⟩ := h1
      obtain ⟨u, rfl, h4⟩ := hel _ _ _ h3
      exact ⟨u, h2, h4⟩
    obtain ⟨l, hll, hp⟩ := list_of len key
    have hone : ∀ u ∈ l, (f u).length = sz := fun u hu => by
      obtain ⟨i, hi⟩ := List.mem_iff_getElem?.1 hu
      exact (hp i u hi).2
    have hcell : ∀ j v, (l.flatMap f)[j]? = some v → W.cell? (a.add j) = some v := fun j v hv => by
      obtain ⟨u, h1, h2⟩ := flat_at hpos hone hv
      obtain ⟨h3, _⟩ := hp _ u h1
      obtain ⟨_, _, h5⟩ := World.cells?_some h3
      have h6 := h5 (j % sz) (Nat.mod_lt _ hpos)
      rw [add_add, Nat.mul_comm, Nat.div_add_mod] at h6
      rw [h6]; exact h2
    have hrest := (hsp rfl).1
    refine ⟨some a, len, cap, l, hcs, hl, hm, hll, ⟨by rw [flat_len hone, hll], fun _ => rfl, fun h0 => ?_, hcell⟩, hone, ?_⟩
    · have hlt : 0 < (l.flatMap f).length := by rw [flat_len hone, hll]; exact Nat.mul_pos h0 hpos
      have := hcell 0 _ (List.getElem?_eq_getElem hlt)
      have hb := World.block_lt_of_cell? W _ this
      have e : (a.add 0).block = a.block := by unfold Addr.add; split <;> rfl
      rw [e] at hb
      exact hb
    · rw [hx]
      have := bulk_cap (es.map (·.1)) (rest.map (·.1))
      simp only [List.length_map] at this
      show cap + 1 ≤ Rows.uptoBulk (DataW.slice _ _)
      omega
end
end Go.Proofs.Ytcnjnkkdidpjiaa

namespace Go.Proofs.Ytcnjnkkdidpjiaa
open Go.ChangeShapes Go.WideShapes Go.ChangeAt Go.RowKit

/-- The fields of a reply: where, of which type, how many cells. -/
structure RepT (P : Program) (t : TypeId) (fs : Array Field) (f0 f1 f2 f3 f4 f5 f6 : Field) (ub us ud : TypeId) : Prop where
  und : P.underlying t = some (.struct fs)
  size : P.cellsOf t = 38
  at_ : fs = #[f0, f1, f2, f3, f4, f5, f6]
  off : [f0, f1, f2, f3, f4, f5, f6].map (fun f => (f.offset, P.cellsOf f.type)) = [(0, 1), (1, 32), (33, 1), (34, 1), (35, 1), (36, 1), (37, 1)]
  typ : [f0, f1, f2, f3, f4, f5, f6].map (fun f => P.underlying f.type) = [some (.int .i64), some (.array 32 ub), some (.int .i64), some (.int .i64), some (.slice ub), some (.slice us), some (.slice ud)]
  byt : P.underlying ub = some (.int .u8)
  one : P.cellsOf ub = 1
  str : P.underlying us = some .string
  sone : P.cellsOf us = 1
  sum : P.underlying ud = some (.array 32 ub)
  dig : P.cellsOf ud = 32

theorem flat_str : ∀ l : List ByteArray, l.flatMap (fun s : ByteArray => [Value.string s]) = l.map Value.string
  | [] => rfl
  | s :: l => by rw [List.flatMap_cons, flat_str l]; rfl
theorem flat_sum : ∀ l : List (List UInt8), l.flatMap (fun s : List UInt8 => s.map bv) = sumC l
  | [] => rfl
  | s :: l => by rw [List.flatMap_cons, flat_sum l]; unfold sumC; rw [List.flatten_cons, List.map_append]
section
variable {H : Type} {enc : TypeId × Value → H} {P : Program} {W : World} {hd : Bool}
theorem rep_in {t ub us ud : TypeId} {fs : Array Field} {f0 f1 f2 f3 f4 f5 f6 : Field} (T : RepT P t fs f0 f1 f2 f3 f4 f5 f6 ub us ud) {r : Reach} {b0 : Nat} {v : Value} {d : DataW H} {ps : List MemPlace} (hv : Value.okWide P W r b0 t v) (h : DataW.Trod enc P W 0 (fun _ => true) hd t v d ps) :
    ∃ (q : Rep) (A B C : Option Addr) (c cb cc : Nat), v = .agg (q.cells A B C c cb cc).toArray ∧ RepRd W q A B C ∧ q.body.length ≤ Rows.uptoBulk d ∧ q.words.length ≤ Rows.uptoBulk d ∧ q.sums.length ≤ Rows.uptoBulk d := by
  obtain ⟨cs, rfl, hsz⟩ := okWide_struct T.und hv
  obtain ⟨fuel, hf⟩ := h
  have ho := T.off
  have ht := T.typ
  simp only [List.map_cons, List.map_nil, List.cons.injEq, Prod.mk.injEq, and_true] at ho ht
  obtain ⟨⟨o0, z0⟩, ⟨o1, z1⟩, ⟨o2, z2⟩, ⟨o3, z3⟩, ⟨o4, z4⟩, ⟨o5, z5⟩, ⟨o6, z6⟩⟩ := ho
  obtain ⟨u0, u1, u2, u3, u4, u5, u6⟩ := ht
  have hcells : (Value.agg cs).cells.toList = cs.toList := rfl
  rw [hcells] at hf
  obtain ⟨_, y0, g0, _⟩ := field_in T.und hf (i := 0) (f := f0) (by rw [T.at_]; rfl)
  obtain ⟨_, y1, g1, _⟩ := field_in T.und hf (i := 1) (f := f1) (by rw [T.at_]; rfl)
  obtain ⟨_, y2, g2, _⟩ := field_in T.und hf (i := 2) (f := f2) (by rw [T.at_]; rfl)
  obtain ⟨_, y3, g3, _⟩ := field_in T.und hf (i := 3) (f := f3) (by rw [T.at_]; rfl)
  obtain ⟨_, y4, g4, k4⟩ := field_in T.und hf (i := 4) (f := f4) (by rw [T.at_]; rfl)
  obtain ⟨_, y5, g5, k5⟩ := field_in T.und hf (i := 5) (f := f5) (by rw [T.at_]; rfl)
  obtain ⟨_, y6, g6, k6⟩ := field_in T.und hf (i := 6) (f := f6) (by rw [T.at_]; rfl)
  obtain ⟨n0, e0, _⟩ := ints_in u0 g0
  obtain ⟨d1, e1, l1⟩ := arr_in u1 T.byt T.one z1 g1
  obtain ⟨n2, e2, _⟩ := ints_in u2 g2
  obtain ⟨n3, e3, _⟩ := ints_in u3 g3
  obtain ⟨A, len, cap, l, e4, h1, _, h3, h4⟩ := sl_in u4 T.byt T.one g4
  obtain ⟨B, len5, cap5, l5, e5, h51, _, hl5, hr5, _, hb5⟩ := slG_in u5 T.sone (by decide) (f := fun s : ByteArray => [Value.string s]) (fun n cs x h => by
    obtain ⟨s, hs, _⟩ := strs_in T.str h
    exact ⟨s, hs, rfl⟩) g5
  obtain ⟨C, len6, cap6, l6, e6, h61, _, hl6, hr6, h632, hb6⟩ := slG_in u6 T.dig (by decide) (f := fun s : List UInt8 => s.map bv) (fun n cs x h => by
    obtain ⟨s, hs, hl⟩ := arr_in T.sum T.byt T.one T.dig h
    exact ⟨s, hs, by rw [List.length_map]; exact hl⟩) g6
  rw [o0, z0] at e0
  rw [o1, z1] at e1
  rw [o2, z2] at e2
  rw [o3, z3] at e3
  rw [o4, z4] at e4
  rw [o5, z5] at e5
  rw [o6, z6] at e6
  have hll := h3.bytes_len
  subst hll
  subst hl5
  subst hl6
  rw [flat_str] at hr5
  rw [flat_sum] at hr6
  simp only [] at k4 k5 k6
  refine ⟨⟨n0, d1, n2, n3, l, l5, l6⟩, A, B, C, cap, cap5, cap6, ?_, ⟨l1, h3, hr5, hr6, fun s hs => by have := h632 s hs; rwa [List.length_map] at this⟩, by show l.length ≤ _; omega, by show l5.length ≤ _; omega, by show l6.length ≤ _; omega⟩
  congr 1
  apply Array.ext'
  have hlen : cs.toList.length = 38 := by rw [Array.length_toList, hsz, T.size]
  rw [show cs.toList = cs.toList.drop 0 from rfl, cut_at cs.toList 0 1, e0, cut_at cs.toList (0 + 1) 32, e1, cut_at cs.toList (0 + 1 + 32) 1, e2, cut_at cs.toList (0 + 1 + 32 + 1) 1, e3, cut_at cs.toList (0 + 1 + 32 + 1 + 1) 1, e4, cut_at cs.toList (0 + 1 + 32 + 1 + 1 + 1) 1, e5, cut_at cs.toList (0 + 1 + 32 + 1 + 1 + 1 + 1) 1, e6, List.drop_of_length_le (by omega)]
  simp [Rep.cells, rpL]
end
end Go.Proofs.Ytcnjnkkdidpjiaa

namespace Go.Proofs.Ytcnjnkkdidpjiaa
open Go.ChangeShapes Go.WideShapes Go.ChangeAt Go.RowKit

/-- The fields of a request: where, of which type, how many cells. -/
structure ReqT (P : Program) (t : TypeId) (fs : Array Field) (f0 f1 f2 f3 f4 f5 f6 f7 : Field) (ub : TypeId) : Prop where
  und : P.underlying t = some (.struct fs)
  size : P.cellsOf t = 39
  at_ : fs = #[f0, f1, f2, f3, f4, f5, f6, f7]
  off : [f0, f1, f2, f3, f4, f5, f6, f7].map (fun f => (f.offset, P.cellsOf f.type)) = [(0, 1), (1, 1), (2, 1), (3, 32), (35, 1), (36, 1), (37, 1), (38, 1)]
  typ : [f0, f1, f2, f3, f4, f5, f6, f7].map (fun f => P.underlying f.type) = [some (.int .i64), some .string, some .string, some (.array 32 ub), some (.int .i64), some (.int .i64), some (.int .i64), some (.slice ub)]
  byt : P.underlying ub = some (.int .u8)
  one : P.cellsOf ub = 1

section
variable {H : Type} {enc : TypeId × Value → H} {P : Program} {W : World} {hd : Bool}
theorem req_in {t ub : TypeId} {fs : Array Field} {f0 f1 f2 f3 f4 f5 f6 f7 : Field} (T : ReqT P t fs f0 f1 f2 f3 f4 f5 f6 f7 ub) {r : Reach} {b0 : Nat} {v : Value} {d : DataW H} {ps : List MemPlace} (hv : Value.okWide P W r b0 t v) (h : DataW.Trod enc P W 0 (fun _ => true) hd t v d ps) :
    ∃ (q : Req) (A : Option Addr) (c : Nat), v = .agg (q.cells A c).toArray ∧ q.d.length = 32 ∧ Rd W (· < W.heap.size) A 1 q.body.length (q.body.map bv) ∧ q.body.length ≤ c ∧ c ≤ Rows.uptoBulk d ∧ q.repo.size ≤ Rows.uptoBulk d ∧ q.word.size ≤ Rows.uptoBulk d := by
  obtain ⟨cs, rfl, hsz⟩ := okWide_struct T.und hv
  obtain ⟨fuel, hf⟩ := h
  have ho := T.off
  have ht := T.typ
  simp only [List.map_cons, List.map_nil, List.cons.injEq, Prod.mk.injEq, and_true] at ho ht
  obtain ⟨⟨o0, z0⟩, ⟨o1, z1⟩, ⟨o2, z2⟩, ⟨o3, z3⟩, ⟨o4, z4⟩, ⟨o5, z5⟩, ⟨o6, z6⟩, ⟨o7, z7⟩⟩ := ho
  obtain ⟨u0, u1, u2, u3, u4, u5, u6, u7⟩ := ht
  have hcells : (Value.agg cs).cells.toList = cs.toList := rfl
  rw [hcells] at hf
  obtain ⟨_, y0, g0, _⟩ := field_in T.und hf (i := 0) (f := f0) (by rw [T.at_]; rfl)
  obtain ⟨_, y1, g1, k1⟩ := field_in T.und hf (i := 1) (f := f1) (by rw [T.at_]; rfl)
  obtain ⟨_, y2, g2, k2⟩ := field_in T.und hf (i := 2) (f := f2) (by rw [T.at_]; rfl)
  obtain ⟨_, y3, g3, _⟩ := field_in T.und hf (i := 3) (f := f3) (by rw [T.at_]; rfl)
  obtain ⟨_, y4, g4, _⟩ := field_in T.und hf (i := 4) (f := f4) (by rw [T.at_]; rfl)
  obtain ⟨_, y5, g5, _⟩ := field_in T.und hf (i := 5) (f := f5) (by rw [T.at_]; rfl)
  obtain ⟨_, y6, g6, _⟩ := field_in T.und hf (i := 6) (f := f6) (by rw [T.at_]; rfl)
  obtain ⟨_, y7, g7, k7⟩ := field_in T.und hf (i := 7) (f := f7) (by rw [T.at_]; rfl)
  obtain ⟨n0, e0, _⟩ := ints_in u0 g0
  obtain ⟨s1, e1, b1⟩ := strs_in u1 g1
  obtain ⟨s2, e2, b2⟩ := strs_in u2 g2
  obtain ⟨d3, e3, l3⟩ := arr_in u3 T.byt T.one z3 g3
  obtain ⟨n4, e4, _⟩ := ints_in u4 g4
  obtain ⟨n5, e5, _⟩ := ints_in u5 g5
  obtain ⟨n6, e6, _⟩ := ints_in u6 g6
  obtain ⟨A, len, cap, l, e7, h1, _, h3, h4⟩ := sl_in u7 T.byt T.one g7
  rw [o0, z0] at e0
  rw [o1, z1] at e1
  rw [o2, z2] at e2
  rw [o3, z3] at e3
  rw [o4, z4] at e4
  rw [o5, z5] at e5
  rw [o6, z6] at e6
  rw [o7, z7] at e7
  have hll := h3.bytes_len
  subst hll
  simp only [] at k1 k2 k7
  refine ⟨⟨n0, s1, s2, d3, n4, n5, n6, l⟩, A, cap, ?_, l3, h3, h1, by omega, by show s1.size ≤ _; omega, by show s2.size ≤ _; omega⟩
  congr 1
  apply Array.ext'
  have hlen : cs.toList.length = 39 := by rw [Array.length_toList, hsz, T.size]
  rw [show cs.toList = cs.toList.drop 0 from rfl, cut_at cs.toList 0 1, e0, cut_at cs.toList (0 + 1) 1, e1, cut_at cs.toList (0 + 1 + 1) 1, e2, cut_at cs.toList (0 + 1 + 1 + 1) 32, e3, cut_at cs.toList (0 + 1 + 1 + 1 + 32) 1, e4, cut_at cs.toList (0 + 1 + 1 + 1 + 32 + 1) 1, e5, cut_at cs.toList (0 + 1 + 1 + 1 + 32 + 1 + 1) 1, e6, cut_at cs.toList (0 + 1 + 1 + 1 + 32 + 1 + 1 + 1) 1, e7, List.drop_of_length_le (by omega)]
  simp [Req.cells, rqL]
end
end Go.Proofs.Ytcnjnkkdidpjiaa
