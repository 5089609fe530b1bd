/-
  From what the form reads of structs that came in to the words of the walks: parts of the cells, one by one. No program is named here.
-/
import Derived.Test.YtgcoebndhnijgaaDoorRowLib
import Derived.Test.YtgcoebndhnijgaaDoorBulk
namespace Go.Proofs.YtgcoebndhnijgaaDoor
open Go.ChangeShapes Go.WideShapes Go.ChangeAt Go.RowKit

section
variable {H : Type} {enc : TypeId × Value → H} {P : Program} {W : World} {hd : Bool} {fuel : Nat}

theorem bulk_mem {l : List (DataW H)} {d : DataW H} (h : d ∈ l) : Rows.uptoBulk d ≤ Rows.uptoBulkAll l := by
  induction l with
  | nil => cases h
  | cons a l ih =>
    simp only [Rows.uptoBulkAll]
    rcases List.mem_cons.1 h with rfl | h
    · omega
    · have := ih h; omega
/-- A field of a struct that came in: its cells, and how they are read. -/
theorem field_in {t : TypeId} {fs : Array Field} (ht : P.underlying t = some (.struct fs)) {cs : List Value} {x : DataW H × List MemPlace} (h : DataW.trod enc P W 0 (fun _ => true) hd fuel t cs = some x)
    {i : Nat} {f : Field} (hf : fs[i]? = some f) : ∃ n y, DataW.trod enc P W 0 (fun _ => true) hd n f.type ((cs.drop f.offset).take (P.cellsOf f.type)) = some y ∧ Rows.uptoBulk y.1 + 1 ≤ Rows.uptoBulk x.1 := by
  obtain ⟨xs, n, _, hx, _, hlen, hg⟩ := DataW.trod_struct ht h
  have hi : i < fs.size := (Array.getElem?_eq_some_iff.1 hf).1
  have hy : xs[i]? = some (xs[i]'(by omega)) := List.getElem?_eq_getElem (by omega)
  refine ⟨n, _, (hg i f hf).trans hy, ?_⟩
  rw [hx]
  have := bulk_mem (d := (xs[i]'(by omega)).1) (l := xs.map (·.1)) (List.mem_map_of_mem (List.getElem_mem _))
  simp only [Rows.uptoBulk]; omega
theorem ints_in {t : TypeId} {k : IntKind} (ht : P.underlying t = some (.int k)) {cs : List Value} {x : DataW H × List MemPlace} (h : DataW.trod enc P W 0 (fun _ => true) hd fuel t cs = some x) : ∃ n, cs = [.int k n] ∧ (Lit.int k n).wf = true := by
  obtain ⟨n, h1, _, h2⟩ := DataW.trod_int ht h
  exact ⟨n, h1, h2⟩
theorem strs_in {t : TypeId} (ht : P.underlying t = some .string) {cs : List Value} {x : DataW H × List MemPlace} (h : DataW.trod enc P W 0 (fun _ => true) hd fuel t cs = some x) : ∃ s : ByteArray, cs = [.string s] ∧ s.size + 1 ≤ Rows.uptoBulk x.1 := by
  obtain ⟨s, h1, h2, _⟩ := DataW.trod_string ht h
  exact ⟨s, h1, by rw [h2]; simp [Rows.uptoBulk]⟩
theorem bools_in {t : TypeId} (ht : P.underlying t = some .bool) {cs : List Value} {x : DataW H × List MemPlace} (h : DataW.trod enc P W 0 (fun _ => true) hd fuel t cs = some x) : ∃ b : Bool, cs = [.bool b] := by
  cases fuel with
  | zero => simp [DataW.trod] at h
  | succ n =>
    unfold DataW.trod at h
    rw [ht] at h
    split at h <;> simp_all
theorem bytes_of_cells : ∀ (cs : List Value), (∀ i, i < cs.length → ∃ c : UInt8, cs[i]? = some (bv c)) → ∃ d : List UInt8, cs = d.map bv
  | [], _ => ⟨[], rfl⟩
  | c :: cs, h => by
    obtain ⟨a, ha⟩ := h 0 (by simp)
    obtain ⟨d, hd⟩ := bytes_of_cells cs (fun i hi => by
      have := h (i + 1) (by simp; omega)
      simpa using this)
    simp only [List.getElem?_cons_zero, Option.some.injEq] at ha
    exact ⟨a :: d, by rw [ha, hd]; rfl⟩
/-- An array of bytes that came in. -/
theorem arr_in {t e : TypeId} {n : Nat} (ht : P.underlying t = some (.array n e)) (he : P.underlying e = some (.int .u8)) (hc : P.cellsOf e = 1) (hcs : P.cellsOf t = n) {cs : List Value} {x : DataW H × List MemPlace} (h : DataW.trod enc P W 0 (fun _ => true) hd fuel t cs = some x) :
    ∃ d : List UInt8, cs = d.map bv ∧ d.length = n := by
  obtain ⟨xs, m, _, _, hlen, hxl, hg⟩ := DataW.trod_array ht h
  rw [hcs] at hlen
  have key : ∀ i, i < n → ∃ c : UInt8, cs[i]? = some (bv c) := fun i hi => by
    have h1 := hg i hi
    rw [hc, Nat.mul_one, List.getElem?_eq_getElem (by omega)] at h1
    obtain ⟨k, h2, h3⟩ := ints_in he h1
    obtain ⟨c, rfl⟩ := u8_of_wf h3
    refine ⟨c, ?_⟩
    have h4 : ((cs.drop i).take 1)[0]? = some (bv c) := by rw [h2]; rfl
    rw [List.getElem?_take, if_pos (by omega), List.getElem?_drop] at h4
    simpa using h4
  obtain ⟨d, hd⟩ := bytes_of_cells cs (fun i hi => key i (by omega))
  exact ⟨d, hd, by rw [hd, List.length_map] at hlen; exact hlen⟩
/-- A slice of bytes that came in, as a cell. -/
theorem sl_in {t e : TypeId} (ht : P.underlying t = some (.slice e)) (he : P.underlying e = some (.int .u8)) (hc : P.cellsOf e = 1) {cs : List Value} {x : DataW H × List MemPlace} (h : DataW.trod enc P W 0 (fun _ => true) hd fuel t cs = some x) :
    ∃ (a : Option Addr) (len cap : Nat) (l : List UInt8), cs = [.slice a len cap] ∧ len ≤ cap ∧ cap ≤ maxLen ∧ Rd W (· < W.heap.size) a 1 len (l.map bv) ∧ cap + 1 ≤ Rows.uptoBulk x.1 := by
  have hform : ∃ a len cap, cs = [.slice a len cap] := by
    rcases open_ints ht he hc h with ⟨hcs, _⟩ | ⟨x, l, c, zs, hcs, _⟩
    · exact ⟨none, 0, 0, hcs⟩
    · exact ⟨some x, l, c, hcs⟩
  obtain ⟨a, len, cap, rfl⟩ := hform
  obtain ⟨l, h1, h2, h3, h4⟩ := bytes_in (a := a) (len := len) (cap := cap) ht he hc (d := x.1) (ps := x.2) ⟨fuel, h⟩
  refine ⟨a, len, cap, l, rfl, h1, h2, h3, ?_⟩
  rcases h4 with ⟨e1, e2⟩ | ⟨es, sp, e1, e2⟩
  · rw [e1, e2]; simp [Rows.uptoBulk]
  · rw [e1, ← e2]; exact bulk_cap es sp
theorem cut_at (cs : List Value) (k m : Nat) : cs.drop k = (cs.drop k).take m ++ cs.drop (k + m) := by rw [← List.drop_drop, List.take_append_drop]
end
end Go.Proofs.YtgcoebndhnijgaaDoor
