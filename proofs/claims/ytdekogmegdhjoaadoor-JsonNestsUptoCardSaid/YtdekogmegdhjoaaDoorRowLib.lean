/-
  From what the form reads of an argument to the words of the walks. No program is named here.
-/
import Derived.Test.YtdekogmegdhjoaaDoorLib
import Derived.ProofKit
import Derived.OpenShut
namespace Go.Proofs.YtdekogmegdhjoaaDoor
open Go.ChangeShapes Go.WideShapes Go.ChangeAt Go.RowKit

theorem u8_of_wf {n : Int} (h : (Lit.int .u8 n).wf = true) : ∃ c : UInt8, n = c.toNat := by
  have hx : 0 ≤ n ∧ n ≤ 255 := by simpa [Lit.wf, IntKind.min, IntKind.max, IntKind.signed, IntKind.bits] using h
  exact byte_of hx.1 (by omega)

theorem u32_of_wf {n : Int} (h : (Lit.int .u32 n).wf = true) : ∃ X : Nat, n = (X : Int) ∧ X < 4294967296 := by
  have hx : 0 ≤ n ∧ n ≤ 4294967295 := by simpa [Lit.wf, IntKind.min, IntKind.max, IntKind.signed, IntKind.bits] using h
  exact ⟨n.toNat, by omega, by omega⟩
theorem u64_of_wf {n : Int} (h : (Lit.int .u64 n).wf = true) : ∃ X : Nat, n = (X : Int) ∧ X < 18446744073709551616 := by
  have hx : 0 ≤ n ∧ n ≤ 18446744073709551615 := by simpa [Lit.wf, IntKind.min, IntKind.max, IntKind.signed, IntKind.bits] using h
  exact ⟨n.toNat, by omega, by omega⟩
theorem i64_of_wf {n : Int} (h : (Lit.int .i64 n).wf = true) : -9223372036854775808 ≤ n ∧ n ≤ 9223372036854775807 := by
  simpa [Lit.wf, IntKind.min, IntKind.max, IntKind.signed, IntKind.bits] using h

section
variable {H : Type} {enc : TypeId × Value → H} {P : Program} {W : World} {hd : Bool} {d : DataW H} {ps : List MemPlace}

/-- A slice of bytes that came in. -/
theorem bytes_in {t e : TypeId} (ht : P.underlying t = some (.slice e)) (he : P.underlying e = some (.int .u8)) (hc : P.cellsOf e = 1) {a : Option Addr} {len cap : Nat}
    (h : DataW.Trod enc P W 0 (fun _ => true) hd t (.slice a len cap) d ps) :
    ∃ l : List UInt8, len ≤ cap ∧ cap ≤ maxLen ∧ Rd W (· < W.heap.size) a 1 len (l.map bv) ∧ (d = .nil ∧ cap = 0 ∨ ∃ es sp, d = .slice es sp ∧ es.length + sp.length = cap) := by
  obtain ⟨fuel, hf⟩ := h
  rcases open_ints ht he hc hf with ⟨hcs, hx⟩ | ⟨x, l, c, zs, hcs, _, hl, hm, hz, hx, hcell, hwz⟩
  · simp [Value.cells] at hcs
    obtain ⟨rfl, rfl, rfl⟩ := hcs
    injection hx with h1 h2
    exact ⟨[], Nat.le_refl _, Nat.zero_le _, Rd.nil _ _ _ _, .inl ⟨h1, rfl⟩⟩
  · simp [Value.cells] at hcs
    obtain ⟨rfl, rfl, rfl⟩ := hcs
    simp only [if_true] at hz
    injection hx with h1 h2
    have hbyte : ∀ i, (hi : i < zs.length) → ∃ c : UInt8, zs[i] = c.toNat := fun i hi => u8_of_wf (hwz _ (List.getElem_mem hi))
    refine ⟨(zs.take len).map fun n => UInt8.ofNat n.toNat, hl, hm, ⟨by simp [hz]; omega, fun _ => rfl, fun hn => ?_, fun j u hu => ?_⟩, .inr ⟨_, _, h1, by simp [lits]; omega⟩⟩
    · have := hcell 0 (by omega)
      have hb := World.block_lt_of_cell? W _ this
      have e : (x.add 0).block = x.block := by unfold Addr.add; split <;> rfl
      rw [e] at hb
      exact hb
    · rw [List.map_map, List.getElem?_map] at hu
      cases hq : (zs.take len)[j]? with
      | none => rw [hq] at hu; cases hu
      | some n =>
        rw [hq] at hu
        have hj := (List.getElem?_eq_some_iff.1 hq).1
        rw [List.length_take] at hj
        have hj2 : j < zs.length := by omega
        have hn : zs[j] = n := by
          rw [List.getElem?_take] at hq
          split at hq
          · rw [List.getElem?_eq_getElem hj2] at hq; injection hq
          · cases hq
        obtain ⟨c, hc⟩ := hbyte j hj2
        have h3 := hcell j hj2
        rw [List.getD_eq_getElem?_getD, List.getElem?_eq_getElem hj2, Option.getD_some, hc] at h3
        rw [hn] at hc
        show W.cell? (x.add j) = some u
        rw [h3, ← hu, hc]
        simp [bv]
end
end Go.Proofs.YtdekogmegdhjoaaDoor
