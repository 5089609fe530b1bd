/-
  A store into bytes that the call owns, which keeps all other blocks.
-/
import Derived.Test.YtdekogmegdhjoaaDoorLib
namespace Go.Proofs.YtdekogmegdhjoaaDoor
open Go.RowKit

theorem OwnB.on {w w' : World} {base : Nat} {e : TypeId} {v : Value} {l : List UInt8} (h : OwnB w base e v l) (hb : Below w.heap.size w w') : OwnB w' base e v l := by
  refine ⟨h.own.1, ?_⟩
  rcases h.own.2 with hn | ⟨g, cap, cur, hv, hg, hc, rest⟩
  · exact .inl hn
  · refine .inr ⟨g, cap, cur, hv, hg, ?_, rest⟩
    rw [hb.block g (h.own.lt g (by rw [hv]; rfl)).2]; exact hc
theorem Keep.and {S : Nat → Prop} {w w1 w2 : World} (h : Keep S w w1) (h2 : Keep S w1 w2) : Keep S w w2 := h.trans h2

section
variable {P : Program} {o : Oper} {a : Act} {w w0 : World} {K : Act → World → Prop} {Q : Exit → Act → World → Prop}
theorem wp_load1C {S : Nat → Prop} {A : Option Addr} {n size k : Nat} {xs : List Value} (hr : Rd w S A size n xs) {u : Value} (hc : Box (xs[k]? = some u)) {e : TypeId} {j : Nat} {d : TypeDesc} (hu : P.underlying e = some d) (hd : aggT d = false)
    (ho : IsLd o a e (atp A j)) (hj : j = k) (h : K (a.put o.dst u) w) : o.wp P a w K Q := by
  subst hj
  exact wp_load1 hr hu hd ho hc.out h
theorem wp_storeK {e : TypeId} (hu : (P.info? e).map (·.size) = some 1) {base : Nat} {A : Option Addr} {n c : Nat} {l : List UInt8} (hown : OwnB w base e (.slice A n c) l) (hb : Below base w0 w) {j : Nat} {q : Int}
    (ho : IsSt o a e (atp A j) (.int .u8 q)) (hj : j < n) (hq : ∃ c : UInt8, q = c.toNat)
    (k : ∀ w' d, Box (q = ((d : UInt8).toNat : Int)) → OwnB w' base e (.slice A n c) (l.set j d) → Below base w0 w' → w'.heap.size = w.heap.size → Box (Keep (fun b => b ≠ (A.getD default).block) w w') → K (a.put o.dst undef) w') : o.wp P a w K Q := by
  obtain ⟨x, y, ho, hx, hy⟩ := ho
  obtain ⟨d, rfl⟩ := hq
  obtain ⟨A', c', hv, _⟩ := hown.form
  injection hv with hA hn hc
  subst hA hn hc
  have hown' := hown.own
  obtain ⟨g, rfl⟩ : ∃ g, A = some ⟨g, 0, none⟩ := by
    rcases hown'.2 with ⟨h0, _⟩ | ⟨g, cap, cur, h0, _⟩
    · injection h0 with _ h1; omega
    · injection h0 with h1; exact ⟨g, h1⟩
  have hat : atp (some ⟨g, 0, none⟩) j = ⟨g, j, none⟩ := by
    unfold atp Addr.add
    by_cases hj0 : j = 0 <;> simp [hj0]
  rw [hat] at hx
  have hcell := hown'.cellAt j (by omega)
  have hfr := hown'.frozenAt j
  obtain ⟨u, hu2⟩ : ∃ u, w.cell? ⟨g, j, none⟩ = some u := ⟨(l.map bv)[j]'(by simpa using hj), by rw [hcell]; simp [hj]⟩
  have hst := hown'.stored j (bv d)
  have hlt := hown'.lt g rfl
  obtain ⟨i, hi, hsz⟩ := Option.map_eq_some_iff.1 hu
  have hk := k (w.setCell ⟨g, j, none⟩ (bv d)) d (box rfl) ⟨by simpa [List.map_set] using hst.1⟩ (hb.setCell (p := ⟨g, j, none⟩) hlt.1 _) (by simp [World.setCell]) (box ⟨rfl, rfl, rfl, by simp [World.setCell], fun b hb => Below.heap_setCell w _ _ b hb⟩)
  unfold Oper.wp execOp
  simp only [ho, hx, hy, Instr.storeAt, Instr.sureAddr, storeVar, Sem.run_bind, Sem.run_pure, Result.andThen_ok]
  simp [sizeOf, typeInfo, hi, hsz, Value.cells, storeCells, go_sem, hu2, hfr]
  exact hk

end
end Go.Proofs.YtdekogmegdhjoaaDoor
