/-
  A text appended to bytes that the call owns, over a frame of known blocks. No program is named here.
-/
import Derived.Test.YtdekogmegdhjoaaDoorFr8
import Derived.Lib.AppendStr
namespace Go.Proofs.YtdekogmegdhjoaaDoor
open Go.RowKit

section
variable {P : Program} {w : World}
theorem run_appS {t u e ty : TypeId} (T : SlT P t e 1 1 (.int .u8 0)) (hu : P.underlying u = some .string) {base : Nat} {v : Value} {l : List UInt8} (hown : w.ownsRow base e 1 v l.length (l.map bv)) (s : ByteArray)
    (hroom : l.length + s.size ≤ 140737488355328) (hbase : base ≤ w.heap.size) :
    ∃ v' w', (Builtin.append_ #[t, u] ty #[v, .string s]).run P w = .ok v' w' ∧ w'.ownsRow base e 1 v' (l ++ s.data.toList).length ((l ++ s.data.toList).map bv) ∧ w.grownBy w' v.ownBlock ∧ (v'.ownBlock = v.ownBlock ∨ v'.ownBlock = some w.heap.size) := by
  obtain ⟨i, hi, hz, hs, hb⟩ := info_parts T.info
  have hsl : s.data.toList.length = s.size := str_len s
  obtain ⟨v', w', hrun, h2, h3, h4⟩ := Lib.run_append_own_string (P := P) (w := w) base t u ty e i T.und hu hi hz hs hb v l.length (l.map bv) hown s (by unfold maxLen; omega) hroom hbase
  have e1 : l.map bv ++ Lib.strCells s = (l ++ s.data.toList).map bv := by rw [List.map_append]; rfl
  have e2 : l.length + s.size = (l ++ s.data.toList).length := by rw [List.length_append, hsl]
  rw [e1, e2] at h2
  refine ⟨v', w', hrun, h2, h3, ?_⟩
  rcases hown.2 with ⟨rfl, hn⟩ | ⟨g, cap, cur, rfl, hbg, hg, hnc, hcm, hcs, htake⟩
  · by_cases hm : s.size = 0
    · rw [h4.2 ⟨rfl, hm⟩]; exact .inl rfl
    · have hr := run_append_nil_string (P := P) (w := w) t u ty e i (.int .u8 0) T.und hu hi hz s (by omega) (by omega) (by rw [hb]; omega)
      rw [hr] at hrun
      injection hrun with hv _
      rw [← hv]; exact .inr rfl
  · by_cases hro : l.length + s.size ≤ cap
    · have hr := Lib.run_append_room_string (P := P) (w := w) t u ty e i T.und hu hi hs g l.length cap cur hg s hro (by rw [hcs]; omega)
      rw [hr] at hrun
      injection hrun with hv _
      rw [← hv]; exact .inl rfl
    · have holds : ∀ j u, (l.map bv)[j]? = some u → w.cell? ((⟨g, 0, none⟩ : Addr).add j) = some u := hown.cells (g := g) rfl
      have hr := Lib.run_append_grow_string (P := P) (w := w) t u ty e i (.int .u8 0) T.und hu hi hz ⟨g, 0, none⟩ l.length cap (l.map bv) (by rw [hs]; simp) holds s (by omega) (by omega) (by rw [hb]; exact growslice_fits (by omega) (by omega))
      rw [hr] at hrun
      injection hrun with hv _
      rw [← hv]; exact .inr rfl
/-- The operation is 'append(.., s...)', s a text. -/
def IsAppS (o : Oper) (a : Act) (t u : TypeId) (v xv : Value) : Prop := ∃ s x, o.op = .call { callee := .builtin .append, args := #[s, x], argTypes := #[t, u] } ∧ a.eval s = v ∧ a.eval x = xv
theorem wp_fappS {o : Oper} {a : Act} {X : List Nat} {w0 : World} {es : List Ent} {K : Act → World → Prop} {Q : Exit → Act → World → Prop} {sl u e : TypeId} (T : SlT P sl e 1 1 (.int .u8 0)) (hu : P.underlying u = some .string) (hF : Fr X w0 w es) {i b : Nat} {v : Value} {l : List UInt8} (hi : es[i]? = some (.bytes b e v l)) (hb : b ≤ w0.heap.size)
    {s : ByteArray} (ho : IsAppS o a sl u v (.string s)) (hroom : l.length + s.size ≤ 140737488355328)
    (k : ∀ v' w', Fr X w0 w' (es.set i (.bytes b e v' (l ++ s.data.toList))) → w.heap.size ≤ w'.heap.size → K (a.put o.dst v') w') : o.wp P a w K Q := by
  have hown := hF.own hi
  have hbw : b ≤ w.heap.size := Nat.le_trans hb hF.size
  obtain ⟨p, x, ho, hp, hx⟩ := ho
  obtain ⟨v', w', hrun, h2, h3, h4⟩ := run_appS (ty := o.type) T hu hown.own s hroom hbw
  unfold Oper.wp execOp
  simp only [ho, resolve, invoke, builtin, Sem.run_bind, Sem.run_pure, Result.andThen_ok, List.map_toArray, List.map_cons, List.map_nil, hp, hx, hrun]
  refine k v' w' (hF.put hi h3 h2 (h4.imp id fun h b hb => ?_)) h3.size
  have hb : v'.ownBlock = some b := hb
  rw [h] at hb; injection hb with hb; omega
end
end Go.Proofs.YtdekogmegdhjoaaDoor
