/-
  The laws of a region that draws its order and cuts bytes or turns them into a string. No program is named here.
-/
import Derived.Test.YtdekogmegdhjoaaDoorFr7
namespace Go.Proofs.YtdekogmegdhjoaaDoor
open Go.RowKit

theorem Rd.same {w w0 : World} {S : Nat → Prop} {A : Option Addr} {size n : Nat} {xs : List Value} (h : Rd w S A size n xs) (hk : ∀ k, S k → w0.heap[k]? = w.heap[k]?) : Rd w0 S A size n xs :=
  ⟨h.len, h.some_, h.inS, fun j u hu => by
    rw [← h.cell j u hu]
    exact World.cell?_of_block (w := w) (hk _ (by rw [atp_block]; exact h.inS (h.pos_of hu)))⟩
section
variable {P : Program} {o : Oper} {a : Act}
def cutA (A : Option Addr) (l m : Nat) : Option Addr := if m = l then A else A.map (·.add l)
theorem run_cutX {t e : TypeId} (T : SlT P t e 1 1 (.int .u8 0)) (w : World) {A : Option Addr} {n c : Nat}
    {lo hi mx : Option Int} (ho : IsCut o a t A n c lo hi mx) {l h m : Nat} (hl : lo.getD 0 = (l : Int)) (hh : hi.getD (n : Int) = (h : Int)) (hm : mx.getD (c : Int) = (m : Int)) (hmx : mx.isSome = true → hi.isSome = true)
    (h1 : l ≤ h) (h2 : h ≤ n) (h3 : h ≤ m) (h4 : m ≤ c) :
    (execOp a.eval o).run P w = .ok (.value (.slice (cutA A l m) (h - l) (m - l))) w := by
  obtain ⟨x, ol, oh, om, k1, k2, k3, ho, hx, b1, b2, b3⟩ := ho
  obtain ⟨i', hi', _, hsz, _⟩ := info_parts T.info
  unfold execOp
  have hrun : ∀ (lv hv mv : Option Value), lv = lo.map (.int k1) → hv = hi.map (.int k2) → mv = mx.map (.int k3) →
      (Instr.sliceBounds true n c lv hv mv).run P w = .ok (l, h, m) w := by
    intro lv hv mv e1 e2 e3
    subst e1 e2 e3
    have h5 : h ≤ c := by omega
    have h6 : l ≤ n := by omega
    cases lo <;> cases hi <;> cases mx <;> simp at hl hh hm hmx <;> subst_vars <;> simp [Instr.sliceBounds, run_bound, h1, h3, h4, h5, h6] <;> omega
  have e1 : ol.map a.eval = lo.map (.int k1) := b1
  have e2 : oh.map a.eval = hi.map (.int k2) := b2
  have e3 : om.map a.eval = mx.map (.int k3) := b3
  simp [ho, hx, Instr.sliceAt, Instr.slice, run_underlying T.und, hrun _ _ _ e1 e2 e3, sizeOf, typeInfo, hi', hsz, cutA]
theorem cut_rd {w : World} {S : Nat → Prop} {A : Option Addr} {n l h m : Nat} {bs : List UInt8} (hr : Rd w S A 1 n (bs.map bv)) (h1 : l ≤ h) (h2 : h ≤ n) (h3 : h ≤ m) : Rd w S (cutA A l m) 1 (h - l) (((bs.take h).drop l).map bv) := by
  have hrc := hr.cut (m = l) h1 h2 (fun hml => by omega)
  simp only [Nat.mul_one, ← List.map_take, ← List.map_drop] at hrc
  exact hrc
theorem yi_cut {S : World → Prop} {ops : Array Oper} (hw : Region.wanted o (yielded ops a.tmps) = true) {t e : TypeId} (T : SlT P t e 1 1 (.int .u8 0)) {A : Option Addr} {n c : Nat}
    {lo hi mx : Option Int} (ho : IsCut o a t A n c lo hi mx) {l h m : Nat} (hl : lo.getD 0 = (l : Int)) (hh : hi.getD (n : Int) = (h : Int)) (hm : mx.getD (c : Int) = (m : Int)) (hmx : mx.isSome = true → hi.isSome = true)
    (h1 : l ≤ h) (h2 : h ≤ n) (h3 : h ≤ m) (h4 : m ≤ c) : YieldsIf P ops S o (.slice (cutA A l m) (h - l) (m - l)) a :=
  yi_run hw fun w _ => run_cutX T w ho hl hh hm hmx h1 h2 h3 h4
theorem run_b2s {t st e : TypeId} {size bytes : Nat} {z : Value} (T : SlT P t e size bytes z) (he : P.underlying e = some (.int .u8)) (hst : P.underlying st = some .string) {w : World} {S : Nat → Prop} {A : Option Addr} {n c : Nat} {l : List UInt8} (hr : Rd w S A 1 n (l.map bv))
    (ho : IsCv o a t st (.slice A n c)) : (execOp a.eval o).run P w = .ok (.value (.string ⟨l.toArray⟩)) w := by
  obtain ⟨x, ho, hx⟩ := ho
  have hl := hr.bytes_len
  have hrun : (convert t st (.slice A n c)).run P w = .ok (.string ⟨l.toArray⟩) w := by
    rw [run_convert_bytes_string w t st e A n c T.und he hst]
    cases hA : A with
    | none =>
      have hn : n = 0 := by
        rcases Nat.eq_zero_or_pos n with h | h
        · exact h
        · have := hr.some_ h; rw [hA] at this; cases this
      have : l = [] := List.eq_nil_of_length_eq_zero (by omega)
      subst this
      simp [Conv.bytesToString]
      rfl
    | some ad =>
      have hld : (loadCells ad n).run P w = .ok ((l.map (fun b => (b.toNat : Int))).map (Value.int .u8)).toArray w := by
        have h2 := run_loadCells_list (P := P) w ad (l.map bv) (fun j v hv => by
          have := hr.cell j v hv
          rwa [hA] at this)
        rw [List.length_map, hl] at h2
        rw [h2, List.map_map]
        rfl
      rw [run_bytesToString w ad n c _ hld, fold_push]
      simp
  unfold execOp
  simp [ho, hx, hrun]
theorem yi_b2s {S : World → Prop} {ops : Array Oper} (hw : Region.wanted o (yielded ops a.tmps) = true) {t st e : TypeId} {size bytes : Nat} {z : Value} (T : SlT P t e size bytes z) (he : P.underlying e = some (.int .u8)) (hst : P.underlying st = some .string) {S' : World → Nat → Prop} {A : Option Addr} {n c : Nat} {l : List UInt8}
    (hr : ∀ w, S w → Rd w (S' w) A 1 n (l.map bv)) (ho : IsCv o a t st (.slice A n c)) : YieldsIf P ops S o (.string ⟨l.toArray⟩) a :=
  yi_run hw fun w hS => run_b2s T he hst (hr w hS) ho
end
theorem OwnB.nilE (w : World) (b : Nat) (e : TypeId) : (Ent.bytes b e (.slice none 0 0) []).holds w := (OwnB.nil w b e).own
theorem Fr.pushNil {X : List Nat} {w0 w : World} {es : List Ent} (h : Fr X w0 w es) (e : TypeId) : Fr X w0 w (Ent.bytes w0.heap.size e (.slice none 0 0) [] :: es) :=
  h.push (OwnB.nilE w _ e) fun b hb => by cases hb
end Go.Proofs.YtdekogmegdhjoaaDoor
