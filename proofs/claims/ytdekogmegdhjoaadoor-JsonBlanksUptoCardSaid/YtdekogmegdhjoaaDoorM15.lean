/-
  Layer 6: a value that came in. No program is named here.
  Layer 6: the walk of the program's Write.
  Layer 6, plain words: how many values a value has; which values are right, as the document counts it. No program is named here.
  Layer 6, plain law: texts that are read are texts. No program is named here.
  Layer 6, plain law: what is read is right, bare, and not too long when it is written. No program is named here.
  Layer 6, plain law: a text that is written is read as that text. No program is named here.
-/
import Derived.Test.YtdekogmegdhjoaaDoorM01
import Derived.Test.YtdekogmegdhjoaaDoorM14
import Derived.Test.YtdekogmegdhjoaaDoorM11
import Derived.Test.YtdekogmegdhjoaaDoorM03
import Derived.Lib.ValidLaws
namespace Go.Proofs.YtdekogmegdhjoaaDoor
open Go.ChangeShapes Go.WideShapes Go.ChangeAt Go.RowKit

mutual
/-- How much a value is. -/
def jW : JV → Nat
  | .mk _ _ t ns ks => t.length + (ns.map (·.length + 1)).sum + jWL ks + 1
def jWL : List JV → Nat
  | [] => 0
  | v :: vs => jW v + jWL vs
end
mutual
/-- A value's numbers are a machine's. -/
def JI : JV → Prop
  | .mk k n _ _ ks => (-9223372036854775808 ≤ k ∧ k ≤ 9223372036854775807) ∧ (-9223372036854775808 ≤ n ∧ n ≤ 9223372036854775807) ∧ JIL ks
def JIL : List JV → Prop
  | [] => True
  | v :: vs => JI v ∧ JIL vs
end
theorem jWL_len : ∀ ks : List JV, ks.length ≤ jWL ks
  | [] => Nat.zero_le _
  | .mk k n t ns ks' :: vs => by
    have := jWL_len vs
    rw [jWL, jW, List.length_cons]
    omega
theorem jWn_len : ∀ ns : List (List UInt8), ns.length ≤ (ns.map (·.length + 1)).sum
  | [] => Nat.zero_le _
  | n :: ns => by
    have := jWn_len ns
    rw [List.map_cons, List.sum_cons, List.length_cons]
    omega
theorem jWn_mem : ∀ {ns : List (List UInt8)} {s : List UInt8}, s ∈ ns → s.length + 1 ≤ (ns.map (·.length + 1)).sum
  | [], _, h => by cases h
  | n :: ns, s, h => by
    rw [List.map_cons, List.sum_cons]
    rcases List.mem_cons.1 h with rfl | h
    · omega
    · have := jWn_mem h; omega
mutual
theorem jW_sm : ∀ (v : JV), jW v ≤ 1048576 → JSm v
  | .mk k n t ns ks, h => by
    rw [jW] at h
    rw [JSm]
    have h1 := jWL_len ks
    have h2 := jWn_len ns
    exact ⟨by omega, by omega, jWL_sm ks (by omega)⟩
theorem jWL_sm : ∀ (ks : List JV), jWL ks ≤ 1048576 → JSmL ks
  | [], _ => by rw [JSmL]; trivial
  | v :: vs, h => by
    rw [jWL] at h
    rw [JSmL]
    exact ⟨jW_sm v (by omega), jWL_sm vs (by omega)⟩
end
mutual
theorem jW_tx : ∀ (v : JV), jW v ≤ 1048576 → JTx v
  | .mk k n t ns ks, h => by
    rw [jW] at h
    rw [JTx]
    exact ⟨by omega, fun s hs => by have := jWn_mem hs; omega, jWL_tx ks (by omega)⟩
theorem jWL_tx : ∀ (ks : List JV), jWL ks ≤ 1048576 → JTxL ks
  | [], _ => by rw [JTxL]; trivial
  | v :: vs, h => by
    rw [jWL] at h
    rw [JTxL]
    exact ⟨jW_tx v (by omega), jWL_tx vs (by omega)⟩
end
theorem jWn_tail (ns : List (List UInt8)) : (ns.headD []).length + (ns.tail.map (·.length + 1)).sum ≤ (ns.map (·.length + 1)).sum := by
  cases ns with
  | nil => simp
  | cons n ns => simp [List.sum_cons]; try omega
mutual
theorem jW_full : ∀ (v : JV), JI v → (jFull v).length + 4 ≤ 30 * jW v
  | .mk k n t ns ks, h => by
    rw [JI] at h
    have hq := jQuote_len t
    have hi := itoa_len h.2.1.1 h.2.1.2
    have h5 := jWL_full ks true false ns h.2.2
    have h6 := jWL_full ks false false ns h.2.2
    rw [jFull, jW]
    split
    · simp; omega
    split
    · simp; omega
    split
    · simp; omega
    split
    · omega
    split
    · omega
    split
    · simp only [List.length_append, List.length_cons, List.length_nil]; omega
    · simp only [List.length_append, List.length_cons, List.length_nil]; omega
theorem jWL_full : ∀ (ks : List JV) (obj more : Bool) (ns : List (List UInt8)), JIL ks → (jFullL obj more ns ks).length ≤ 30 * jWL ks + 6 * (ns.map (·.length + 1)).sum
  | [], obj, more, ns, _ => by rw [jFullL]; simp
  | v :: vs, obj, more, ns, h => by
    rw [JIL] at h
    have h1 := jW_full v h.1
    have h2 := jWL_full vs obj true ns.tail h.2
    have h3 := jQuote_len (ns.headD [])
    have h4 := jWn_tail ns
    rw [jFullL, jWL]
    have hp : 1 ≤ jW v := by cases v; rw [jW]; omega
    simp only [List.length_append]
    have e1 : (if more = true then [(44 : UInt8)] else []).length ≤ 1 := by split <;> simp
    have e2 : (if obj = true then jQuote (ns.headD []) ++ [58] else []).length ≤ 6 * (ns.headD []).length + 3 := by
      split
      · simp only [List.length_append, List.length_cons, List.length_nil]; omega
      · simp
    omega
end

theorem sum_le {α : Type} {H : Type} {g : α → Nat} : ∀ (l : List α) (es : List (DataW H × List MemPlace)), l.length = es.length → (∀ (i : Nat) (u : α) (e : DataW H × List MemPlace), l[i]? = some u → es[i]? = some e → g u ≤ Rows.uptoBulk e.1) → (l.map g).sum ≤ Rows.uptoBulkAll (es.map (·.1))
  | [], [], _, _ => by simp [Rows.uptoBulkAll]
  | u :: l, e :: es, hl, h => by
    have h0 := h 0 u e rfl rfl
    have h1 := sum_le (g := g) l es (by simpa using hl) (fun i u e hu he => h (i + 1) u e (by simpa using hu) (by simpa using he))
    simp only [List.map_cons, List.sum_cons, Rows.uptoBulkAll]
    omega
  | [], _ :: _, hl, _ => by simp at hl
  | _ :: _, [], hl, _ => by simp at hl
section
variable {H : Type} {enc : TypeId × Value → H} {P : Program} {W : World} {hd : Bool} {fuel : Nat}
/-- A slice that came in, of elements of which something is known. -/
theorem slR_in {α : Type} {t e : TypeId} {sz : Nat} (ht : P.underlying t = some (.slice e)) (hc : P.cellsOf e = sz) (hpos : 0 < sz) {f : α → List Value} {g : α → Nat} {p : α → Prop} (hel : ∀ m cs x, m < fuel → DataW.trod enc P W 0 (fun _ => true) hd m e cs = some x → ∃ u : α, cs = f u ∧ (f u).length = sz ∧ p u ∧ g u ≤ Rows.uptoBulk x.1)
    {cs : List Value} {x : DataW H × List MemPlace} (h : DataW.trod enc P W 0 (fun _ => true) hd fuel t cs = some x) :
    ∃ (A : Option Addr) (len cap : Nat) (l : List α), cs = [.slice A len cap] ∧ len ≤ cap ∧ l.length = len ∧ Rd W (· < W.heap.size) A sz len (l.flatMap f) ∧ (∀ u ∈ l, (f u).length = sz ∧ p u) ∧ (l.map g).sum + 1 ≤ Rows.uptoBulk x.1 := by
  rcases DataW.trod_slice ht h with ⟨hcs, hx⟩ | ⟨a, len, cap, es, rest, n, hfu, hcs, hx, _, hl, hm, hlen, hat, hsp, _⟩
  · exact ⟨none, 0, 0, [], hcs, Nat.le_refl _, rfl, Rd.nil _ _ _ _, fun u hu => by simp at hu, by rw [hx]; simp [Rows.uptoBulk]⟩
  · have key : ∀ i, i < len → ∃ u : α, W.cells? 0 (a.add (i * sz)) sz = some (f u) ∧ (f u).length = sz ∧ p u ∧ ∀ e, es[i]? = some e → g u ≤ Rows.uptoBulk e.1 := fun i hi => by
      have h1 := hat i hi
      rw [hc, List.getElem?_eq_getElem (by omega), Option.bind_eq_some_iff] at h1
      obtain ⟨cs', h2, h3⟩ := h1
      obtain ⟨u, rfl, h4, h5, h6⟩ := hel n _ _ (by omega) h3
      exact ⟨u, h2, h4, h5, fun e he => by
        rw [List.getElem?_eq_getElem (by omega)] at he
        injection he with he
        rw [← he]; exact h6⟩
    obtain ⟨l, hll, hp⟩ := list_of len key
    have hone : ∀ u ∈ l, (f u).length = sz ∧ p u := fun u hu => by
      obtain ⟨i, hi⟩ := List.mem_iff_getElem?.1 hu
      exact ⟨(hp i u hi).2.1, (hp i u hi).2.2.1⟩
    have hcell : ∀ j v, (l.flatMap f)[j]? = some v → W.cell? (a.add j) = some v := fun j v hv => by
      obtain ⟨u, h1, h2⟩ := flat_at hpos (fun u hu => (hone u hu).1) hv
      obtain ⟨h3, _⟩ := hp _ u h1
      obtain ⟨_, _, h5⟩ := World.cells?_some h3
      have h6 := h5 (j % sz) (Nat.mod_lt _ hpos)
      rw [add_add, Nat.mul_comm, Nat.div_add_mod] at h6
      rw [h6]; exact h2
    have hfl : (l.flatMap f).length = len * sz := by rw [flat_len (fun u hu => (hone u hu).1), hll]
    refine ⟨some a, len, cap, l, hcs, hl, hll, ⟨hfl, fun _ => rfl, fun h0 => ?_, hcell⟩, hone, ?_⟩
    · have hlt : 0 < (l.flatMap f).length := by rw [hfl]; exact Nat.mul_pos h0 hpos
      have := hcell 0 _ (List.getElem?_eq_getElem hlt)
      have hb := World.block_lt_of_cell? W _ this
      have e : (a.add 0).block = a.block := by unfold Addr.add; split <;> rfl
      rw [e] at hb
      exact hb
    · have := sum_le (g := g) l es (by omega) (fun i u e hu he => (hp i u hu).2.2.2 e he)
      rw [hx]
      show _ ≤ Rows.uptoBulk (DataW.slice _ _)
      simp only [Rows.uptoBulk]
      omega
/-- The fields of a value: where, of which type, how many cells. -/
structure JVT (P : Program) (t : TypeId) (fs : Array Field) (f0 f1 f2 f3 f4 : Field) (us : TypeId) : Prop where
  und : P.underlying t = some (.struct fs)
  size : P.cellsOf t = 5
  at_ : fs = #[f0, f1, f2, f3, f4]
  off : [f0, f1, f2, f3, f4].map (fun f => (f.offset, P.cellsOf f.type)) = [(0, 1), (1, 1), (2, 1), (3, 1), (4, 1)]
  typ : [f0, f1, f2, f3, f4].map (fun f => P.underlying f.type) = [some (.int .i64), some (.int .i64), some .string, some (.slice us), some (.slice t)]
  str : P.underlying us = some .string
  sone : P.cellsOf us = 1
theorem flat_strv : ∀ l : List (List UInt8), l.flatMap (fun s => [strv s]) = l.map strv
  | [] => rfl
  | s :: l => by rw [List.flatMap_cons, flat_strv l]; rfl
theorem kids_of {S : Nat → Prop} : ∀ (l : List (JV × List Value)), (∀ u ∈ l, u.2.length = 5 ∧ VRd W S u.1 u.2 ∧ JI u.1) → VRdL W S (l.map (·.1)) (l.flatMap (·.2)) ∧ JIL (l.map (·.1))
  | [], _ => by simp [VRdL, JIL]
  | u :: l, h => by
    obtain ⟨h1, h2⟩ := kids_of l (fun x hx => h x (by simp [hx]))
    obtain ⟨_, h3, h4⟩ := h u (by simp)
    rw [List.map_cons, List.flatMap_cons, VRdL, JIL]
    exact ⟨⟨_, _, rfl, h3, h1⟩, h4, h2⟩
theorem kids_w : ∀ (l : List (JV × List Value)), jWL (l.map (·.1)) = (l.map (fun u => jW u.1)).sum
  | [] => rfl
  | u :: l => by rw [List.map_cons, jWL, kids_w l]; rfl
theorem five_sum {H : Type} {xs : List (DataW H × List MemPlace)} (h : xs.length = 5) : ∃ x0 x1 x2 x3 x4, xs = [x0, x1, x2, x3, x4] := by
  match xs, h with
  | [x0, x1, x2, x3, x4], _ => exact ⟨_, _, _, _, _, rfl⟩
theorem jval_in' {t us : TypeId} {fs : Array Field} {f0 f1 f2 f3 f4 : Field} (T : JVT P t fs f0 f1 f2 f3 f4 us) : ∀ (N fuel : Nat) (cs : List Value) (x : DataW H × List MemPlace), fuel ≤ N → DataW.trod enc P W 0 (fun _ => true) hd fuel t cs = some x →
    ∃ v : JV, VRd W (· < W.heap.size) v cs ∧ cs.length = 5 ∧ JI v ∧ jW v ≤ Rows.uptoBulk x.1 := by
  intro N
  induction N with
  | zero =>
    intro fuel cs x hN h
    obtain rfl : fuel = 0 := by omega
    simp [DataW.trod] at h
  | succ N ih =>
    intro fuel cs x hN h
    obtain ⟨xs, n, rfl, hx, hlen, hxl, hg⟩ := DataW.trod_struct T.und h
    rw [T.at_] at hxl
    obtain ⟨x0, x1, x2, x3, x4, rfl⟩ := five_sum hxl
    have ho := T.off
    have ht := T.typ
    simp only [List.map_cons, List.map_nil, List.cons.injEq, Prod.mk.injEq, and_true] at ho ht
    obtain ⟨⟨o0, z0⟩, ⟨o1, z1⟩, ⟨o2, z2⟩, ⟨o3, z3⟩, ⟨o4, z4⟩⟩ := ho
    obtain ⟨u0, u1, u2, u3, u4⟩ := ht
    have g0 := hg 0 f0 (by rw [T.at_]; rfl)
    have g1 := hg 1 f1 (by rw [T.at_]; rfl)
    have g2 := hg 2 f2 (by rw [T.at_]; rfl)
    have g3 := hg 3 f3 (by rw [T.at_]; rfl)
    have g4 := hg 4 f4 (by rw [T.at_]; rfl)
    rw [o0, z0] at g0
    rw [o1, z1] at g1
    rw [o2, z2] at g2
    rw [o3, z3] at g3
    rw [o4, z4] at g4
    obtain ⟨k, e0, w0⟩ := ints_in u0 g0
    obtain ⟨m, e1, w1⟩ := ints_in u1 g1
    obtain ⟨s, e2, b2⟩ := strs_in u2 g2
    obtain ⟨An, nn, cn, ln, e3, hn1, hn2, hn3, hn4, hn5⟩ := slR_in (α := List UInt8) (f := fun s => [strv s]) (g := fun s => s.length + 1) (p := fun _ => True) u3 T.sone (by decide) (fun m cs x _ h => by
      obtain ⟨s, hs, hb⟩ := strs_in T.str h
      exact ⟨s.data.toList, by rw [hs]; rfl, rfl, trivial, by rw [str_len]; exact hb⟩) g3
    obtain ⟨Ak, nk, ck, lk, e4, hk1, hk2, hk3, hk4, hk5⟩ := slR_in (α := JV × List Value) (f := (·.2)) (g := fun u => jW u.1) (p := fun u => VRd W (· < W.heap.size) u.1 u.2 ∧ JI u.1) u4 T.size (by decide) (fun m cs x hm h => by
      obtain ⟨v, h1, h2, h3, h4⟩ := ih m cs x (by omega) h
      exact ⟨(v, cs), rfl, h2, ⟨h1, h3⟩, h4⟩) g4
    rw [T.size] at hlen
    rw [flat_strv] at hn3
    obtain ⟨hv, hi⟩ := kids_of lk hk4
    refine ⟨.mk k m s.data.toList ln (lk.map (·.1)), ?_, hlen, ?_, ?_⟩
    · rw [VRd]
      refine ⟨An, nn, cn, Ak, nk, ck, lk.flatMap (·.2), hn1, hk1, ?_, hn3, hk3, hv⟩
      rw [show cs = cs.drop 0 from rfl, cut_at cs 0 1, e0, cut_at cs (0 + 1) 1, e1, cut_at cs (0 + 1 + 1) 1, e2, cut_at cs (0 + 1 + 1 + 1) 1, e3, cut_at cs (0 + 1 + 1 + 1 + 1) 1, e4, List.drop_of_length_le (by omega)]
      rfl
    · rw [JI]
      exact ⟨i64_of_wf w0, i64_of_wf w1, hi⟩
    · rw [hx, jW, kids_w]
      simp only [List.map_cons, List.map_nil, Rows.uptoBulk, Rows.uptoBulkAll]
      have : s.data.toList.length = s.size := str_len s
      omega
theorem jval_in {t us : TypeId} {fs : Array Field} {f0 f1 f2 f3 f4 : Field} (T : JVT P t fs f0 f1 f2 f3 f4 us) {r : Reach} {b0 : Nat} {v : Value} {d : DataW H} {ps : List MemPlace} (hv : Value.okWide P W r b0 t v) (h : DataW.Trod enc P W 0 (fun _ => true) hd t v d ps) :
    ∃ (q : JV) (cs : List Value), v = .agg cs.toArray ∧ VRd W (· < W.heap.size) q cs ∧ JI q ∧ jW q ≤ Rows.uptoBulk d := by
  obtain ⟨cs, rfl, hsz⟩ := okWide_struct T.und hv
  obtain ⟨fuel, hf⟩ := h
  obtain ⟨q, h1, h2, h3, h4⟩ := jval_in' T fuel fuel cs.toList (d, ps) (Nat.le_refl _) hf
  exact ⟨q, cs.toList, by simp, h1, h3, h4⟩
end
end Go.Proofs.YtdekogmegdhjoaaDoor

namespace Go.Proofs.YtdekogmegdhjoaaDoor
open Go.RowKit
set_option linter.unusedSimpArgs false

theorem jRightL_ok {f : JV → Nat → Option Nat} (hf : ∀ v m x, f v m = some x → JOk v) {obj : Bool} : ∀ {ks : List JV} {seen ns : List (List UInt8)} {m x : Nat}, jRightL f obj seen ns ks m = some x → JOkL ks
  | [], _, _, _, _, _ => by rw [JOkL]; trivial
  | v :: vs, seen, ns, m, x, h => by
    rw [jRightL] at h
    split at h
    · cases h
    · cases hv : f v m with
      | none => rw [hv] at h; cases h
      | some m' =>
        rw [hv] at h
        rw [JOkL]
        exact ⟨hf _ _ _ hv, jRightL_ok hf h⟩
theorem jRight_ok : ∀ {d : Nat} (v : JV) (m x : Nat), jRight d v m = some x → JOk v
  | 0, .mk k n t ns ks, m, x, h => by
    rw [jRight] at h
    split at h
    · cases h
    · rename_i hb
      unfold jBad at hb
      split at h
      · rw [JOk]; left; omega
      · cases h
  | d + 1, .mk k n t ns ks, m, x, h => by
    rw [jRight] at h
    split at h
    · cases h
    · rename_i hb
      unfold jBad at hb
      split at h
      · rw [JOk]; left; omega
      · split at h
        · cases h
        · rename_i h5 h6
          have hk := jRightL_ok (fun v m x => jRight_ok (d := d) v m x) h
          rw [JOk]
          right
          by_cases hk6 : k = 6
          · right; exact ⟨hk6, Decidable.byContradiction (fun hl => h6 ⟨hk6, hl⟩), hk⟩
          · left; exact ⟨by omega, hk⟩
/-- What Write tells: the text of a value that is right, if it is not too long. -/
def jWrite (v : JV) : List UInt8 × Nat :=
  match jRight 16 v 0 with
  | none => ([], 1)
  | some _ => if 65536 < (jFull v).length then ([], 8) else (jFull v, 0)
def WriteEnd (w : World) (v : JV) (e : Ending) (w' : World) : Prop :=
  ∃ u, e = .returned (.tuple #[u, .int .i64 ((jWrite v).2 : Int)]) ∧ Fr [] w w' [Ent.bytes w.heap.size 5 u (jWrite v).1]

set_option maxRecDepth 20000 in
set_option maxHeartbeats 6400000 in
theorem write_any (v : JV) (cs : List Value) (w : World) (hL : LibsAt w.heap.size w) (hv : VRd w (· < w.heap.size) v cs) (hsm : JSm v) (htx : JTx v) (hfl : 6 * (jFull v).length ≤ 140737480000000) :
    Calls Tryd.prog 21 #[.agg cs.toArray] w (WriteEnd w v) := by
  have hcl := box hv.len
  have hco := box (VRd.one hv)
  have hF0 := Fr.nil w
  go_enter Tryd.func21, Tryd.ntmps21
  go_wp2_with (first | ((with_reducible refine lst (by with_unfolding_all rfl) (wp_fbox hF0 (cs := cs) rfl (by with_unfolding_all rfl) (by with_unfolding_all rfl) ?_)); intro w1 g1 hF1 hz1) | ((with_reducible refine lst (by with_unfolding_all rfl) (wp_falloc hF1 (cs := [(.int .i64 0)]) (z := (.int .i64 0)) rfl (by kernel_rfl) (by with_unfolding_all rfl) ?_)); intro w2 g2 hF2 hz2) | ((with_reducible refine lst (by with_unfolding_all rfl) (wp_fst0 hF2 (by with_unfolding_all exact ⟨_, _, rfl, rfl, rfl⟩) (by kernel_rfl) rfl rfl (by first | decide | (simp; done) | (simp; omega)) (spl1' _ (.int .i64 0)) ?_)); intro w3 hF3 hz3) | (with_reducible refine lst (by with_unfolding_all rfl) (wp_fldA1 hF3 Tryd.underlying27 rfl (by with_unfolding_all exact ⟨_, rfl, rfl⟩) (ds := cs) (by rw [hcl.out]; kernel_rfl) (take_all _) ?_)))
  have hg2 : w.heap.size ≤ g2 := by
    rcases hF3.fresh 0 _ rfl _ rfl with h | h
    · exact h
    · simp at h
  have hb3 := hF3.below
  have hri := right_any 16 0 v cs w3 g2 0 w.heap.size rfl (by omega) (hL.on hb3) (hF3.blk (i := 0) rfl) hg2 hF3.size (hv.onG hb3) hsm htx
  refine hri.mono ?_
  rintro e w4 ⟨m4, rfl, hx4, h4⟩
  have hF4 := hF3.putF (i := 0) rfl h4
  simp only [List.set_cons_zero] at hF4
  clear hri h4 hF0 hF1 hF2 hF3
  cases hr : jRight 16 v 0 with
  | none =>
    have hw : Box (jWrite v = ([], 1)) := box (by unfold jWrite; rw [hr])
    simp only [Option.isSome_none]
    go_wp2_with fail
    go_ret2
    unfold WriteEnd
    rw [hw.out]
    exact ⟨_, rfl, hF4.tail.tail.pushNil _⟩
  | some x =>
    have hok := jRight_ok v 0 x hr
    have hw : Box (jWrite v = if 65536 < (jFull v).length then ([], 8) else (jFull v, 0)) := box (by unfold jWrite; rw [hr])
    simp only [Option.isSome_some]
    have hF5 := hF4.pushNil 5
    have hNU : NotU8 [Ent.blk g2 3 [.int .i64 (m4 : Int)], .blk g1 27 cs] := NotU8.cons (NotU8.cons (fun e he => by cases he) (by decide)) (by decide)
    have hwr := written_any (SizeOf.sizeOf v) v cs w w4 none 0 [] _ (Nat.le_refl _) hv hsm hok hL hNU (by simp; omega) hF5
    go_wp2_with (first | (with_reducible refine lst (by with_unfolding_all rfl) (wp_fldA1 hF4 Tryd.underlying27 rfl (by with_unfolding_all exact ⟨_, rfl, rfl⟩) (ds := cs) (by rw [hcl.out]; kernel_rfl) (take_all _) ?_)))
    refine hwr.mono ?_
    rintro e w6 ⟨u6, l6, rfl, hl6, hF6⟩
    obtain ⟨A6, c6, rfl, hc6, hr6⟩ := (hF6.own (i := 0) rfl).arg
    clear hwr hF5 hF4
    have hl7 := hl6.out
    rw [List.nil_append] at hl7
    by_cases hbig : 65536 < l6.length
    · have d1 : decide ((65536 : Int) < (l6.length : Int)) = true := decide_eq_true (by omega)
      have hend : Box (jWrite v = ([], 8)) := box (by rw [hw.out, if_pos (by omega)])
      replace hbig := box hbig
      replace hl7 := box hl7
      go_wp2_with fail
      go_ret2
      unfold WriteEnd
      rw [hend.out]
      exact ⟨_, rfl, hF6.tail.tail.tail.pushNil _⟩
    · have d1 : decide ((65536 : Int) < (l6.length : Int)) = false := decide_eq_false (by omega)
      have he : l6 = jFull v := hl7.2.resolve_right hbig
      have hend : Box (jWrite v = (l6, 0)) := box (by rw [hw.out, if_neg (by rw [← he]; exact hbig), he])
      replace hbig := box hbig
      replace hl7 := box hl7
      replace he := box he
      go_wp2_with fail
      go_ret2
      unfold WriteEnd
      rw [hend.out]
      exact ⟨_, rfl, hF6.pick1 (i := 0) rfl⟩
end Go.Proofs.YtdekogmegdhjoaaDoor

namespace Go.Proofs.YtdekogmegdhjoaaDoor
open Go.Lib
set_option linter.unusedSimpArgs false

mutual
/-- How many values a value has in all. -/
def jTot : JV → Nat
  | .mk k _ _ _ ks => if 5 ≤ k then 1 + jTotL ks else 1
def jTotL : List JV → Nat
  | [] => 0
  | v :: vs => jTot v + jTotL vs
end
mutual
/-- .. as far as so many and one more. -/
def jCnt : JV → Nat → Nat
  | .mk k _ _ _ ks, most => if 5 ≤ k then jCntL ks most 1 else 1
def jCntL : List JV → Nat → Nat → Nat
  | [], _, n => n
  | v :: vs, most, n => if n ≤ most then jCntL vs most (n + jCnt v (most - n)) else n
end
mutual
theorem jCnt_tot : ∀ (v : JV) (most : Nat), (jTot v ≤ most → jCnt v most = jTot v) ∧ (most < jTot v → 0 < most → most < jCnt v most) ∧ jCnt v most ≤ jTot v ∧ 1 ≤ jCnt v most
  | .mk k n t ns ks, most => by
    rw [jTot, jCnt]
    by_cases hk : 5 ≤ k
    · rw [if_pos hk, if_pos hk]
      have := jCntL_tot ks most 1
      exact ⟨fun h => this.1 (by omega), fun h _ => this.2.1 h, this.2.2.1, by have := this.2.2.2; omega⟩
    · rw [if_neg hk, if_neg hk]
      exact ⟨fun _ => rfl, fun h h0 => by omega, Nat.le_refl _, Nat.le_refl _⟩
theorem jCntL_tot : ∀ (ks : List JV) (most n : Nat), (n + jTotL ks ≤ most → jCntL ks most n = n + jTotL ks) ∧ (most < n + jTotL ks → most < jCntL ks most n) ∧ jCntL ks most n ≤ n + jTotL ks ∧ n ≤ jCntL ks most n
  | [], most, n => by rw [jTotL, jCntL]; exact ⟨fun _ => rfl, fun h => h, Nat.le_refl _, Nat.le_refl _⟩
  | v :: vs, most, n => by
    rw [jTotL, jCntL]
    by_cases hn : n ≤ most
    · rw [if_pos hn]
      obtain ⟨h1, h2, h3, h4⟩ := jCnt_tot v (most - n)
      obtain ⟨g1, g2, g3, g4⟩ := jCntL_tot vs most (n + jCnt v (most - n))
      refine ⟨fun h => ?_, fun h => ?_, by omega, by omega⟩
      · have := h1 (by omega)
        have := g1 (by omega)
        omega
      · by_cases hv : jTot v ≤ most - n
        · have := h1 hv
          exact g2 (by omega)
        · by_cases h0 : 0 < most - n
          · have := h2 (by omega) h0
            omega
          · omega
    · rw [if_neg hn]
      exact ⟨fun h => by omega, fun _ => by omega, by omega, Nat.le_refl _⟩
end
theorem jCnt_most {v : JV} {most : Nat} (h0 : 0 < most) : most < jCnt v most ↔ most < jTot v := by
  obtain ⟨h1, h2, h3, _⟩ := jCnt_tot v most
  exact ⟨fun h => by omega, fun h => h2 h h0⟩
mutual
theorem jTot_w : ∀ (v : JV), jTot v ≤ jW v
  | .mk k n t ns ks => by
    have := jTotL_w ks
    rw [jTot, jW]
    split <;> omega
theorem jTotL_w : ∀ (ks : List JV), jTotL ks ≤ jWL ks
  | [] => Nat.le_refl _
  | v :: vs => by
    have h1 := jTot_w v
    have h2 := jTotL_w vs
    rw [jTotL, jWL]
    omega
end
theorem jTotL_drop {ks : List JV} {i : Nat} {v : JV} (hv : ks[i]? = some v) : jTotL (ks.drop i) = jTot v + jTotL (ks.drop (i + 1)) := by
  rw [List.drop_eq_getElem_cons (List.getElem?_eq_some_iff.1 hv).1, (List.getElem?_eq_some_iff.1 hv).2, jTotL]
theorem jCntL_drop {ks : List JV} {i most n : Nat} {v : JV} (hv : ks[i]? = some v) : jCntL (ks.drop i) most n = if n ≤ most then jCntL (ks.drop (i + 1)) most (n + jCnt v (most - n)) else n := by
  rw [List.drop_eq_getElem_cons (List.getElem?_eq_some_iff.1 hv).1, (List.getElem?_eq_some_iff.1 hv).2, jCntL]

/-- What no value is right with. -/
def jBadD (k n : Int) (t : List UInt8) : Prop := k < 0 ∨ 6 < k ∨ 9007199254740991 < n ∨ n < -9007199254740991 ∨ validD t = false
instance (k n : Int) (t : List UInt8) : Decidable (jBadD k n t) := by unfold jBadD; exact inferInstance
def jDRL (f : JV → Bool) (obj : Bool) : List (List UInt8) → List (List UInt8) → List JV → Bool
  | _, _, [] => true
  | seen, ns, v :: vs => f v && (!(obj && decide (ns.headD [] ∈ seen)) && (!(obj && !validD (ns.headD [])) && jDRL f obj (seen ++ [ns.headD []]) ns.tail vs))
/-- Is a value right, where so many lists and objects may still be nested, whatever number of values it has? -/
def jDR : Nat → JV → Bool
  | 0, .mk k n t _ _ => decide (¬ jBadD k n t) && decide (k < 5)
  | d + 1, .mk k n t ns ks => decide (¬ jBadD k n t) && (decide (k < 5) || (!decide (k = 6 ∧ ns.length ≠ ks.length) && jDRL (jDR d) (k == 6) [] ns ks))
theorem jBad_iff {k n : Int} {t : List UInt8} {m : Nat} : jBad k n t m ↔ 4096 < m + 1 ∨ jBadD k n t := by
  unfold jBad jBadD
  constructor
  · rintro (h | h | h | h | h | h) <;> simp [h]
  · rintro (h | h | h | h | h | h) <;> simp [h]
theorem jTot_pos (v : JV) : 1 ≤ jTot v := by cases v; rw [jTot]; split <;> omega
theorem jRightL_doc {f : JV → Nat → Option Nat} {g : JV → Bool} (hf : ∀ v m, f v m = if g v = true ∧ m + jTot v ≤ 4096 then some (m + jTot v) else none) {obj : Bool} : ∀ (ks : List JV) (seen ns : List (List UInt8)) (m : Nat),
    m ≤ 4096 → jRightL f obj seen ns ks m = if jDRL g obj seen ns ks = true ∧ m + jTotL ks ≤ 4096 then some (m + jTotL ks) else none
  | [], seen, ns, m, hm => by rw [jRightL, jDRL, jTotL, if_pos ⟨rfl, hm⟩]; rfl
  | v :: vs, seen, ns, m, hm => by
    rw [jRightL, jDRL, jTotL]
    by_cases hn : obj = true ∧ (validD (ns.headD []) = false ∨ ns.headD [] ∈ seen)
    · rw [if_pos hn, if_neg]
      rintro ⟨h, _⟩
      simp only [Bool.and_eq_true, Bool.not_eq_true', Bool.and_eq_false_iff, decide_eq_false_iff_not, Bool.not_eq_false'] at h
      obtain ⟨_, h1, h2, _⟩ := h
      rcases hn.2 with h3 | h3
      · rcases h2 with h2 | h2
        · rw [hn.1] at h2; cases h2
        · rw [h3] at h2; cases h2
      · rcases h1 with h1 | h1
        · rw [hn.1] at h1; cases h1
        · exact h1 h3
    · rw [if_neg hn, hf]
      have h1 : (!(obj && decide (ns.headD [] ∈ seen))) = true := by
        cases obj with
        | false => rfl
        | true => simp only [Bool.true_and, Bool.not_eq_true', decide_eq_false_iff_not]; exact fun h => hn ⟨rfl, .inr h⟩
      have h2 : (!(obj && !validD (ns.headD []))) = true := by
        cases obj with
        | false => rfl
        | true => simp only [Bool.true_and, Bool.not_not]; cases hv : validD (ns.headD []); exact absurd ⟨rfl, .inl hv⟩ hn; rfl
      rw [h1, h2]
      simp only [Bool.true_and]
      by_cases hg : g v = true ∧ m + jTot v ≤ 4096
      · rw [if_pos hg]
        simp only []
        rw [jRightL_doc hf vs _ _ _ hg.2, hg.1]
        simp only [Bool.true_and, Nat.add_assoc]
      · rw [if_neg hg, if_neg]
        rintro ⟨h3, h4⟩
        rw [Bool.and_eq_true] at h3
        exact hg ⟨h3.1, by omega⟩
/-- The program's count and the document's agree. -/
theorem jRight_doc : ∀ (d : Nat) (v : JV) (m : Nat), jRight d v m = if jDR d v = true ∧ m + jTot v ≤ 4096 then some (m + jTot v) else none
  | 0, .mk k n t ns ks, m => by
    rw [jRight, jDR, jTot]
    by_cases hb : jBad k n t m
    · rw [if_pos hb, if_neg]
      rintro ⟨h, h2⟩
      rw [Bool.and_eq_true, decide_eq_true_eq, decide_eq_true_eq] at h
      rcases jBad_iff.1 hb with h1 | h1
      · split at h2 <;> omega
      · exact h.1 h1
    · rw [if_neg hb]
      have hb2 : ¬ jBadD k n t := fun h => hb (jBad_iff.2 (.inr h))
      have hm : ¬ 4096 < m + 1 := fun h => hb (jBad_iff.2 (.inl h))
      by_cases hk : k < 5
      · rw [if_pos hk, if_neg (show ¬ 5 ≤ k by omega), if_pos ⟨by simp [hb2, hk], by omega⟩]
      · rw [if_neg hk, if_neg (by simp [hk])]
  | d + 1, .mk k n t ns ks, m => by
    rw [jRight, jDR, jTot]
    by_cases hb : jBad k n t m
    · rw [if_pos hb, if_neg]
      rintro ⟨h, h2⟩
      rw [Bool.and_eq_true, decide_eq_true_eq] at h
      rcases jBad_iff.1 hb with h1 | h1
      · split at h2 <;> omega
      · exact h.1 h1
    · rw [if_neg hb]
      have hb2 : ¬ jBadD k n t := fun h => hb (jBad_iff.2 (.inr h))
      have hm : ¬ 4096 < m + 1 := fun h => hb (jBad_iff.2 (.inl h))
      by_cases hk : k < 5
      · rw [if_pos hk, if_neg (show ¬ 5 ≤ k by omega), if_pos ⟨by simp [hb2, hk], by omega⟩]
      · rw [if_neg hk, if_pos (show 5 ≤ k by omega)]
        by_cases hl : k = 6 ∧ ns.length ≠ ks.length
        · rw [if_pos hl, if_neg (by simp [hk, hl])]
        · rw [if_neg hl, jRightL_doc (jRight_doc d) ks [] ns (m + 1) (by omega)]
          have e1 : (decide (¬ jBadD k n t) && (decide (k < 5) || (!decide (k = 6 ∧ ns.length ≠ ks.length) && jDRL (jDR d) (k == 6) [] ns ks))) = jDRL (jDR d) (k == 6) [] ns ks := by
            rw [decide_eq_true hb2, decide_eq_false hk, decide_eq_false hl]; rfl
          rw [e1]
          simp only [Nat.add_assoc]
/-- What the document's Write tells is what the program's does. -/
theorem jWrite_doc (v : JV) : jWrite v = if 4096 < jCnt v 4096 ∨ jDR 16 v = false then ([], 1) else if 65536 < (jFull v).length then ([], 8) else (jFull v, 0) := by
  unfold jWrite
  rw [jRight_doc, Nat.zero_add]
  by_cases h : 4096 < jCnt v 4096 ∨ jDR 16 v = false
  · rw [if_pos h, if_neg]
    rintro ⟨h1, h2⟩
    rcases h with h | h
    · have := (jCnt_most (v := v) (by decide)).1 h; omega
    · rw [h] at h1; cases h1
  · rw [if_neg h, if_pos]
    refine ⟨?_, ?_⟩
    · cases hd : jDR 16 v
      · exact absurd (.inr hd) h
      · rfl
    · rcases Nat.lt_or_ge 4096 (jTot v) with h1 | h1
      · exact absurd (.inl ((jCnt_most (by decide)).2 h1)) h
      · exact h1
end Go.Proofs.YtdekogmegdhjoaaDoor

namespace Go.Proofs.YtdekogmegdhjoaaDoor
open Go.Lib
set_option linter.unusedSimpArgs false
set_option linter.unusedVariables false

set_option maxRecDepth 100000 in
set_option maxHeartbeats 4000000 in
/-- The decoder's check at a lead byte from 128 on says what jSize says. -/
theorem check_jSize (c : UInt8) (t : List UInt8) (h0 : 128 ≤ c.toNat) :
    checkN (t.length + 1) (t.getD 0 0).toNat (t.getD 1 0).toNat (t.getD 2 0).toNat (firstT c.toNat % 8) (accLo (firstT c.toNat / 16)) (accHi (firstT c.toNat / 16)) = if jSize (c :: t) = 0 then none else some (jSize (c :: t)) := by
  have hc := c.toNat_lt
  have key : ∀ sz lo hi, firstT c.toNat % 8 = sz → accLo (firstT c.toNat / 16) = lo → accHi (firstT c.toNat / 16) = hi →
      checkN (t.length + 1) (t.getD 0 0).toNat (t.getD 1 0).toNat (t.getD 2 0).toNat sz lo hi = (if jSize (c :: t) = 0 then none else some (jSize (c :: t))) →
      checkN (t.length + 1) (t.getD 0 0).toNat (t.getD 1 0).toNat (t.getD 2 0).toNat (firstT c.toNat % 8) (accLo (firstT c.toNat / 16)) (accHi (firstT c.toNat / 16)) = if jSize (c :: t) = 0 then none else some (jSize (c :: t)) := fun sz lo hi e1 e2 e3 h => by
    rw [e1, e2, e3, h]
  by_cases c0 : c.toNat < 194
  · refine key (firstT c.toNat % 8) (accLo (firstT c.toNat / 16)) (accHi (firstT c.toNat / 16)) rfl rfl rfl ?_
    simp [checkN, jSize, firstT, show ¬ c.toNat < 128 by omega, show c.toNat < 194 by omega, show c.toNat < 224 by omega, show c.toNat < 240 by omega, show c.toNat < 245 by omega]
  by_cases c1 : c.toNat < 224
  · refine key 2 128 191 (by simp [firstT, show ¬ c.toNat < 128 by omega, c0, c1]) (by simp [firstT, accLo, show ¬ c.toNat < 128 by omega, c0, c1]) (by simp [firstT, accHi, show ¬ c.toNat < 128 by omega, c0, c1]) ?_
    rcases t with _ | ⟨x, _ | ⟨y, _ | ⟨z, t⟩⟩⟩ <;> simp [checkN, jSize, jCont, show ¬ c.toNat < 128 by omega, show ¬ c.toNat < 194 by omega, show c.toNat < 224 by omega, show c.toNat < 240 by omega, show c.toNat < 245 by omega] <;> (repeat' split) <;> first | omega | (simp_all; done) | (simp_all; omega)
  by_cases c2 : c.toNat = 224
  · refine key 3 160 191 (by rw [c2]; decide) (by rw [c2]; decide) (by rw [c2]; decide) ?_
    rcases t with _ | ⟨x, _ | ⟨y, _ | ⟨z, t⟩⟩⟩ <;> simp [checkN, jSize, jCont, show ¬ c.toNat < 128 by omega, show ¬ c.toNat < 194 by omega, show ¬ c.toNat < 224 by omega, show c.toNat < 240 by omega, show c.toNat < 245 by omega] <;> (repeat' split) <;> first | omega | (simp_all; done) | (simp_all; omega)
  by_cases c3 : c.toNat < 237
  · refine key 3 128 191 (by simp [firstT, show ¬ c.toNat < 128 by omega, c0, c1, c2, c3]) (by simp [firstT, accLo, show ¬ c.toNat < 128 by omega, c0, c1, c2, c3]) (by simp [firstT, accHi, show ¬ c.toNat < 128 by omega, c0, c1, c2, c3]) ?_
    rcases t with _ | ⟨x, _ | ⟨y, _ | ⟨z, t⟩⟩⟩ <;> simp [checkN, jSize, jCont, show ¬ c.toNat < 128 by omega, show ¬ c.toNat < 194 by omega, show ¬ c.toNat < 224 by omega, show c.toNat < 240 by omega, show c.toNat < 245 by omega] <;> (repeat' split) <;> first | omega | (simp_all; done) | (simp_all; omega)
  by_cases c4 : c.toNat = 237
  · refine key 3 128 159 (by rw [c4]; decide) (by rw [c4]; decide) (by rw [c4]; decide) ?_
    rcases t with _ | ⟨x, _ | ⟨y, _ | ⟨z, t⟩⟩⟩ <;> simp [checkN, jSize, jCont, show ¬ c.toNat < 128 by omega, show ¬ c.toNat < 194 by omega, show ¬ c.toNat < 224 by omega, show c.toNat < 240 by omega, show c.toNat < 245 by omega] <;> (repeat' split) <;> first | omega | (simp_all; done) | (simp_all; omega)
  by_cases c5 : c.toNat < 240
  · refine key 3 128 191 (by simp [firstT, show ¬ c.toNat < 128 by omega, c0, c1, c2, c3, c4, c5]) (by simp [firstT, accLo, show ¬ c.toNat < 128 by omega, c0, c1, c2, c3, c4, c5]) (by simp [firstT, accHi, show ¬ c.toNat < 128 by omega, c0, c1, c2, c3, c4, c5]) ?_
    rcases t with _ | ⟨x, _ | ⟨y, _ | ⟨z, t⟩⟩⟩ <;> simp [checkN, jSize, jCont, show ¬ c.toNat < 128 by omega, show ¬ c.toNat < 194 by omega, show ¬ c.toNat < 224 by omega, show c.toNat < 240 by omega, show c.toNat < 245 by omega] <;> (repeat' split) <;> first | omega | (simp_all; done) | (simp_all; omega)
  by_cases c6 : c.toNat = 240
  · refine key 4 144 191 (by rw [c6]; decide) (by rw [c6]; decide) (by rw [c6]; decide) ?_
    rcases t with _ | ⟨x, _ | ⟨y, _ | ⟨z, t⟩⟩⟩ <;> simp [checkN, jSize, jCont, show ¬ c.toNat < 128 by omega, show ¬ c.toNat < 194 by omega, show ¬ c.toNat < 224 by omega, show ¬ c.toNat < 240 by omega, show c.toNat < 245 by omega] <;> (repeat' split) <;> first | omega | (simp_all; done) | (simp_all; omega)
  by_cases c7 : c.toNat < 244
  · refine key 4 128 191 (by simp [firstT, show ¬ c.toNat < 128 by omega, c0, c1, c2, c3, c4, c5, c6, c7]) (by simp [firstT, accLo, show ¬ c.toNat < 128 by omega, c0, c1, c2, c3, c4, c5, c6, c7]) (by simp [firstT, accHi, show ¬ c.toNat < 128 by omega, c0, c1, c2, c3, c4, c5, c6, c7]) ?_
    rcases t with _ | ⟨x, _ | ⟨y, _ | ⟨z, t⟩⟩⟩ <;> simp [checkN, jSize, jCont, show ¬ c.toNat < 128 by omega, show ¬ c.toNat < 194 by omega, show ¬ c.toNat < 224 by omega, show ¬ c.toNat < 240 by omega, show c.toNat < 245 by omega] <;> (repeat' split) <;> first | omega | (simp_all; done) | (simp_all; omega)
  by_cases c8 : c.toNat = 244
  · refine key 4 128 143 (by rw [c8]; decide) (by rw [c8]; decide) (by rw [c8]; decide) ?_
    rcases t with _ | ⟨x, _ | ⟨y, _ | ⟨z, t⟩⟩⟩ <;> simp [checkN, jSize, jCont, show ¬ c.toNat < 128 by omega, show ¬ c.toNat < 194 by omega, show ¬ c.toNat < 224 by omega, show ¬ c.toNat < 240 by omega, show c.toNat < 245 by omega] <;> (repeat' split) <;> first | omega | (simp_all; done) | (simp_all; omega)
  refine key (firstT c.toNat % 8) (accLo (firstT c.toNat / 16)) (accHi (firstT c.toNat / 16)) rfl rfl rfl ?_
  simp [checkN, jSize, firstT, show ¬ c.toNat < 128 by omega, c0, c1, c2, c3, c4, c5, c6, c7, c8, show ¬ c.toNat < 240 by omega, show ¬ c.toNat < 245 by omega]
theorem validD_jSize (c : UInt8) (t : List UInt8) : validD (c :: t) = if jSize (c :: t) = 0 then false else validD ((c :: t).drop (jSize (c :: t))) := by
  by_cases h : c.toNat < 128
  · rw [validD_cons c t h, show jSize (c :: t) = 1 by simp [jSize, h]]
    rfl
  · rw [validD_lead (c :: t) (by simp) (by simpa using h)]
    have := check_jSize c t (by omega)
    simp only [List.length_cons, List.getD_cons_zero, List.getD_cons_succ] at this ⊢
    rw [this]
    by_cases h0 : jSize (c :: t) = 0
    · rw [if_pos h0, if_pos h0]
    · rw [if_neg h0, if_neg h0]

theorem jSize_take {l : List UInt8} {n : Nat} (h : jSize l ≠ 0) (hn : jSize l ≤ n) : jSize l ≤ l.length ∧ jSize (l.take n) = jSize l := by
  rcases l with _ | ⟨c, _ | ⟨x, _ | ⟨y, _ | ⟨z, t⟩⟩⟩⟩ <;> rcases n with _ | _ | _ | _ | n <;> simp only [jSize, List.take_zero, List.take_succ_cons, List.take_nil, List.length_cons, List.length_nil] at h hn ⊢ <;> (repeat' split at h) <;> simp_all <;> (repeat' split) <;> (try omega)
theorem jSize_app {l k : List UInt8} (h : jSize l ≠ 0) : jSize (l ++ k) = jSize l := by
  rcases l with _ | ⟨c, _ | ⟨x, _ | ⟨y, _ | ⟨z, t⟩⟩⟩⟩ <;> simp only [jSize, List.nil_append, List.cons_append] at h ⊢ <;> (repeat' split at h) <;> simp_all
theorem validD_app : ∀ (n : Nat) (a b : List UInt8), a.length ≤ n → validD a = true → validD b = true → validD (a ++ b) = true
  | _, [], b, _, _, hb => hb
  | 0, c :: t, b, hn, _, _ => by simp at hn
  | n + 1, c :: t, b, hn, ha, hb => by
    rw [validD_jSize] at ha
    by_cases h0 : jSize (c :: t) = 0
    · rw [if_pos h0] at ha; cases ha
    · rw [if_neg h0] at ha
      have hs := (jSize_take h0 (Nat.le_refl _)).1
      have he : jSize (c :: (t ++ b)) = jSize (c :: t) := jSize_app (l := c :: t) (k := b) h0
      rw [List.cons_append, validD_jSize, he, if_neg h0, ← List.cons_append, List.drop_append_of_le_length hs]
      refine validD_app n _ b ?_ ha hb
      rw [List.length_drop]
      simp only [List.length_cons] at hn ⊢
      omega
theorem valid_app {a b : List UInt8} (ha : validD a = true) (hb : validD b = true) : validD (a ++ b) = true := validD_app a.length a b (Nat.le_refl _) ha hb
theorem valid_take {l : List UInt8} (h : jSize l ≠ 0) : validD (l.take (jSize l)) = true := by
  obtain ⟨hl, ht⟩ := jSize_take h (Nat.le_refl _)
  cases hc : l.take (jSize l) with
  | nil => rfl
  | cons c t =>
    rw [hc] at ht
    rw [validD_jSize, ht, if_neg h, ← hc, List.drop_of_length_le (by rw [List.length_take]; omega)]
    rfl
theorem valid_whole {l : List UInt8} (h : jSize l ≠ 0) (hl : l.length ≤ jSize l) : validD l = true := by
  have := valid_take h
  rwa [List.take_of_length_le hl] at this
theorem ofNat_toNat' {n : Nat} (h : n < 256) : (UInt8.ofNat n).toNat = n := by
  rw [UInt8.toNat_ofNat']; omega
theorem valid_sign (n : Nat) (h : n < 55296 ∨ 57344 ≤ n ∧ n ≤ 1114111) : validD (jSign n) = true := by
  unfold jSign
  split
  · rw [validD_cons _ _ (by rw [ofNat_toNat' (by omega)]; assumption)]; rfl
  · split
    · have e : jSize [UInt8.ofNat (192 + n / 64), UInt8.ofNat (128 + n % 64)] = 2 := by
        simp only [jSize, jCont, ofNat_toNat' (show 192 + n / 64 < 256 by omega), ofNat_toNat' (show 128 + n % 64 < 256 by omega)]
        rw [if_neg (by omega), if_neg (by omega), if_pos (by omega), if_pos (by simp; omega)]
      exact valid_whole (by rw [e]; decide) (by rw [e]; exact Nat.le_refl _)
    · split
      · have e : jSize [UInt8.ofNat (224 + n / 4096), UInt8.ofNat (128 + n / 64 % 64), UInt8.ofNat (128 + n % 64)] = 3 := by
          simp only [jSize, jCont, ofNat_toNat' (show 224 + n / 4096 < 256 by omega), ofNat_toNat' (show 128 + n / 64 % 64 < 256 by omega), ofNat_toNat' (show 128 + n % 64 < 256 by omega)]
          rw [if_neg (by omega), if_neg (by omega), if_neg (by omega), if_pos (by omega), if_pos (by simp; omega)]
        exact valid_whole (by rw [e]; decide) (by rw [e]; exact Nat.le_refl _)
      · have e : jSize [UInt8.ofNat (240 + n / 262144), UInt8.ofNat (128 + n / 4096 % 64), UInt8.ofNat (128 + n / 64 % 64), UInt8.ofNat (128 + n % 64)] = 4 := by
          simp only [jSize, jCont, ofNat_toNat' (show 240 + n / 262144 < 256 by omega), ofNat_toNat' (show 128 + n / 4096 % 64 < 256 by omega), ofNat_toNat' (show 128 + n / 64 % 64 < 256 by omega), ofNat_toNat' (show 128 + n % 64 < 256 by omega)]
          rw [if_neg (by omega), if_neg (by omega), if_neg (by omega), if_neg (by omega), if_pos (by omega), if_pos (by simp; omega)]
        exact valid_whole (by rw [e]; decide) (by rw [e]; exact Nat.le_refl _)
theorem jHex_lt {c : UInt8} {d : Nat} (h : jHex c = some d) : d < 16 := by
  unfold jHex at h
  repeat' split at h
  all_goals first | (injection h with h; omega) | cases h
theorem jUnit_lt2 {b : List UInt8} {s : Nat} : ∀ {k n p x : Nat}, jUnit b s k n p = .ok x → x < (n + 1) * 16 ^ k
  | 0, n, p, x, h => by rw [jUnit] at h; injection h with h; rw [← h]; simp
  | k + 1, n, p, x, h => by
    rw [jUnit] at h
    split at h
    · cases h
    · split at h
      · cases h
      · rename_i d hd
        have h1 := jUnit_lt2 h
        have h2 := jHex_lt hd
        have h3 : (16 * n + d + 1) * 16 ^ k ≤ (n + 1) * 16 * 16 ^ k := Nat.mul_le_mul_right _ (by omega)
        rw [Nat.pow_succ, Nat.mul_comm (16 ^ k) 16, ← Nat.mul_assoc]
        omega
theorem valid_ascii1 {c : UInt8} (h : c.toNat < 128) : validD [c] = true := by rw [validD_cons _ _ h]; rfl
set_option maxRecDepth 20000 in
theorem valid_escape {b : List UInt8} {p q : Nat} {e : List UInt8} (h : jEscape b p = .ok (e, q)) : validD e = true := by
  unfold jEscape at h
  cases hb : b[p + 1]? with
  | none => rw [hb] at h; cases h
  | some c =>
    rw [hb] at h
    simp only [] at h
    by_cases c1 : c = 34 ∨ c = 92 ∨ c = 47
    · rw [if_pos c1] at h
      injection h with h; injection h with h1 h2; subst h1
      rcases c1 with rfl | rfl | rfl <;> decide
    rw [if_neg c1] at h
    by_cases c2 : c = 98
    · rw [if_pos c2] at h; injection h with h; injection h with h1 h2; subst h1; decide
    rw [if_neg c2] at h
    by_cases c3 : c = 102
    · rw [if_pos c3] at h; injection h with h; injection h with h1 h2; subst h1; decide
    rw [if_neg c3] at h
    by_cases c4 : c = 110
    · rw [if_pos c4] at h; injection h with h; injection h with h1 h2; subst h1; decide
    rw [if_neg c4] at h
    by_cases c5 : c = 114
    · rw [if_pos c5] at h; injection h with h; injection h with h1 h2; subst h1; decide
    rw [if_neg c5] at h
    by_cases c6 : c = 116
    · rw [if_pos c6] at h; injection h with h; injection h with h1 h2; subst h1; decide
    rw [if_neg c6] at h
    by_cases c7 : c = 117
    · rw [if_pos c7] at h
      cases hn : jUnit b p 4 0 (p + 2) with
      | error x => rw [hn] at h; cases h
      | ok n =>
        rw [hn] at h
        simp only [] at h
        have hn' := jUnit_lt2 hn
        by_cases s1 : 55296 ≤ n ∧ n < 56320
        · rw [if_pos s1] at h
          cases h6 : b[p + 6]? with
          | none => rw [h6] at h; cases h
          | some x =>
            rw [h6] at h
            simp only [] at h
            by_cases hx : x ≠ 92
            · rw [if_pos hx] at h; cases h
            rw [if_neg hx] at h
            cases h7 : b[p + 7]? with
            | none => rw [h7] at h; cases h
            | some y =>
              rw [h7] at h
              simp only [] at h
              by_cases hy : y ≠ 117
              · rw [if_pos hy] at h; cases h
              rw [if_neg hy] at h
              cases hm : jUnit b p 4 0 (p + 8) with
              | error x => rw [hm] at h; cases h
              | ok m =>
                rw [hm] at h
                simp only [] at h
                by_cases s2 : 56320 ≤ m ∧ m < 57344
                · rw [if_pos s2] at h; rw [← (Prod.mk.inj (Except.ok.inj h)).1]
                  exact valid_sign _ (by omega)
                · rw [if_neg s2] at h; cases h
        · rw [if_neg s1] at h
          by_cases s2 : 56320 ≤ n ∧ n < 57344
          · rw [if_pos s2] at h; cases h
          · rw [if_neg s2] at h; rw [← (Prod.mk.inj (Except.ok.inj h)).1]
            exact valid_sign _ (by omega)
    · rw [if_neg c7] at h; cases h
/-- What is read of a text is a text. -/
theorem valid_textL {b : List UInt8} : ∀ {f p : Nat} {out s : List UInt8} {q : Nat}, validD out = true → jTextL b f p out = .ok (s, q) → validD s = true
  | 0, p, out, s, q, ho, h => by rw [jTextL] at h; cases h
  | f + 1, p, out, s, q, ho, h => by
    rw [jTextL] at h
    split at h
    · cases h
    · split at h
      · injection h with h; injection h with h1 h2; subst h1; exact ho
      · split at h
        · split at h
          · cases h
          · rename_i he
            exact valid_textL (valid_app ho (valid_escape he)) h
        · split at h
          · cases h
          · split at h
            · cases h
            · rename_i hs
              exact valid_textL (valid_app ho (valid_take hs)) h
theorem valid_text {b s : List UInt8} {p q : Nat} (h : jText b p = .ok (s, q)) : validD s = true := by
  unfold jText at h
  split at h
  · cases h
  · exact valid_textL rfl h
end Go.Proofs.YtdekogmegdhjoaaDoor

namespace Go.Proofs.YtdekogmegdhjoaaDoor
open Go.Lib
set_option linter.unusedSimpArgs false
set_option linter.unusedVariables false

theorem jTextL_grow {b : List UInt8} : ∀ {f p : Nat} {out s : List UInt8} {q : Nat}, jTextL b f p out = .ok (s, q) → s.length + 2 ≤ out.length + 2 * (q - p) ∧ p < q
  | 0, p, out, s, q, h => by cases h
  | f + 1, p, out, s, q, h => by
    unfold jTextL at h
    cases hx : b[p]? with
    | none => rw [hx] at h; cases h
    | some c =>
      have hp := (List.getElem?_eq_some_iff.1 hx).1
      rw [hx] at h
      simp only [] at h
      split at h
      · obtain ⟨rfl, rfl⟩ := ok_pair h
        omega
      · split at h
        · cases he : jEscape b p with
          | error x => rw [he] at h; cases h
          | ok r =>
            obtain ⟨e, q1⟩ := r
            rw [he] at h
            have h1 := jEscape_len he
            have h2 := jTextL_grow h
            rw [List.length_append] at h2
            omega
        · split at h
          · cases h
          · split at h
            · cases h
            · have h2 := jTextL_grow h
              rw [List.length_append, List.length_take] at h2
              omega
theorem jText_grow {b : List UInt8} {p q : Nat} {s : List UInt8} (h : jText b p = .ok (s, q)) : s.length + 4 ≤ 2 * (q - p) := by
  unfold jText at h
  cases hw : jWord b [34] p with
  | error x => rw [hw] at h; cases h
  | ok q1 =>
    rw [hw] at h
    have h1 := (jWord_le hw).1
    have h2 := jTextL_grow h
    simp at h1 h2
    omega
theorem jName_ok {b : List UInt8} {p q : Nat} {ns : List (List UInt8)} {s : List UInt8} (h : jName b ns p = .ok (s, q)) : s.length + 4 ≤ 2 * (q - p) ∧ validD s = true ∧ s ∉ ns := by
  unfold jName at h
  cases hT : jText b p with
  | error x => rw [hT] at h; cases h
  | ok r =>
    obtain ⟨s1, q1⟩ := r
    rw [hT] at h
    have h1 := jText_grow hT
    simp only [] at h
    split at h
    · cases h
    · rename_i hn
      cases hw : jWord b [58] (jBlanks b q1) with
      | error x => rw [hw] at h; cases h
      | ok r =>
        rw [hw] at h
        obtain ⟨rfl, rfl⟩ := ok_pair h
        have h3 := (jWord_le hw).1
        have h4 := jBlanks_ge b q1
        have h5 := jBlanks_ge b r
        exact ⟨by omega, valid_text hT, hn⟩
mutual
/-- Only what a value's kind bears is there, and no list and no text is long. -/
def JGood (L : Nat) : JV → Prop
  | .mk k n t ns ks => 0 ≤ k ∧ k ≤ 6 ∧ (k ≠ 3 → n = 0) ∧ (k ≠ 4 → t = []) ∧ (k ≠ 6 → ns = []) ∧ (k < 5 → ks = []) ∧ t.length ≤ L ∧ (∀ s ∈ ns, s.length ≤ L) ∧ ns.length ≤ 4096 ∧ ks.length ≤ 4096 ∧ JGoodL L ks
def JGoodL (L : Nat) : List JV → Prop
  | [] => True
  | v :: vs => JGood L v ∧ JGoodL L vs
end
mutual
theorem JGood.sm {L : Nat} : ∀ (v : JV), JGood L v → JSm v
  | .mk k n t ns ks, h => by rw [JGood] at h; rw [JSm]; exact ⟨by omega, by omega, JGoodL.sm ks h.2.2.2.2.2.2.2.2.2.2⟩
theorem JGoodL.sm {L : Nat} : ∀ (ks : List JV), JGoodL L ks → JSmL ks
  | [], _ => by rw [JSmL]; trivial
  | v :: vs, h => by rw [JGoodL] at h; rw [JSmL]; exact ⟨JGood.sm v h.1, JGoodL.sm vs h.2⟩
end
mutual
theorem JGood.tx {L : Nat} (hL : L ≤ 140737488355328) : ∀ (v : JV), JGood L v → JTx v
  | .mk k n t ns ks, h => by rw [JGood] at h; rw [JTx]; exact ⟨by omega, fun s hs => Nat.le_trans (h.2.2.2.2.2.2.2.1 s hs) hL, JGoodL.tx hL ks h.2.2.2.2.2.2.2.2.2.2⟩
theorem JGoodL.tx {L : Nat} (hL : L ≤ 140737488355328) : ∀ (ks : List JV), JGoodL L ks → JTxL ks
  | [], _ => by rw [JTxL]; trivial
  | v :: vs, h => by rw [JGoodL] at h; rw [JTxL]; exact ⟨JGood.tx hL v h.1, JGoodL.tx hL vs h.2⟩
end
mutual
theorem JGood.wide {L L' : Nat} (hL : L ≤ L') : ∀ (v : JV), JGood L v → JGood L' v
  | .mk k n t ns ks, h => by
    rw [JGood] at h ⊢
    obtain ⟨a1, a2, a3, a4, a5, a6, a7, a8, a9, a10, a11⟩ := h
    exact ⟨a1, a2, a3, a4, a5, a6, Nat.le_trans a7 hL, fun s hs => Nat.le_trans (a8 s hs) hL, a9, a10, JGoodL.wide hL ks a11⟩
theorem JGoodL.wide {L L' : Nat} (hL : L ≤ L') : ∀ (ks : List JV), JGoodL L ks → JGoodL L' ks
  | [], _ => by rw [JGoodL]; trivial
  | v :: vs, h => by rw [JGoodL] at h ⊢; exact ⟨JGood.wide hL v h.1, JGoodL.wide hL vs h.2⟩
end
/-- What a value's reader tells. -/
def ValOk (b : List UInt8) (d : Nat) (val : Nat → Nat → JR (JV × Nat × Nat)) : Prop := ∀ (p m : Nat) (v : JV) (q m' : Nat), m ≤ 4096 → val p m = .ok (v, q, m') →
  jRight d v m = some m' ∧ JGood (2 * b.length) v ∧ (jFull v).length ≤ 12 * (q - p)
theorem jManyL_right {b : List UInt8} {kind : Int} {fin : UInt8} {d : Nat} {val : Nat → Nat → JR (JV × Nat × Nat)} (hl : ValLen b val) (hv : ValOk b d val) : ∀ {f p m : Nat} {names : List (List UInt8)} {kids : List JV} {v : JV} {q m' : Nat}, m ≤ 4096 → jManyL b kind fin val f p m names kids = .ok (v, q, m') →
    ∃ ns ks, v = .mk kind 0 [] (names ++ ns) (kids ++ ks) ∧ (kind = 6 → ns.length = ks.length) ∧ (kind ≠ 6 → ns = []) ∧ (∀ seen, (kind = 6 → seen = names) → jRightL (jRight d) (kind == 6) seen ns ks m = some m') ∧
      JGoodL (2 * b.length) ks ∧ (∀ s ∈ ns, s.length ≤ 2 * b.length) ∧ ks.length + m ≤ m' ∧ p < q ∧ q ≤ b.length ∧ ∀ more, (jFullL (kind == 6) more ns ks).length ≤ 12 * (q - p)
  | 0, _, _, _, _, _, _, _, _, h => by cases h
  | f + 1, p, m, names, kids, v, q, m', hm, h => by
    obtain ⟨s, q1, v1, r, m1, c, h1, h2, h3, h4⟩ := jManyL_step h
    have hl1 := hl _ _ _ _ _ hm h2
    obtain ⟨hr1, hg1, hf1⟩ := hv _ _ _ _ _ hm h2
    have hb := jBlanks_ge b r
    have hb2 := jBlanks_ge b (jBlanks b r + 1)
    have hq := (List.getElem?_eq_some_iff.1 h3).1
    have hname : (kind = 6 ∧ s.length + 4 ≤ 2 * (q1 - p) ∧ validD s = true ∧ s ∉ names ∧ q1 ≤ b.length ∧ p < q1) ∨ (kind ≠ 6 ∧ q1 = p) := by
      by_cases hk : kind = 6
      · rw [if_pos hk] at h1
        obtain ⟨a1, a2, a3⟩ := jName_ok h1
        have a4 := jName_len h1
        exact .inl ⟨hk, a1, a2, a3, a4.2, by omega⟩
      · rw [if_neg hk] at h1
        obtain ⟨_, rfl⟩ := ok_pair h1
        exact .inr ⟨hk, rfl⟩
    have hrest : ∃ ns ks, v = .mk kind 0 [] ((if kind = 6 then names ++ [s] else names) ++ ns) ((kids ++ [v1]) ++ ks) ∧ (kind = 6 → ns.length = ks.length) ∧ (kind ≠ 6 → ns = []) ∧ (∀ seen, (kind = 6 → seen = names ++ [s]) → jRightL (jRight d) (kind == 6) seen ns ks m1 = some m') ∧
        JGoodL (2 * b.length) ks ∧ (∀ s ∈ ns, s.length ≤ 2 * b.length) ∧ ks.length + m1 ≤ m' ∧ jBlanks b r < q ∧ q ≤ b.length ∧ (jFullL (kind == 6) true ns ks).length ≤ 12 * (q - (jBlanks b r + 1)) := by
      rcases h4 with h4 | h4
      · injection h4 with e1 e2
        injection e2 with e2 e3
        subst e1 e2 e3
        refine ⟨[], [], by rw [List.append_nil, List.append_nil], fun _ => rfl, fun _ => rfl, fun seen _ => by rw [jRightL], by rw [JGoodL]; trivial, (fun s hs => by cases hs), by simp, by omega, by omega, by rw [jFullL]; exact Nat.zero_le _⟩
      · obtain ⟨ns, ks, a1, a2, a3, a4, a5, a6, a7, a8, a9, a10⟩ := jManyL_right hl hv hl1.2.2.2 h4
        refine ⟨ns, ks, a1, a2, a3, fun seen hs => a4 seen fun hk => by rw [hs hk, if_pos hk], a5, a6, a7, by omega, a9, ?_⟩
        have := a10 true
        omega
    obtain ⟨ns, ks, a1, a2, a3, a4, a5, a6, a7, a8, a9, a10⟩ := hrest
    rcases hname with ⟨hk, n1, n2, n3, n4, n5⟩ | ⟨hk, hqp⟩
    · subst hk
      refine ⟨s :: ns, v1 :: ks, ?_, fun _ => by rw [List.length_cons, List.length_cons, a2 rfl], fun h => absurd rfl h, fun seen hs => ?_, by rw [JGoodL]; exact ⟨hg1, a5⟩, ?_, by rw [List.length_cons]; omega, by omega, a9, fun more => ?_⟩
      · rw [a1, if_pos rfl, List.append_assoc, List.append_assoc]; rfl
      · have hbad : ¬ (((6 : Int) == 6) = true ∧ (validD s = false ∨ s ∈ seen)) := fun h => by
          rcases h.2 with h | h
          · rw [n2] at h; cases h
          · rw [hs rfl] at h; exact n3 h
        rw [jRightL, List.headD_cons, List.tail_cons, if_neg hbad, hr1]
        exact a4 _ (fun _ => by rw [hs rfl])
      · intro x hx
        rcases List.mem_cons.1 hx with rfl | hx
        · omega
        · exact a6 x hx
      · rw [jFullL, List.headD_cons, List.tail_cons]
        have hql := jQuote_len s
        simp only [beq_self_eq_true, if_true, List.length_append, List.length_cons, List.length_nil] at a10 ⊢
        cases more <;> simp <;> omega
    · obtain rfl := a3 hk
      have hkb : (kind == 6) = false := by simpa using hk
      rw [hkb] at a4 a10 ⊢
      refine ⟨[], v1 :: ks, ?_, fun h => absurd h hk, fun _ => rfl, fun seen hs => ?_, by rw [JGoodL]; exact ⟨hg1, a5⟩, a6, by rw [List.length_cons]; omega, by omega, a9, fun more => ?_⟩
      · rw [a1, if_neg hk, List.append_assoc]; rfl
      · rw [jRightL, if_neg (by simp), hr1]
        exact a4 _ (fun h => absurd h hk)
      · rw [jFullL]
        simp only [List.length_append, List.tail_nil] at a10 ⊢
        cases more <;> simp <;> omega
theorem not_bad {k n : Int} {t : List UInt8} {m : Nat} (hm : m < 4096) (hk : 0 ≤ k ∧ k ≤ 6) (ht : validD t = true) (hn : -9007199254740991 ≤ n ∧ n ≤ 9007199254740991) : ¬ jBad k n t m := by
  unfold jBad
  rw [ht]
  rintro (h | h | h | h | h | h)
  · omega
  · omega
  · omega
  · cases h
  · omega
  · omega
theorem jFull_many {kind n : Int} {t : List UInt8} {ns : List (List UInt8)} {ks : List JV} (hk : kind = 5 ∨ kind = 6) : (jFull (.mk kind n t ns ks)).length = (jFullL (kind == 6) false ns ks).length + 2 := by
  rcases hk with rfl | rfl
  · rw [jFull]; simp
  · rw [jFull]; simp
theorem jMany_right {b : List UInt8} {kind : Int} {fin : UInt8} {d : Nat} {val : Nat → Nat → JR (JV × Nat × Nat)} (hl : ValLen b val) (hv : ValOk b d val) (hk : kind = 5 ∨ kind = 6) {p m : Nat} {v : JV} {q m' : Nat} (hm : m < 4096) (h : jMany b kind fin (some val) p (m + 1) = .ok (v, q, m')) :
    jRight (d + 1) v m = some m' ∧ JGood (2 * b.length) v ∧ (jFull v).length ≤ 12 * (q - p) := by
  unfold jMany at h
  simp only [] at h
  have hnb : ¬ jBad kind 0 [] m := not_bad hm (by omega) rfl (by omega)
  have hg := jBlanks_ge b (p + 1)
  have h5 : ¬ kind < 5 := by omega
  cases h3 : jNext b (jBlanks b (p + 1)) with
  | error z => rw [h3] at h; cases h
  | ok c =>
    rw [h3] at h
    simp only [] at h
    split at h
    · injection h with h
      injection h with h0 h
      injection h with h1 h2
      subst h0 h1 h2
      refine ⟨?_, ?_, ?_⟩
      · rw [jRight, if_neg hnb, if_neg h5, if_neg (by simp), jRightL]
      · rw [JGood]
        refine ⟨by omega, by omega, fun _ => rfl, fun _ => rfl, fun _ => rfl, fun _ => rfl, Nat.zero_le _, (fun s hs => by cases hs), Nat.zero_le _, Nat.zero_le _, ?_⟩
        rw [JGoodL]; trivial
      · rw [jFull_many hk, jFullL]
        simp only [List.length_nil]
        omega
    · obtain ⟨ns, ks, a1, a2, a3, a4, a5, a6, a7, a8, a9, a10⟩ := jManyL_right hl hv (by omega) h
      have hle := jManyL_len hl (by omega) h
      subst a1
      rw [List.nil_append, List.nil_append]
      refine ⟨?_, ?_, ?_⟩
      · rw [jRight, if_neg hnb, if_neg h5, if_neg (by rintro ⟨h6, hne⟩; exact hne (a2 h6))]
        exact a4 [] (fun _ => rfl)
      · rw [JGood]
        refine ⟨by omega, by omega, fun _ => rfl, fun _ => rfl, a3, fun h => absurd h h5, Nat.zero_le _, a6, ?_, by omega, a5⟩
        rcases Decidable.em (kind = 6) with h6 | h6
        · rw [a2 h6]; omega
        · rw [a3 h6]; exact Nat.zero_le _
      · rw [jFull_many hk]
        have := a10 false
        omega
theorem good_leaf {k n : Int} {t : List UInt8} {L : Nat} (hk : 0 ≤ k ∧ k < 5) (h3 : k ≠ 3 → n = 0) (h4 : k ≠ 4 → t = []) (ht : t.length ≤ L) : JGood L (.mk k n t [] []) := by
  rw [JGood]
  refine ⟨hk.1, by omega, h3, h4, fun _ => rfl, fun _ => rfl, ht, (fun s hs => by cases hs), Nat.zero_le _, Nat.zero_le _, ?_⟩
  rw [JGoodL]; trivial
theorem jValueW_right {b : List UInt8} {d : Nat} {val : Option (Nat → Nat → JR (JV × Nat × Nat))} (hv : ∀ f, val = some f → ValLen b f ∧ ∃ d', d = d' + 1 ∧ ValOk b d' f) : ValOk b d (jValueW b val) := by
  intro p m v q m' hm h
  unfold jValueW at h
  cases hx : b[p]? with
  | none => rw [hx] at h; cases h
  | some c =>
    have hp := (List.getElem?_eq_some_iff.1 hx).1
    rw [hx] at h
    simp only [] at h
    split at h
    · cases h
    · rename_i hm4
      have hm5 : m < 4096 := by omega
      have lit : ∀ {l : List UInt8} {k : Int}, 0 ≤ k ∧ k < 3 → jFull (.mk k 0 [] [] []) = l → jLit b l (.mk k 0 [] [] []) p (m + 1) = .ok (v, q, m') → jRight d v m = some m' ∧ JGood (2 * b.length) v ∧ (jFull v).length ≤ 12 * (q - p) := fun {l k} hk hl hj => by
        unfold jLit at hj
        cases hw : jWord b l p with
        | error z => rw [hw] at hj; cases hj
        | ok t =>
          rw [hw] at hj
          simp only [] at hj
          injection hj with hj
          injection hj with h0 hj
          injection hj with h1 h2
          subst h0 h1 h2
          have h3 := (jWord_le hw).1
          refine ⟨jRight_leaf (not_bad hm5 (by omega) rfl (by omega)) (by omega), good_leaf (by omega) (fun _ => rfl) (fun _ => rfl) (Nat.zero_le _), ?_⟩
          rw [hl]
          omega
      have many : ∀ {kind : Int} {fin : UInt8}, kind = 5 ∨ kind = 6 → jMany b kind fin val p (m + 1) = .ok (v, q, m') → jRight d v m = some m' ∧ JGood (2 * b.length) v ∧ (jFull v).length ≤ 12 * (q - p) := fun {kind fin} hk hj => by
        cases val with
        | none => cases hj
        | some f =>
          obtain ⟨hl, d', rfl, ho⟩ := hv f rfl
          exact jMany_right hl ho hk hm5 hj
      split at h
      · exact lit (k := 0) (by omega) (by rw [jFull]; rfl) h
      · split at h
        · exact lit (k := 1) (by omega) (by rw [jFull]; rfl) h
        · split at h
          · exact lit (k := 2) (by omega) (by rw [jFull]; rfl) h
          · split at h
            · cases hn : jNumber b p with
              | error z => rw [hn] at h; cases h
              | ok r =>
                obtain ⟨x, t⟩ := r
                rw [hn] at h
                injection h with h
                injection h with h0 h
                injection h with h1 h2
                subst h0 h1 h2
                have h4 := jNumber_len hp hn
                unfold jNumber at hn
                simp only [] at hn
                cases hj : jNum ((b.drop p).takeWhile jNumC) with
                | none => rw [hj] at hn; cases hn
                | some y =>
                  rw [hj] at hn
                  obtain ⟨rfl, rfl⟩ := ok_pair hn
                  obtain ⟨i1, _, i3, i4⟩ := jNum_lib hj
                  refine ⟨jRight_leaf (not_bad hm5 (by omega) rfl ⟨i3, i4⟩) (by omega), good_leaf (by omega) (fun h => absurd rfl h) (fun _ => rfl) (Nat.zero_le _), ?_⟩
                  rw [jFull, if_neg (by omega), if_neg (by omega), if_neg (by omega), if_pos rfl, i1]
                  omega
            · split at h
              · cases hn : jText b p with
                | error z => rw [hn] at h; cases h
                | ok r =>
                  obtain ⟨x, t⟩ := r
                  rw [hn] at h
                  injection h with h
                  injection h with h0 h
                  injection h with h1 h2
                  subst h0 h1 h2
                  have h4 := jText_len hn
                  have h5 := jText_grow hn
                  have h6 := jQuote_len x
                  refine ⟨jRight_leaf (not_bad hm5 (by omega) (valid_text hn) (by omega)) (by omega), good_leaf (by omega) (fun _ => rfl) (fun h => absurd rfl h) (by omega), ?_⟩
                  rw [jFull, if_neg (by omega), if_neg (by omega), if_neg (by omega), if_neg (by omega), if_pos rfl]
                  omega
              · split at h
                · exact many (.inl rfl) h
                · split at h
                  · exact many (.inr rfl) h
                  · cases h
theorem jValue_right {b : List UInt8} : ∀ (d : Nat), ValOk b d (jValue b d)
  | 0 => jValueW_right (d := 0) (val := none) (fun f hf => by cases hf)
  | d + 1 => jValueW_right (d := d + 1) (val := some (jValue b d)) (fun f hf => by injection hf with hf; subst hf; exact ⟨jValue_len d, d, rfl, jValue_right d⟩)
/-- What is read is right, bare, and not too long when it is written. -/
theorem jParse_right {b : List UInt8} {v : JV} (h : jParse b = .ok v) : (∃ x, jRight 16 v 0 = some x) ∧ JGood 131072 v ∧ (jFull v).length ≤ 786432 := by
  unfold jParse at h
  split at h
  · cases h
  · rename_i hl
    cases hj : jValue b 16 (jBlanks b 0) 0 with
    | error z => rw [hj] at h; cases h
    | ok r =>
      obtain ⟨v1, p, m⟩ := r
      rw [hj] at h
      simp only [] at h
      split at h
      · cases h
      · injection h with h
        subst h
        obtain ⟨h1, h2, h3⟩ := jValue_right 16 _ _ _ _ _ (by omega) hj
        have h4 := jValue_len 16 _ _ _ _ _ (by omega) hj
        exact ⟨⟨m, h1⟩, JGood.wide (by omega) _ h2, by omega⟩
end Go.Proofs.YtdekogmegdhjoaaDoor

namespace Go.Proofs.YtdekogmegdhjoaaDoor
open Go.Lib
set_option linter.unusedSimpArgs false
set_option linter.unusedVariables false

theorem at_drop {b l : List UInt8} {p : Nat} (h : b.drop p = l) (i : Nat) : b[p + i]? = l[i]? := by rw [← h, List.getElem?_drop]
theorem jHex_digit (n : Nat) (h : n < 16) : jHex (jHexD n) = some n := by
  have : ∀ n : Fin 16, jHex (jHexD n.val) = some n.val := by decide
  exact this ⟨n, h⟩
theorem jSign_small {c : UInt8} (h : c.toNat < 128) : jSign c.toNat = [c] := by
  unfold jSign
  rw [if_pos h, UInt8.ofNat_toNat]
theorem jTextL_esc {b : List UInt8} {p f : Nat} {out e : List UInt8} {q : Nat} (h : b[p]? = some 92) (he : jEscape b p = .ok (e, q)) : jTextL b (f + 1) p out = jTextL b f q (out ++ e) := by
  rw [jTextL, h]
  simp only []
  rw [if_neg (by decide), if_pos trivial, he]
theorem jQc_read {b rest out : List UInt8} {p f : Nat} {c : UInt8} (hc : c.toNat < 128) (h : b.drop p = jQc c ++ rest) : jTextL b (f + 1) p out = jTextL b f (p + (jQc c).length) (out ++ [c]) := by
  have h0 := at_drop h 0
  have h1 := at_drop h 1
  unfold jQc at h h0 h1 ⊢
  by_cases c1 : c = 34 ∨ c = 92
  · rw [if_pos c1] at h h0 h1 ⊢
    refine jTextL_esc (by simpa using h0) ?_
    unfold jEscape
    rw [show b[p + 1]? = some c by simpa using h1]
    simp only []
    rw [if_pos (by rcases c1 with h | h; exact .inl h; exact .inr (.inl h))]
    rfl
  rw [if_neg c1] at h h0 h1 ⊢
  by_cases c2 : c = 8
  · subst c2
    refine jTextL_esc (by simpa using h0) ?_
    unfold jEscape
    rw [show b[p + 1]? = some 98 by simpa using h1]
    rfl
  rw [if_neg c2] at h h0 h1 ⊢
  by_cases c3 : c = 9
  · subst c3
    refine jTextL_esc (by simpa using h0) ?_
    unfold jEscape
    rw [show b[p + 1]? = some 116 by simpa using h1]
    rfl
  rw [if_neg c3] at h h0 h1 ⊢
  by_cases c4 : c = 10
  · subst c4
    refine jTextL_esc (by simpa using h0) ?_
    unfold jEscape
    rw [show b[p + 1]? = some 110 by simpa using h1]
    rfl
  rw [if_neg c4] at h h0 h1 ⊢
  by_cases c5 : c = 12
  · subst c5
    refine jTextL_esc (by simpa using h0) ?_
    unfold jEscape
    rw [show b[p + 1]? = some 102 by simpa using h1]
    rfl
  rw [if_neg c5] at h h0 h1 ⊢
  by_cases c6 : c = 13
  · subst c6
    refine jTextL_esc (by simpa using h0) ?_
    unfold jEscape
    rw [show b[p + 1]? = some 114 by simpa using h1]
    rfl
  rw [if_neg c6] at h h0 h1 ⊢
  by_cases c7 : c.toNat < 32
  · rw [if_pos c7] at h h0 h1 ⊢
    refine jTextL_esc (by simpa using h0) ?_
    have h2 := at_drop h 2
    have h3 := at_drop h 3
    have h4 := at_drop h 4
    have h5 := at_drop h 5
    simp only [List.cons_append, List.getElem?_cons_zero, List.getElem?_cons_succ] at h1 h2 h3 h4 h5
    have hu : jUnit b p 4 0 (p + 2) = .ok c.toNat := by
      rw [jUnit, h2]
      simp only [show jHex 48 = some 0 from rfl]
      rw [jUnit, show p + 2 + 1 = p + 3 by omega, h3]
      simp only [show jHex 48 = some 0 from rfl]
      rw [jUnit, show p + 3 + 1 = p + 4 by omega, h4]
      simp only [jHex_digit (c.toNat / 16) (by omega)]
      rw [jUnit, show p + 4 + 1 = p + 5 by omega, h5]
      simp only [jHex_digit (c.toNat % 16) (by omega)]
      rw [jUnit]
      congr 1
      omega
    unfold jEscape
    rw [h1]
    simp only []
    rw [if_neg (by decide), if_neg (by decide), if_neg (by decide), if_neg (by decide), if_neg (by decide), if_neg (by decide), if_pos trivial, hu]
    simp only []
    rw [if_neg (by omega), if_neg (by omega), jSign_small hc]
    rfl
  · rw [if_neg c7] at h h0 h1 ⊢
    have hs : jSize (b.drop p) = 1 := by rw [h]; simp [jSize, hc]
    rw [jTextL, show b[p]? = some c by simpa using h0]
    simp only []
    rw [if_neg (fun h => c1 (.inl h)), if_neg (fun h => c1 (.inr h)), if_neg c7, if_neg (by rw [hs]; decide), hs, h]
    rfl
theorem jQc_high {c : UInt8} (h : 128 ≤ c.toNat) : jQc c = [c] := by
  have n : ∀ k : Nat, k < 128 → c ≠ UInt8.ofNat k := fun k hk he => by rw [he, ofNat_toNat' (by omega)] at h; omega
  unfold jQc
  rw [if_neg (by rintro (h | h); exact n 34 (by decide) h; exact n 92 (by decide) h), if_neg (show c ≠ 8 from n 8 (by decide)), if_neg (show c ≠ 9 from n 9 (by decide)), if_neg (show c ≠ 10 from n 10 (by decide)), if_neg (show c ≠ 12 from n 12 (by decide)), if_neg (show c ≠ 13 from n 13 (by decide)), if_neg (by omega)]
theorem jQs_high : ∀ (l : List UInt8), (∀ c ∈ l, 128 ≤ c.toNat) → l.flatMap jQc = l
  | [], _ => rfl
  | c :: l, h => by rw [List.flatMap_cons, jQc_high (h c (by simp)), jQs_high l (fun x hx => h x (by simp [hx]))]; rfl
theorem jSize_high {c : UInt8} {t : List UInt8} (h : 128 ≤ c.toNat) (h0 : jSize (c :: t) ≠ 0) : ∀ x ∈ (c :: t).take (jSize (c :: t)), 128 ≤ x.toNat := by
  unfold jSize at h0 ⊢
  rcases t with _ | ⟨x, _ | ⟨y, _ | ⟨z, t⟩⟩⟩ <;> simp only [] at h0 ⊢ <;> (repeat' split at h0) <;> simp_all [jCont] <;> (try (repeat' split)) <;> (try omega) <;> simp_all <;> (try omega)
theorem drop_app {b x y : List UInt8} {p : Nat} (h : b.drop p = x ++ y) : b.drop (p + x.length) = y := by rw [← List.drop_drop, h, List.drop_left]
theorem jTextL_written {b rest : List UInt8} : ∀ (n : Nat) (s out : List UInt8) (p f : Nat), s.length ≤ n → validD s = true → b.drop p = s.flatMap jQc ++ (34 :: rest) → s.length < f → jTextL b f p out = .ok (out ++ s, p + (s.flatMap jQc).length + 1)
  | _, [], out, p, f, _, _, h, hf => by
    obtain ⟨f, rfl⟩ : ∃ g, f = g + 1 := ⟨f - 1, by simp at hf; omega⟩
    have h0 : b[p]? = some 34 := by simpa using at_drop h 0
    rw [jTextL, h0]
    simp only []
    rw [if_pos trivial, List.append_nil]
    rfl
  | 0, c :: t, _, _, _, hn, _, _, _ => by simp at hn
  | n + 1, c :: t, out, p, f, hn, hv, h, hf => by
    obtain ⟨f, rfl⟩ : ∃ g, f = g + 1 := ⟨f - 1, by simp at hf; omega⟩
    simp only [List.length_cons] at hn hf
    by_cases hc : c.toNat < 128
    · rw [validD_cons c t hc] at hv
      rw [List.flatMap_cons, List.append_assoc] at h
      rw [jQc_read hc h, jTextL_written n t (out ++ [c]) (p + (jQc c).length) f (by omega) hv (drop_app h) (by omega), List.append_assoc, List.flatMap_cons, List.length_append, Nat.add_assoc p]
      rfl
    · rw [validD_jSize] at hv
      by_cases h0 : jSize (c :: t) = 0
      · rw [if_pos h0] at hv; cases hv
      rw [if_neg h0] at hv
      have hhi := jSize_high (by omega) h0
      obtain ⟨hk, hkt⟩ := jSize_take h0 (Nat.le_refl _)
      have hsp : c :: t = (c :: t).take (jSize (c :: t)) ++ (c :: t).drop (jSize (c :: t)) := (List.take_append_drop _ _).symm
      have hfm : (c :: t).flatMap jQc = (c :: t).take (jSize (c :: t)) ++ ((c :: t).drop (jSize (c :: t))).flatMap jQc := by
        have : ((c :: t).take (jSize (c :: t)) ++ (c :: t).drop (jSize (c :: t))).flatMap jQc = (c :: t).take (jSize (c :: t)) ++ ((c :: t).drop (jSize (c :: t))).flatMap jQc := by
          rw [List.flatMap_append, jQs_high _ hhi]
        rwa [← hsp] at this
      have hlen : ((c :: t).take (jSize (c :: t))).length = jSize (c :: t) := by rw [List.length_take]; omega
      have hdl : ((c :: t).drop (jSize (c :: t))).length ≤ t.length := by
        rw [List.length_drop]; simp only [List.length_cons] at hk ⊢; omega
      rw [hfm, List.append_assoc] at h
      have hb0 : b[p]? = some c := by
        have h1 := at_drop h 0
        rw [Nat.add_zero] at h1
        rw [h1]
        obtain ⟨k, hkk⟩ : ∃ k, jSize (c :: t) = k + 1 := ⟨jSize (c :: t) - 1, by omega⟩
        rw [hkk]
        rfl
      have hsz : jSize (b.drop p) = jSize (c :: t) := by
        rw [h, jSize_app (by rw [hkt]; exact h0), hkt]
      have hne : ∀ k : Nat, k < 128 → c ≠ UInt8.ofNat k := fun k hk he => by rw [he, ofNat_toNat' (by omega)] at hc; omega
      have htk : (b.drop p).take (jSize (c :: t)) = (c :: t).take (jSize (c :: t)) := by
        rw [h, List.take_append_of_le_length (by omega), List.take_of_length_le (by omega)]
      have hdr := drop_app h
      rw [hlen] at hdr
      rw [jTextL, hb0]
      simp only []
      rw [if_neg (show c ≠ 34 from hne 34 (by decide)), if_neg (show c ≠ 92 from hne 92 (by decide)), if_neg (by omega), hsz, if_neg h0, htk,
        jTextL_written n _ _ _ f (by omega) hv hdr (by omega), List.append_assoc, ← hsp, hfm, List.length_append, hlen, Nat.add_assoc p]
/-- A text that is written is read as that text. -/
theorem jText_written {b rest s : List UInt8} {p : Nat} (hv : validD s = true) (h : b.drop p = jQuote s ++ rest) : jText b p = .ok (s, p + (jQuote s).length) := by
  have h' : b.drop p = [34] ++ (s.flatMap jQc ++ (34 :: rest)) := by rw [h, jQuote]; simp
  have h0 : b[p]? = some 34 := by simpa using at_drop h' 0
  have hd := drop_app h'
  have hge := jQs_ge s
  have hl := congrArg List.length hd
  simp only [List.length_drop, List.length_append, List.length_cons, List.length_nil] at hl
  unfold jText
  rw [jWord, h0]
  simp only []
  rw [if_pos trivial, jWord]
  simp only []
  rw [jTextL_written s.length s [] (p + 1) _ (Nat.le_refl _) hv hd (by omega), jQuote]
  simp only [List.nil_append, List.length_append, List.length_cons, List.length_nil]
  congr 2
  omega
end Go.Proofs.YtdekogmegdhjoaaDoor
