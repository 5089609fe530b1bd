/-
  Laws over a frame of known blocks, further: texts turned into bytes, results that lie in cells, equality of arrays of bytes. No program is named here.
-/
import Derived.Test.YtdekogmegdhjoaaDoorFr2
namespace Go.Proofs.YtdekogmegdhjoaaDoor
open Go.RowKit

theorem take_all (cs : List Value) : (cs.drop 0).take cs.length = cs := by rw [List.drop_zero]; exact List.take_length
theorem spl_all {cs ds : List Value} (h : ds.length = cs.length) : spl cs 0 ds = ds := by
  unfold spl
  rw [List.take_zero, List.nil_append, Nat.zero_add, List.drop_of_length_le (by omega), List.append_nil]
section laws
variable {P : Program} {o : Oper} {a : Act} {X : List Nat} {w0 w : World} {es : List Ent} {K : Act → World → Prop} {Q : Exit → Act → World → Prop}
variable {i g : Nat} {t : TypeId} {cs : List Value}

/-- '[]byte(s)'. -/
theorem wp_fs2b {sl st e : TypeId} {size bytes : Nat} {z : Value} (T : SlT P sl e size bytes z) (he : P.underlying e = some (.int .u8)) (hst : P.underlying st = some .string) (hF : Fr X w0 w es) {s : ByteArray}
    (ho : IsCv o a st sl (.string s))
    (k : ∀ w' g c, Fr X w0 w' (.rd (some ⟨g, 0, none⟩) 1 s.size (s.data.toList.map bv) :: es) → w'.heap.size = w.heap.size + 1 → s.size ≤ c → K (a.put o.dst (.slice (some ⟨g, 0, none⟩) s.size c)) w') : o.wp P a w K Q := by
  obtain ⟨x, ho, hx⟩ := ho
  have hrun := Lib.run_convert_string_bytes (P := P) w st sl e s hst T.und he
  have hsz := Lib.bytesWorld_size w e s
  have hg : w.grownBy (Lib.bytesWorld w e s) none := ⟨rfl, rfl, rfl, by omega, fun j hj _ => Lib.bytesWorld_at_old w e s j hj⟩
  have hrd : Rd (Lib.bytesWorld w e s) (· < (Lib.bytesWorld w e s).heap.size) (some ⟨w.heap.size, 0, none⟩) 1 s.size (s.data.toList.map bv) := by
    refine ⟨by simp, fun _ => rfl, fun _ => by show w.heap.size < _; omega, fun j u hu => ?_⟩
    have hat : atp (some ⟨w.heap.size, 0, none⟩) j = ⟨w.heap.size, j, none⟩ := by
      unfold atp Addr.add
      by_cases hj : j = 0 <;> simp [hj]
    have hj : j < s.size := by
      have := (List.getElem?_eq_some_iff.1 hu).1
      rw [List.length_map, str_len] at this; exact this
    rw [hat, Lib.bytesWorld_cell w e s j hj]
    rw [List.getElem?_map] at hu
    cases hq : s.data.toList[j]? with
    | none => rw [hq] at hu; cases hu
    | some c =>
      rw [hq] at hu
      rw [List.getD_eq_getElem?_getD, hq]
      exact hu
  have hF' := hF.more hg (e := .rd (some ⟨w.heap.size, 0, none⟩) 1 s.size (s.data.toList.map bv)) ⟨hrd, fun a ha => by injection ha with ha; subst ha; show w.heap.size < _; omega⟩
    (fun b hb => by
      have hb : some w.heap.size = some b := hb
      injection hb with hb; omega)
  refine wp_run (v := .slice (some ⟨w.heap.size, 0, none⟩) s.size (grownCap w s.size 0 e)) (w' := Lib.bytesWorld w e s) ?_ (k _ _ _ hF' hsz (grownCap_ge w s.size 0 e))
  unfold execOp
  simp [ho, hx, hrun]

/-- A result that lies in a cell of the call's own: a struct or an array. -/
theorem run_loadF (hF : Fr X w0 w es) (hi : es[i]? = some (.blk g t cs)) {ty : TypeId} {d : TypeDesc} (hu : P.underlying ty = some d) (hd : aggT d = true) (hs : (P.info? ty).map (·.size) = some cs.length) :
    (loadVar ty ⟨g, 0, none⟩).run P w = .ok (.agg cs.toArray) w :=
  run_loadVar_mid w g 0 ty cs d (rangeAt_blk hF hi (by simp)) hu (by cases d <;> simp_all [aggT, TypeDesc.isRow]) hs
theorem results_cellF {fn : Func} {p : Tmp} {ty : TypeId} (h : fn.results = #[.cell p ty]) (tmps : Array Value) (hF : Fr X w0 w es) (hi : es[i]? = some (.blk g t cs)) (hp : tmps.getD p undef = .pointer (some ⟨g, 0, none⟩))
    {d : TypeDesc} (hu : P.underlying ty = some d) (hd : aggT d = true) (hs : (P.info? ty).map (·.size) = some cs.length) : (results fn tmps).run P w = .ok (.agg cs.toArray) w := by
  have hp' : tmps[p]?.getD undef = .pointer (some ⟨g, 0, none⟩) := by simpa using hp
  simp [results, h, hp', asAddr, run_loadF hF hi hu hd hs]
theorem results_cellF2 {fn : Func} {p q : Tmp} {ty : TypeId} (h : fn.results = #[.cell p ty, .tmp q]) (tmps : Array Value) (hF : Fr X w0 w es) (hi : es[i]? = some (.blk g t cs)) (hp : tmps.getD p undef = .pointer (some ⟨g, 0, none⟩))
    {d : TypeDesc} (hu : P.underlying ty = some d) (hd : aggT d = true) (hs : (P.info? ty).map (·.size) = some cs.length) : (results fn tmps).run P w = .ok (.tuple #[.agg cs.toArray, tmps.getD q undef]) w := by
  have hp' : tmps[p]?.getD undef = .pointer (some ⟨g, 0, none⟩) := by simpa using hp
  simp [results, h, hp', asAddr, run_loadF hF hi hu hd hs]

/-- A load that yields in every world in which a block is as it is known. -/
theorem yi_fld {S : World → Prop} {ops : Array Oper} (hw : Region.wanted o (yielded ops a.tmps) = true) (hS : ∀ w, S w → w.heap[g]? = some (.cells cs.toArray t (0, 0))) {e : TypeId} {d : TypeDesc} (hu : P.underlying e = some d) (hd : aggT d = false) {off : Nat} (ho : IsLd o a e ⟨g, off, none⟩) {u : Value} (hc : cs[off]? = some u) :
    YieldsIf P ops S o u a := .inl ⟨hw, fun w hw => by
  obtain ⟨x, ho, hx⟩ := ho
  have hcell : w.cell? ⟨g, off, none⟩ = some u := by rw [cell_of_row w g off _ t (0, 0) (hS w hw)]; simpa using hc
  have hagg := run_isAgg hu w
  rw [hd] at hagg
  unfold execOp
  simp [ho, hx, Instr.loadAt, Instr.sureAddr, loadVar, hagg, hcell]⟩
theorem yi_fldA {S : World → Prop} {ops : Array Oper} (hw : Region.wanted o (yielded ops a.tmps) = true) (hS : ∀ w, S w → w.heap[g]? = some (.cells cs.toArray t (0, 0))) {e : TypeId} {d : TypeDesc} (hu : P.underlying e = some d) (hd : aggT d = true) {off : Nat} (ho : IsLd o a e ⟨g, off, none⟩) {ds : List Value}
    (hs : (P.info? e).map (·.size) = some ds.length) (hc : (cs.drop off).take ds.length = ds) : YieldsIf P ops S o (.agg ds.toArray) a := by
  obtain ⟨x, ho, hx⟩ := ho
  refine yieldsIf_load_mid hw e x ho g off hx ds d (fun w hw j v hv => ?_) hu (by cases d <;> simp_all [aggT, TypeDesc.isRow]) hs
  rw [cell_of_row w g (off + j) _ t (0, 0) (hS w hw)]
  rw [← hc, List.getElem?_take] at hv
  split at hv
  · rw [List.getElem?_drop] at hv; simpa using hv
  · cases hv

/-- A loop that compares, up to the first that differs. -/
theorem run_cmp {α : Type} [Inhabited α] (w : World) (s0 s1 : α) (F : Nat → α → Sem (ForInStep α)) (l m : List UInt8) (hlm : l.length = m.length) (hF : ∀ (k : Nat) (c c' : UInt8), l[k]? = some c → m[k]? = some c' → (F k s0).run P w = .ok (if c == c' then .yield s0 else .done s1) w) :
    ∀ (j k : Nat), k + j = l.length → (forIn (List.range' k j) s0 F).run P w = .ok (if l.drop k == m.drop k then s0 else s1) w
  | 0, k, h => by
    rw [List.drop_of_length_le (by omega), List.drop_of_length_le (by omega)]
    simp
  | j + 1, k, h => by
    have hl : k < l.length := by omega
    have hm : k < m.length := by omega
    have h1 := hF k l[k] m[k] (by simp) (by simp)
    rw [List.range'_succ, List.forIn_cons, Sem.run_bind, h1, List.drop_eq_getElem_cons hl, List.drop_eq_getElem_cons hm]
    by_cases hc : l[k] = m[k]
    · have ih := run_cmp w s0 s1 F l m hlm hF j (k + 1) (by omega)
      simp only [hc, beq_self_eq_true, if_true, Result.andThen_ok, ih, List.cons_beq_cons, Bool.true_and]
    · have hb : (l[k] == m[k]) = false := by simpa using hc
      simp only [hb, Bool.false_eq_true, if_false, Result.andThen_ok, List.cons_beq_cons, Bool.false_and, Sem.run_pure]
/-- Two arrays of bytes are compared. -/
theorem run_eqBytes {e : TypeId} {n : Nat} (ht : P.underlying t = some (.array n e)) (he : P.underlying e = some (.int .u8)) (hs : (P.info? e).map (·.size) = some 1) (l m : List UInt8) (hl : l.length = n) (hm : m.length = n) (d : Nat) (w : World) :
    (Op.equalIn (d + 2) t (.agg (l.map bv).toArray) (.agg (m.map bv).toArray)).run P w = .ok (l == m) w := by
  obtain ⟨j, hj, hsz⟩ := Option.map_eq_some_iff.1 hs
  have hagg : (isAgg e).run P w = .ok false w := run_isAgg he w
  have hpart : ∀ (l : List UInt8) (k : Nat) (c : UInt8), l[k]? = some c → (part e (l.map bv).toArray (k * 1)).run P w = .ok (bv c) w := fun l k c hc => by
    simp [part, hagg, hc]
  have hcmp : ∀ c c' : UInt8, (Op.equalIn (d + 1) e (bv c) (bv c')).run P w = .ok (c == c') w := fun c c' => by
    unfold bv
    rw [run_equalIn_int w d e .u8 .u8 _ _ he]
    congr 1
    rw [Bool.eq_iff_iff, beq_iff_eq, beq_iff_eq]
    exact ⟨fun h => UInt8.toNat_inj.1 (by omega), fun h => by rw [h]⟩
  have hso : (sizeOf e).run P w = .ok 1 w := by simp [sizeOf, typeInfo, hj, hsz]
  rw [Op.equalIn]
  simp only [Sem.run_bind, run_underlying ht, Result.andThen_ok, hso, Std.Legacy.Range.forIn_eq_forIn_range']
  have hsize : (Std.Legacy.Range.mk 0 n 1 (by omega)).size = n := by simp [Std.Legacy.Range.size]
  rw [hsize, run_cmp (P := P) w (none, ()) (some false, ()) _ l m (by omega) ?_ n 0 (by omega)]
  · simp only [List.drop_zero, Result.andThen_ok]
    cases l == m <;> simp
  · intro k c c' hc hc'
    simp only [Sem.run_bind, hpart l k c hc, hpart m k c' hc', Result.andThen_ok, hcmp]
    cases c == c' <;> simp
end laws

/-- The block that a slice value owns, as a list. -/
def Xof (v : Value) : List Nat := v.ownBlock.toList
theorem Xof_mem {v : Value} {k : Nat} : k ∈ Xof v ↔ v.ownBlock = some k := by unfold Xof; cases v.ownBlock <;> simp [eq_comm]
section
variable {w0 w : World} {X : List Nat} {es : List Ent}
/-- A call that was handed bytes that it may append to. -/
theorem Fr.oneB {b : Nat} {e : TypeId} {v : Value} {l : List UInt8} (h : OwnB w b e v l) : Fr (Xof v) w w [.bytes b e v l] := by
  refine ⟨rfl, rfl, rfl, Nat.le_refl _, fun _ _ _ => rfl, fun i e he => ?_, fun i e he b hb => ?_, fun i j e f he hf hij => ?_⟩
  · match i, he with
    | 0, he => injection he with he; subst he; exact h.own
  · match i, he with
    | 0, he => injection he with he; subst he; exact .inr (Xof_mem.2 hb)
  · match i, j, he, hf with
    | 0, 0, _, _ => exact absurd rfl hij
theorem Fr.grownX {v : Value} (h : Fr (Xof v) w0 w es) : w0.grownBy w v.ownBlock := ⟨h.os, h.tape, h.output, h.size, fun k hk hne => h.block k hk (fun hm => hne (Xof_mem.1 hm).symm)⟩
/-- What came in, but not in a block that changes, reads as it did. -/
theorem Fr.rdKeep (h : Fr X w0 w es) {size n : Nat} {A : Option Addr} {xs : List Value} (hr : Rd w0 (fun k => k < w0.heap.size ∧ k ∉ X) A size n xs) : Rd w (· < w.heap.size) A size n xs := by
  refine ⟨hr.len, hr.some_, fun hn => Nat.lt_of_lt_of_le (hr.inS hn).1 h.size, fun j u hu => ?_⟩
  have hb := hr.inS (hr.pos_of hu)
  rw [← hr.cell j u hu]
  refine World.cell?_of_block (w := w0) ?_
  rw [atp_block]
  exact h.block _ hb.1 hb.2
end
end Go.Proofs.YtdekogmegdhjoaaDoor
