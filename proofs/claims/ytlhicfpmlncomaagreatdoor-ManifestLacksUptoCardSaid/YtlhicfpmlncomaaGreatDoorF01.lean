/-
 Plain words and laws for walks: facts that the walk does not look into; slices that read as lists of cells or of bytes; appends, loads, cuts. No program is named here.
 From what the form reads of an argument to the words of the walks. No program is named here.
 Layer 1 in plain words: numbers, counts, texts, digits, sums. No program is named here.
 Bytes as a type of this program.
 Layer 6 in plain words: JSON texts read and written. No program is named here.
 A store into bytes that the call owns, which keeps all other blocks.
 Words for walks over several blocks at once: what is known of each block that a call has made or was handed (Fr), and the laws of the operations over it. No program is named here.
-/
import Derived.WalkKit
import Derived.WalkSpells
import Derived.WalkLawsBesides
import Derived.Maps.AppendAt
import Derived.Deep.Draws
import Derived.Deep.DeepMust
import Derived.Deep.DeepCutAuto
import Derived.Deep.RegionLaw
import Derived.Lib.ConvBytes
import Derived.ProofKit
import Derived.OpenShut
import Derived.Test.YtlhicfpmlncomaaGreatDoorRows
import Derived.Deep.MidRow
import Derived.Laws.CopyRow
import Derived.OrdersHeld
import Derived.Test.YtlhicfpmlncomaaGreatDoorF00
set_option linter.unusedSimpArgs false
set_option linter.unusedVariables false
namespace Go.Proofs.YtlhicfpmlncomaaGreatDoor
open Go.RowKit
structure Box (p : Prop) : Prop where
 out : p
theorem box {p : Prop} (h : p) : Box p := ⟨h⟩
theorem ret1 {a b : Value} (h : a = b) : Ending.returned a = .returned b := by rw [h]
structure SlT (P : Program) (t e : TypeId) (size bytes : Nat) (z : Value) : Prop where
 und : P.underlying t = some (.slice e)
 info : (P.info? e).map (fun i => (i.zero, i.size, i.bytes)) = some (some z, size, bytes)
 zs : z.cells.size = size
 pos : 0 < size
def atp (A : Option Addr) (i : Nat) : Addr := (A.getD default).add i
structure Rd (w : World) (S : Nat → Prop) (A : Option Addr) (size n : Nat) (xs : List Value) : Prop where
 len : xs.length = n * size
 some_ : 0 < n → A = some (A.getD default)
 inS : 0 < n → S (A.getD default).block
 cell : ∀ j u, xs[j]? = some u → w.cell? (atp A j) = some u
structure Keep (S : Nat → Prop) (w w' : World) : Prop where
 os : w'.os = w.os
 tape : w'.tape = w.tape
 output : w'.output = w.output
 size : w.heap.size ≤ w'.heap.size
 block : ∀ k, S k → w'.heap[k]? = w.heap[k]?
theorem Below.keep {B : Nat} {w w' : World} (h : Below B w w') : Keep (· < B) w w' := ⟨h.os, h.tape, h.output, h.size, h.block⟩
theorem Keep.below {B : Nat} {w w' : World} (h : Keep (· < B) w w') : Below B w w' := ⟨h.os, h.tape, h.output, h.size, h.block⟩
theorem below_drewN {B : Nat} {w w' : World} (h : Below B w w') (n : Nat) : Below B w (w'.drewN n) := ⟨h.os, h.tape, h.output, h.size, h.block⟩
theorem Keep.mono {S S' : Nat → Prop} {w w' : World} (h : Keep S w w') (hs : ∀ k, S' k → S k) : Keep S' w w' := ⟨h.os, h.tape, h.output, h.size, fun k hk => h.block k (hs k hk)⟩
theorem Keep.trans {S : Nat → Prop} {a b c : World} (h : Keep S a b) (k : Keep S b c) : Keep S a c :=
 ⟨k.os.trans h.os, k.tape.trans h.tape, k.output.trans h.output, Nat.le_trans h.size k.size, fun i hi => (k.block i hi).trans (h.block i hi)⟩
theorem Keep.refl (S : Nat → Prop) (w : World) : Keep S w w := ⟨rfl, rfl, rfl, Nat.le_refl _, fun _ _ => rfl⟩
theorem Keep.cell {S : Nat → Prop} {w w' : World} (h : Keep S w w') {p : Addr} (hp : S p.block) : w'.cell? p = w.cell? p := World.cell?_of_block (w := w) (h.block p.block hp)
theorem atp_block (A : Option Addr) (i : Nat) : (atp A i).block = (A.getD default).block := by unfold atp Addr.add; split <;> rfl
theorem add_add (a : Addr) (i j : Nat) : (a.add i).add j = a.add (i + j) := by
 unfold Addr.add
 by_cases hi : i = 0 <;> by_cases hj : j = 0 <;> simp [hi, hj, Nat.add_assoc]
section
variable {w w' : World} {S S' : Nat → Prop} {size n : Nat} {A : Option Addr} {xs : List Value}
theorem Rd.nil (w : World) (S : Nat → Prop) (A : Option Addr) (size : Nat) : Rd w S A size 0 [] := ⟨by simp, fun h => absurd h (by omega), fun h => absurd h (by omega), fun j u h => by simp at h⟩
theorem Rd.pos_of (h : Rd w S A size n xs) {j : Nat} {u : Value} (hj : xs[j]? = some u) : 0 < n := by
 rcases Nat.eq_zero_or_pos n with h0 | h0
 ·have := h.len; rw [h0, Nat.zero_mul] at this; rw [List.eq_nil_of_length_eq_zero this] at hj; simp at hj
 ·exact h0
theorem Rd.keep (h : Rd w S A size n xs) (hk : Keep S w w') : Rd w' S A size n xs :=
 ⟨h.len, h.some_, h.inS, fun j u hu => by rw [hk.cell (by rw [atp_block]; exact h.inS (h.pos_of hu))]; exact h.cell j u hu⟩
theorem Rd.on (h : Rd w (· < w.heap.size) A size n xs) (hb : Below w.heap.size w w') : Rd w' (· < w'.heap.size) A size n xs := by
 have h1 := h.keep (Below.keep hb)
 exact ⟨h1.len, h1.some_, fun hn => Nat.lt_of_lt_of_le (h1.inS hn) hb.size, h1.cell⟩
theorem Rd.mono (h : Rd w S A size n xs) (hs : ∀ k, S k → S' k) : Rd w S' A size n xs := ⟨h.len, h.some_, fun hn => hs _ (h.inS hn), h.cell⟩
theorem Rd.below {B : Nat} (h : Rd w (· < B) A size n xs) (hb : Below B w w') : Rd w' (· < B) A size n xs := h.keep (Below.keep hb)
theorem Rd.lit (w : World) (cs : List Value) (e : TypeId) {size n : Nat} (hn : cs.length = n * size) : Rd (w.alloc (.cells cs.toArray e)) (· = w.heap.size) (some ⟨w.heap.size, 0, none⟩) size n cs := by
 refine ⟨hn, fun _ => rfl, fun _ => rfl, fun j u hu => ?_⟩
 have hat : atp (some ⟨w.heap.size, 0, none⟩) j = ⟨w.heap.size, j, none⟩ := by
  unfold atp Addr.add
  by_cases hj : j = 0 <;> simp [hj]
 rw [hat, World.cell?_alloc_at _ _ _ _ rfl]
 simpa using hu
theorem Rd.cut (h : Rd w S A size n xs) {k m : Nat} (c : Prop) [Decidable c] (hk : k ≤ m) (hm : m ≤ n) (hc : c → k = m) :
  Rd w S (if c then A else A.map (·.add (k * size))) size (m - k) ((xs.take (m * size)).drop (k * size)) := by
 have hlen : ((xs.take (m * size)).drop (k * size)).length = (m - k) * size := by
  rw [List.length_drop, List.length_take, h.len, Nat.min_eq_left (Nat.mul_le_mul_right _ hm), Nat.sub_mul]
 by_cases hcc : c
 ·have := hc hcc
  subst this
  rw [if_pos hcc]
  refine ⟨hlen, fun h0 => absurd h0 (by omega), fun h0 => absurd h0 (by omega), fun j u hu => ?_⟩
  have : (List.drop (k * size) (List.take (k * size) xs)).length = 0 := by rw [hlen]; simp
  rw [List.eq_nil_of_length_eq_zero this] at hu; simp at hu
 ·rw [if_neg hcc]
  have hA : 0 < m - k → A.map (·.add (k * size)) = some ((A.getD default).add (k * size)) := fun h0 => by
   rw [h.some_ (by omega)]; rfl
  have hblk : ((A.getD default).add (k * size)).block = (A.getD default).block := by unfold Addr.add; split <;> rfl
  refine ⟨hlen, fun h0 => by rw [hA h0]; rfl, fun h0 => by rw [hA h0]; simp only [Option.getD_some]; rw [hblk]; exact h.inS (by omega), fun j u hu => ?_⟩
  have hpos : 0 < m - k := by
   rcases Nat.eq_zero_or_pos (m - k) with h0 | h0
   ·rw [h0, Nat.zero_mul] at hlen; rw [List.eq_nil_of_length_eq_zero hlen] at hu; simp at hu
   ·exact h0
  rw [atp, hA hpos, Option.getD_some, add_add]
  refine h.cell _ u ?_
  rw [List.getElem?_drop] at hu
  rw [List.getElem?_take] at hu
  split at hu
  ·exact hu
  ·simp at hu
end
def bv (c : UInt8) : Value := .int .u8 (c.toNat : Int)
theorem bv_one (l : List UInt8) : ∀ u ∈ l.map bv, u.oneCell' = true := by
 intro u hu
 obtain ⟨c, _, rfl⟩ := List.mem_map.1 hu
 rfl
theorem Rd.bytes_len {w : World} {S : Nat → Prop} {A : Option Addr} {n : Nat} {l : List UInt8} (h : Rd w S A 1 n (l.map bv)) : l.length = n := by
 have := h.len; simpa using this
theorem Rd.drew {w : World} {S : Nat → Prop} {A : Option Addr} {size n : Nat} {xs : List Value} (h : Rd w S A size n xs) : Rd w.drew S A size n xs := ⟨h.len, h.some_, h.inS, h.cell⟩
theorem Rd.of_own {w : World} {base : Nat} {e : TypeId} {size n c : Nat} {A : Option Addr} {xs : List Value} (h : w.ownsRow base e size (.slice A n c) n xs) : Rd w (fun k => base ≤ k ∧ k < w.heap.size) A size n xs := by
 have key : 0 < n → ∃ g, A = some ⟨g, 0, none⟩ := fun hn => by
  rcases h.2 with ⟨_, h0⟩ | ⟨g, cap, cur, hv, _⟩
  ·omega
  ·injection hv with h1; exact ⟨g, h1⟩
 refine ⟨h.1, fun hn => ?_, fun hn => ?_, fun j u hu => ?_⟩
 ·obtain ⟨g, rfl⟩ := key hn; rfl
 ·obtain ⟨g, rfl⟩ := key hn; exact h.lt g rfl
 ·have hn : 0 < n := by
   rcases Nat.eq_zero_or_pos n with h0 | h0
   ·have h1 := h.1; rw [h0, Nat.zero_mul] at h1; rw [List.eq_nil_of_length_eq_zero h1] at hu; simp at hu
   ·exact h0
  obtain ⟨g, rfl⟩ := key hn
  exact h.cells (g := g) rfl j u hu
theorem own_form {w : World} {base : Nat} {e : TypeId} {size n : Nat} {v : Value} {xs : List Value} (h : w.ownsRow base e size v n xs) : ∃ A c, v = .slice A n c ∧ n ≤ c ∧ c ≤ maxLen := by
 rcases h.2 with ⟨rfl, rfl⟩ | ⟨g, cap, cur, rfl, _, _, hc, hm, _⟩
 ·exact ⟨none, 0, rfl, Nat.le_refl _, Nat.zero_le _⟩
 ·exact ⟨_, cap, rfl, hc, hm⟩
theorem Rd.atB {w : World} {S : Nat → Prop} {A : Option Addr} {n : Nat} {l : List UInt8} (h : Rd w S A 1 n (l.map bv)) {k : Nat} (hk : k < n) :
  ∃ ad c, A = some ad ∧ l[k]? = some c ∧ w.cell? (ad.add k) = some (.int .u8 (c.toNat : Int)) := by
 have hl := h.bytes_len
 have hk' : k < l.length := by omega
 have hc := h.cell k (bv l[k]) (by simp [hk'])
 refine ⟨_, l[k], h.some_ (by omega), by simp [hk'], hc⟩
theorem take_snoc {α : Type} {l : List α} {k : Nat} {c : α} (h : l[k]? = some c) : l.take (k + 1) = l.take k ++ [c] := by
 rw [List.take_add_one, h]; rfl
theorem get_toList {s : ByteArray} {j : Nat} {c : UInt8} (h : s.data.toList[j]? = some c) : s[j]? = some c := by
 obtain ⟨h1, h2⟩ := List.getElem?_eq_some_iff.1 h
 have h3 : j < s.size := h1
 rw [getElem?_pos s j h3]
 exact congrArg some h2
theorem run_strIx {P : Program} {t : TypeId} (hu : P.underlying t = some .string) {s : ByteArray} {j : Nat} {c : UInt8} (h : s.data.toList[j]? = some c) {i : Int} (hi : i = j) (kd : IntKind) (w : World) :
  (Instr.index t (.string s) (.int kd i)).run P w = .ok (.int .u8 (c.toNat : Int)) w := by
 subst hi
 simp [Instr.index, run_underlying hu, asIntOf, get_toList h]
theorem str_len (s : ByteArray) : s.data.toList.length = s.size := rfl
theorem str_mk_size (l : List UInt8) : (⟨l.toArray⟩ : ByteArray).size = l.length := by simp [ByteArray.size]
theorem str_at {s : ByteArray} {j : Nat} (h : j < s.size) : ∃ c, s.data.toList[j]? = some c := ⟨s.data.toList[j]'h, List.getElem?_eq_getElem h⟩
theorem quietC {P : Program} {f : FuncId} {args : Array Value} {w : World} {v : Value} (h : Calls P f args w fun e w' => e = .returned v ∧ w = w') : Calls P f args w fun e w' => e = .returned v ∧ w' = w :=
 h.mono fun _ _ ⟨h1, h2⟩ => ⟨h1, h2.symm⟩
section laws
variable {P : Program} {o : Oper} {a : Act} {w : World} {K : Act → World → Prop} {Q : Exit → Act → World → Prop}
theorem wp_run {v : Value} {w' : World} (hrun : (execOp a.eval o).run P w = .ok (.value v) w') (k : K (a.put o.dst v) w') : o.wp P a w K Q := by
 unfold Oper.wp
 rw [hrun]
 exact k
theorem lst {ops : Array Oper} {rest : List Oper} (hw : Region.wanted o (yielded ops a.tmps) = true) (h : o.wp P a w (wpList P ops Q rest) Q) : wpList P ops Q (o :: rest) a w := by
 unfold wpList
 rw [if_pos hw]
 exact .inl h
theorem lsx {ops : Array Oper} {rest : List Oper} (h : o.wp P a w (wpList P ops Q rest) Q) (hw : Region.wanted o (yielded ops a.tmps) = true := by with_unfolding_all rfl) : wpList P ops Q (o :: rest) a w := lst hw h
theorem zP (a : Act) (d : Tmp) (v : Value) : a.put (some d) v = { a with tmps := a.tmps.setIfInBounds d v } := rfl
theorem zQ (a : Act) (v : Value) : a.put none v = a := rfl
theorem zS {α : Type} (l : List α) (i : Nat) (a : α) : l.toArray.setIfInBounds i a = (l.set i a).toArray := List.setIfInBounds_toArray ..
theorem zZ {α : Type} (a b : α) (l : List α) : (b :: l).set 0 a = a :: l := rfl
theorem zN {α : Type} (a b : α) (l : List α) (n : Nat) : (b :: l).set (n + 1) a = b :: l.set n a := rfl
theorem stp {P : Program} {ops : Array Oper} {o : Oper} {a : Act} {w : World} {K : Act → World → Prop} {Q : Exit → Act → World → Prop} {E : Prop} (hw : Region.wanted o (yielded ops a.tmps) = true) (h : o.wp P a w K Q) :
  if Region.wanted o (yielded ops a.tmps) = true then o.wp P a w K Q else E := by rw [if_pos hw]; exact h
def IsApp (o : Oper) (a : Act) (t : TypeId) (v xv : Value) : Prop := ∃ s x, o.op = .call { callee := .builtin .append, args := #[s, x], argTypes := #[t, t] } ∧ a.eval s = v ∧ a.eval x = xv
def IsIx (o : Oper) (a : Act) (t : TypeId) (A : Option Addr) (n : Nat) (j : Int) : Prop := ∃ x i c kd, o.op = .indexAddr t x i ∧ a.eval x = .slice A n c ∧ a.eval i = .int kd j
def IsLd (o : Oper) (a : Act) (e : TypeId) (p : Addr) : Prop := ∃ x, o.op = .load e x ∧ a.eval x = .pointer (some p)
theorem run_app {t e : TypeId} {size bytes : Nat} {z : Value} {ty : TypeId} (T : SlT P t e size bytes z) {base : Nat} {v : Value} {n : Nat} {xs : List Value} (hown : w.ownsRow base e size v n xs)
  {S : Nat → Prop} {A : Option Addr} {m c : Nat} {news : List Value} (hr : Rd w S A size m news) (h1 : ∀ u ∈ news, u.oneCell' = true)
  (h63 : n + m ≤ maxLen) (hbytes : (n + m) * bytes ≤ 140737488355328) (hbase : base ≤ w.heap.size) :
  ∃ v' w', (Builtin.append_ #[t, t] ty #[v, .slice A m c]).run P w = .ok v' w' ∧ w'.ownsRow base e size v' (n + m) (xs ++ news) ∧ w.grownBy w' v.ownBlock ∧ (v'.ownBlock = v.ownBlock ∨ v'.ownBlock = some w.heap.size) := by
 obtain ⟨i, hi, hz, hs, hb⟩ := info_parts T.info
 rcases Nat.eq_zero_or_pos m with h0 | h0
 ·subst h0
  have hn : news = [] := List.eq_nil_of_length_eq_zero (by simpa using hr.len)
  subst hn
  cases A with
  | none =>
   refine ⟨v, w, ?_, by simpa using hown, World.grownBy.refl w _, .inl rfl⟩
   rcases hown.2 with ⟨rfl, rfl⟩ | ⟨g, cap, cur, rfl, _, _, hnc, _⟩
   ·simp [Builtin.append_, run_underlying T.und, sizeOf, typeInfo, hi, Builtin.lenOf, Builtin.firstCells]
   ·simp [Builtin.append_, run_underlying T.und, sizeOf, typeInfo, hi, Builtin.lenOf, Builtin.firstCells, hnc, storeCells]
  | some ad =>
   obtain ⟨v', w', hrun, h2, h3, _, h5⟩ := run_append_own_at (P := P) w base t ty e i z size bytes T.und hi hz hs hb T.zs T.pos v n xs hown ad 0 c [] (by simp) (fun j u h => by simp at h) h1 h63 hbytes hbase
   exact ⟨v', w', hrun, h2, h3, h5⟩
 ·obtain ⟨ad, rfl⟩ : ∃ ad, A = some ad := ⟨_, hr.some_ h0⟩
  obtain ⟨v', w', hrun, h2, h3, _, h5⟩ := run_append_own_at (P := P) w base t ty e i z size bytes T.und hi hz hs hb T.zs T.pos v n xs hown ad m c news hr.len hr.cell h1 h63 hbytes hbase
  exact ⟨v', w', hrun, h2, h3, h5⟩
theorem wp_app {t e : TypeId} {size bytes : Nat} {z : Value} (T : SlT P t e size bytes z) {base : Nat} {v : Value} {n : Nat} {xs : List Value} (hown : w.ownsRow base e size v n xs)
  {S : Nat → Prop} {A : Option Addr} {m c : Nat} {news : List Value} (hr : Rd w S A size m news)
  (ho : IsApp o a t v (.slice A m c)) (h1 : ∀ u ∈ news, u.oneCell' = true)
  (h63 : n + m ≤ maxLen) (hbytes : (n + m) * bytes ≤ 140737488355328) (hbase : base ≤ w.heap.size)
  (k : ∀ v' w', w'.ownsRow base e size v' (n + m) (xs ++ news) → w.grownBy w' v.ownBlock → (v'.ownBlock = v.ownBlock ∨ v'.ownBlock = some w.heap.size) → K (a.put o.dst v') w') : o.wp P a w K Q := by
 obtain ⟨s, x, ho, hs, hx⟩ := ho
 obtain ⟨v', w', hrun, h2, h3, h4⟩ := run_app (ty := o.type) (c := c) T hown hr h1 h63 hbytes hbase
 unfold Oper.wp execOp
 simp only [ho, resolve, invoke, builtin, Sem.run_bind, Sem.run_pure, Result.andThen_ok, List.map_toArray, List.map_cons, List.map_nil, hs, hx, hrun]
 exact k v' w' h2 h3 h4
end laws
structure OwnB (w : World) (base : Nat) (e : TypeId) (v : Value) (l : List UInt8) : Prop where
 own : w.ownsRow base e 1 v l.length (l.map bv)
section
variable {w w' : World} {base : Nat} {e : TypeId} {v : Value} {l : List UInt8}
theorem OwnB.nil (w : World) (base : Nat) (e : TypeId) : OwnB w base e (.slice none 0 0) [] := ⟨World.ownsRow_nil _ _ _ _⟩
theorem OwnB.alloc (h : OwnB w base e v l) (o : Obj) : OwnB (w.alloc o) base e v l := ⟨h.own.alloc o⟩
theorem OwnB.drew (h : OwnB w base e v l) : OwnB w.drew base e v l := ⟨h.own⟩
theorem OwnB.drewN (h : OwnB w base e v l) (n : Nat) : OwnB (w.drewN n) base e v l := ⟨h.own⟩
theorem OwnB.form (h : OwnB w base e v l) : ∃ A c, v = .slice A l.length c ∧ l.length ≤ c ∧ c ≤ maxLen := own_form h.own
theorem OwnB.rd {A : Option Addr} {n c : Nat} (h : OwnB w base e (.slice A n c) l) : Rd w (fun k => base ≤ k ∧ k < w.heap.size) A 1 n (l.map bv) := by
 obtain ⟨A', c', hv, _⟩ := h.form
 injection hv with _ hn
 subst hn
 exact Rd.of_own h.own
theorem OwnB.arg (h : OwnB w base e v l) : ∃ A c, v = .slice A l.length c ∧ l.length ≤ c ∧ Rd w (· < w.heap.size) A 1 l.length (l.map bv) := by
 obtain ⟨A, c, rfl, hc, _⟩ := h.form
 exact ⟨A, c, rfl, hc, h.rd.mono fun k hk => hk.2⟩
theorem OwnB.kept {row : Option Nat} (h : OwnB w base e v l) (hg : w.grownBy w' row) (hne : v.ownBlock = none ∨ v.ownBlock ≠ row) : OwnB w' base e v l := ⟨h.own.kept hg hne⟩
end
section laws
variable {P : Program} {o : Oper} {a : Act} {w w0 : World} {K : Act → World → Prop} {Q : Exit → Act → World → Prop}
theorem below_app {base : Nat} {e : TypeId} {size n : Nat} {v : Value} {xs : List Value} {w' : World} (hown : w.ownsRow base e size v n xs) (hb : Below base w0 w) (hbase : base ≤ w.heap.size) (hg : w.grownBy w' v.ownBlock) : Below base w0 w' :=
 hb.grown hg hbase fun k hk => (hown.lt k hk).1
theorem wp_appB {t e : TypeId} (T : SlT P t e 1 1 (.int .u8 0)) {base : Nat} {v : Value} {l : List UInt8} (hown : OwnB w base e v l) (hb : Below base w0 w)
  {S : Nat → Prop} {A : Option Addr} {m c : Nat} {l' : List UInt8} (hr : Rd w S A 1 m (l'.map bv))
  (ho : IsApp o a t v (.slice A m c))
  (hroom : l.length + m ≤ 140737488355328) (hbase : base ≤ w.heap.size)
  (k : ∀ v' w', OwnB w' base e v' (l ++ l') → Below base w0 w' → w.grownBy w' v.ownBlock → base ≤ w'.heap.size → K (a.put o.dst v') w') : o.wp P a w K Q := by
 have hm := hr.bytes_len
 refine wp_app T hown.own hr ho (bv_one _) (by unfold maxLen; omega) (by omega) hbase fun v' w' h2 h3 _ => k v' w' ⟨?_⟩ (below_app hown.own hb hbase h3) h3 (Nat.le_trans hbase h3.size)
 rw [List.map_append, List.length_append, hm]
 exact h2
theorem wp_appB1 {t e : TypeId} (T : SlT P t e 1 1 (.int .u8 0)) {base : Nat} {v : Value} {l : List UInt8} (hown : OwnB w base e v l) (hb : Below base w0 w) {q : Int}
  (ho : IsApp o a t v (.slice (some ⟨w.heap.size, 0, none⟩) 1 1))
  (hroom : l.length + 1 ≤ 140737488355328) (hbase : base ≤ w.heap.size) (hq : ∃ c : UInt8, q = c.toNat)
  (k : ∀ v' w' c, Box (q = ((c : UInt8).toNat : Int)) → OwnB w' base e v' (l ++ [c]) → Below base w0 w' → base ≤ w'.heap.size → K (a.put o.dst v') w') : o.wp P a (w.alloc (.cells #[.int .u8 q] e)) K Q := by
 obtain ⟨c, rfl⟩ := hq
 refine wp_appB T (hown.alloc _) (hb.alloc hbase _) (l' := [c]) (Rd.lit w [bv c] e rfl) ho hroom (by simp; omega) fun v' w' h2 h3 _ h5 => k v' w' c (box rfl) h2 h3 h5
theorem byte_of {q : Int} (h0 : 0 ≤ q) (h1 : q < 256) : ∃ c : UInt8, q = c.toNat := ⟨UInt8.ofNat q.toNat, by simp; omega⟩
theorem wp_indexAddr {t e : TypeId} {size bytes : Nat} {z : Value} (T : SlT P t e size bytes z) {S : Nat → Prop} {A : Option Addr} {n : Nat} {xs : List Value} (hr : Rd w S A size n xs) {j : Int}
  (ho : IsIx o a t A n j) (h0 : 0 ≤ j) (hj : j < n)
  (k : K (a.put o.dst (.pointer (some (atp A (j.toNat * size))))) w) : o.wp P a w K Q := by
 obtain ⟨x, i, c, kd, ho, hx, hi⟩ := ho
 obtain ⟨i', hi', _, hsz, _⟩ := info_parts T.info
 have hA := hr.some_ (by omega)
 have he : P.elem t = e := by simp [Program.elem, T.und]
 refine wp_run (v := .pointer (some (atp A (j.toNat * size)))) (w' := w) ?_ k
 unfold execOp
 have hrun := run_indexAt_slice (P := P) w t (A.getD default) n c kd j (by rw [he]; exact T.und)
 rw [if_pos ⟨h0, hj⟩] at hrun
 simp only [ho, hx, hi]
 rw [hA]
 simp [hrun, he, sizeOf, typeInfo, hi', hsz, atp]
def aggT : TypeDesc → Bool
 | .struct _ | .array _ _ => true
 | _ => false
theorem wp_load1 {S : Nat → Prop} {A : Option Addr} {n size : Nat} {xs : List Value} (hr : Rd w S A size n xs) {e : TypeId} {j : Nat} {u : Value} {d : TypeDesc} (hu : P.underlying e = some d) (hd : aggT d = false)
  (ho : IsLd o a e (atp A j)) (hj : xs[j]? = some u)
  (k : K (a.put o.dst u) w) : o.wp P a w K Q := by
 obtain ⟨x, ho, hx⟩ := ho
 have hc := hr.cell j u hj
 have hagg : (isAgg e).run P w = .ok false w := by
  unfold isAgg
  rw [Sem.run_bind, run_underlying hu w]
  cases d <;> simp_all [aggT]
 refine wp_run (v := u) (w' := w) ?_ k
 unfold execOp
 simp [ho, hx, Instr.loadAt, Instr.sureAddr, loadVar, hagg, hc]
theorem wp_loadC {S : Nat → Prop} {A : Option Addr} {n k : Nat} {l : List UInt8} {c : UInt8} (hr : Rd w S A 1 n (l.map bv)) (hc : Box (l[k]? = some c)) {e : TypeId} {j : Nat} {d : TypeDesc} (hu : P.underlying e = some d) (hd : aggT d = false)
  (ho : IsLd o a e (atp A j)) (hj : j = k)
  (h : K (a.put o.dst (.int .u8 (c.toNat : Int))) w) : o.wp P a w K Q := by
 subst hj
 exact wp_load1 hr hu hd ho (j := j) (u := bv c) (by simp [hc.out]) h
def IsMk (o : Oper) (a : Act) (t : TypeId) (l c : Int) : Prop := ∃ x y kl kc, o.op = .makeSlice t x y ∧ a.eval x = .int kl l ∧ a.eval y = .int kc c
def IsSt (o : Oper) (a : Act) (e : TypeId) (p : Addr) (v : Value) : Prop := ∃ x y, o.op = .store e x y ∧ a.eval x = .pointer (some p) ∧ a.eval y = v
theorem madeB (n : Nat) : (madeCells #[Value.int .u8 0] n).toList = (List.replicate n (0 : UInt8)).map bv := by
 rw [toList_madeCells_one, List.map_replicate]; rfl
theorem wp_makeB {t e : TypeId} (T : SlT P t e 1 1 (.int .u8 0)) {base : Nat} (hb : Below base w0 w) (hbase : base ≤ w.heap.size) {q : Int}
  (ho : IsMk o a t q q) {n : Nat} (hq : q = (n : Int)) (hn : n ≤ 281474976710656)
  (k : ∀ A c w', OwnB w' base e (.slice A n c) (List.replicate n 0) → Below base w0 w' → base ≤ w'.heap.size → w.grownBy w' none → K (a.put o.dst (.slice A n c)) w') : o.wp P a w K Q := by
 subst hq
 obtain ⟨x, y, kl, kc, ho, hx, hy⟩ := ho
 obtain ⟨i, hi, hz, hs, hby⟩ := info_parts T.info
 obtain ⟨w', hrun, hown, hg⟩ := run_make_full (P := P) w base t e i _ 1 T.und hi hz hs kl kc n (by rw [hby]; omega) (by unfold maxLen; omega) hbase
 refine wp_run (v := .slice (some ⟨w.heap.size, 0, none⟩) n n) (w' := w') ?_ (k _ _ w' ⟨?_⟩ (hb.grown hg hbase (fun k hk => by cases hk)) (Nat.le_trans hbase hg.size) hg)
 ·unfold execOp
  simp [ho, hx, hy, hrun]
 ·rw [List.length_replicate, ← madeB]
  simpa [Value.cells] using hown
theorem wp_storeB {e : TypeId} (hu : (P.info? e).map (·.size) = some 1) {base : Nat} {A : Option Addr} {n c : Nat} {l : List UInt8} (hown : OwnB w base e (.slice A n c) l) (hb : Below base w0 w) {j : Nat} {q : Int}
  (ho : IsSt o a e (atp A j) (.int .u8 q)) (hj : j < n) (hq : ∃ c : UInt8, q = c.toNat)
  (k : ∀ w' d, Box (q = ((d : UInt8).toNat : Int)) → OwnB w' base e (.slice A n c) (l.set j d) → Below base w0 w' → w'.heap.size = w.heap.size → K (a.put o.dst undef) w') : o.wp P a w K Q := by
 obtain ⟨x, y, ho, hx, hy⟩ := ho
 obtain ⟨d, rfl⟩ := hq
 obtain ⟨A', c', hv, _⟩ := hown.form
 injection hv with hA hn hc
 subst hA hn hc
 have hown' := hown.own
 obtain ⟨g, rfl⟩ : ∃ g, A = some ⟨g, 0, none⟩ := by
  rcases hown'.2 with ⟨h0, _⟩ | ⟨g, cap, cur, h0, _⟩
  ·injection h0 with _ h1; omega
  ·injection h0 with h1; exact ⟨g, h1⟩
 have hat : atp (some ⟨g, 0, none⟩) j = ⟨g, j, none⟩ := by
  unfold atp Addr.add
  by_cases hj0 : j = 0 <;> simp [hj0]
 rw [hat] at hx
 have hcell := hown'.cellAt j (by omega)
 have hfr := hown'.frozenAt j
 obtain ⟨u, hu2⟩ : ∃ u, w.cell? ⟨g, j, none⟩ = some u := ⟨(l.map bv)[j]'(by simpa using hj), by rw [hcell]; simp [hj]⟩
 have hst := hown'.stored j (bv d)
 have hlt := hown'.lt g rfl
 obtain ⟨i, hi, hsz⟩ := Option.map_eq_some_iff.1 hu
 have hk := k (w.setCell ⟨g, j, none⟩ (bv d)) d (box rfl) ⟨by simpa [List.map_set] using hst.1⟩ (hb.setCell (p := ⟨g, j, none⟩) hlt.1 _) (by simp [World.setCell])
 unfold Oper.wp execOp
 simp only [ho, hx, hy, Instr.storeAt, Instr.sureAddr, storeVar, Sem.run_bind, Sem.run_pure, Result.andThen_ok]
 simp [sizeOf, typeInfo, hi, hsz, Value.cells, storeCells, go_sem, hu2, hfr]
 exact hk
def bnd (a : Act) (kd : IntKind) (x : Option Operand) (v : Option Int) : Prop := x.map a.eval = v.map (.int kd)
def IsCut (o : Oper) (a : Act) (t : TypeId) (A : Option Addr) (n c : Nat) (lo hi mx : Option Int) : Prop :=
 ∃ x l h m k1 k2 k3, o.op = .slice t x l h m ∧ a.eval x = .slice A n c ∧ bnd a k1 l lo ∧ bnd a k2 h hi ∧ bnd a k3 m mx
theorem run_bound (k : IntKind) (i : Int) (y : Nat) (code : BoundsCode) (h0 : 0 ≤ i) (h1 : i ≤ y) : (Instr.sliceBound (.int k i) y code).run P w = .ok i.toNat w := by
 simp [Instr.sliceBound, asIntOf, h0, h1]
theorem wp_cut {t e : TypeId} {size bytes : Nat} {z : Value} (T : SlT P t e size bytes z) {S : Nat → Prop} {A : Option Addr} {n c : Nat} {xs : List Value} (hr : Rd w S A size n xs) (hnc : n ≤ c)
  {lo hi mx : Option Int} (ho : IsCut o a t A n c lo hi mx) {l h m : Nat} (hl : lo.getD 0 = (l : Int)) (hh : hi.getD (n : Int) = (h : Int)) (hm : mx.getD (c : Int) = (m : Int)) (hmx : mx.isSome = true → hi.isSome = true)
  (h1 : l ≤ h) (h2 : h ≤ n) (h3 : h ≤ m) (h4 : m ≤ c)
  (k : ∀ A' c', Rd w S A' size (h - l) ((xs.take (h * size)).drop (l * size)) → h - l ≤ c' → c' ≤ c → K (a.put o.dst (.slice A' (h - l) c')) w) : o.wp P a w K Q := by
 obtain ⟨x, ol, oh, om, k1, k2, k3, ho, hx, b1, b2, b3⟩ := ho
 obtain ⟨i', hi', _, hsz, _⟩ := info_parts T.info
 refine wp_run (v := .slice (if m = l then A else A.map (·.add (l * size))) (h - l) (m - l)) (w' := w) ?_ (k _ _ (hr.cut (m = l) h1 h2 (fun hml => by omega)) (by omega) (by omega))
 unfold execOp
 have hrun : ∀ (lv hv mv : Option Value), lv = lo.map (.int k1) → hv = hi.map (.int k2) → mv = mx.map (.int k3) →
   (Instr.sliceBounds true n c lv hv mv).run P w = .ok (l, h, m) w := by
  intro lv hv mv e1 e2 e3
  subst e1 e2 e3
  have h5 : h ≤ c := by omega
  have h6 : l ≤ n := by omega
  cases lo <;> cases hi <;> cases mx <;> simp at hl hh hm hmx <;> subst_vars <;> simp [Instr.sliceBounds, run_bound, h1, h3, h4, h5, h6] <;> omega
 have e1 : ol.map a.eval = lo.map (.int k1) := b1
 have e2 : oh.map a.eval = hi.map (.int k2) := b2
 have e3 : om.map a.eval = mx.map (.int k3) := b3
 simp [ho, hx, Instr.sliceAt, Instr.slice, run_underlying T.und, hrun _ _ _ e1 e2 e3, sizeOf, typeInfo, hi', hsz]
theorem wp_cutB {t e : TypeId} (T : SlT P t e 1 1 (.int .u8 0)) {S : Nat → Prop} {A : Option Addr} {n c : Nat} {bs : List UInt8} (hr : Rd w S A 1 n (bs.map bv)) (hnc : n ≤ c)
  {lo hi mx : Option Int} (ho : IsCut o a t A n c lo hi mx) {l h m : Nat} (hl : lo.getD 0 = (l : Int)) (hh : hi.getD (n : Int) = (h : Int)) (hm : mx.getD (c : Int) = (m : Int)) (hmx : mx.isSome = true → hi.isSome = true)
  (h1 : l ≤ h) (h2 : h ≤ n) (h3 : h ≤ m) (h4 : m ≤ c)
  (k : ∀ A' c', Rd w S A' 1 (h - l) (((bs.take h).drop l).map bv) → h - l ≤ c' → c' ≤ c → K (a.put o.dst (.slice A' (h - l) c')) w) : o.wp P a w K Q := by
 refine wp_cut T hr hnc ho hl hh hm hmx h1 h2 h3 h4 fun A' c' hr' => ?_
 rw [Nat.mul_one, Nat.mul_one, ← List.map_take, ← List.map_drop] at hr'
 exact k A' c' hr'
def IsCv (o : Oper) (a : Act) (s t : TypeId) (v : Value) : Prop := ∃ x, o.op = .convert s t x ∧ a.eval x = v
theorem fold_push : ∀ (l : List UInt8) (r : ByteArray), (l.map (fun b => (b.toNat : Int))).foldl (fun r n => r.push (UInt8.ofNat n.toNat)) r = ⟨r.data ++ l.toArray⟩
 | [], r => by simp
 | c :: l, r => by
  rw [List.map_cons, List.foldl_cons, fold_push l]
  have hc : UInt8.ofNat (c.toNat : Int).toNat = c := by simp
  rw [hc]
  simp [ByteArray.push]
theorem wp_b2s {t st e : TypeId} {size bytes : Nat} {z : Value} (T : SlT P t e size bytes z) (he : P.underlying e = some (.int .u8)) (hst : P.underlying st = some .string) {S : Nat → Prop} {A : Option Addr} {n c : Nat} {l : List UInt8} (hr : Rd w S A 1 n (l.map bv))
  (ho : IsCv o a t st (.slice A n c)) (k : K (a.put o.dst (.string ⟨l.toArray⟩)) w) : o.wp P a w K Q := by
 obtain ⟨x, ho, hx⟩ := ho
 refine wp_run (v := .string ⟨l.toArray⟩) (w' := w) ?_ k
 have hl := hr.bytes_len
 have hrun : (convert t st (.slice A n c)).run P w = .ok (.string ⟨l.toArray⟩) w := by
  rw [run_convert_bytes_string w t st e A n c T.und he hst]
  cases hA : A with
  | none =>
   have hn : n = 0 := by
    rcases Nat.eq_zero_or_pos n with h | h
    ·exact h
    ·have := hr.some_ h; rw [hA] at this; cases this
   have : l = [] := List.eq_nil_of_length_eq_zero (by omega)
   subst this
   simp [Conv.bytesToString]
   rfl
  | some ad =>
   have hld : (loadCells ad n).run P w = .ok ((l.map (fun b => (b.toNat : Int))).map (Value.int .u8)).toArray w := by
    have h2 := run_loadCells_list (P := P) w ad (l.map bv) (fun j v hv => by
     have := hr.cell j v hv
     rwa [hA] at this)
    rw [List.length_map, hl] at h2
    rw [h2, List.map_map]
    rfl
   rw [run_bytesToString w ad n c _ hld, fold_push]
   simp
 unfold execOp
 simp [ho, hx, hrun]
theorem freeze_cell (w : World) (b : Addr) (n : Nat) (p : Addr) : (w.freeze b n).cell? p = w.cell? p := by
 unfold World.freeze
 split
 ·rfl
 ·unfold World.cell?
  simp only [Array.getElem?_modify]
  by_cases h : b.block = p.block
  ·rw [if_pos h]
   cases w.heap[p.block]? with
   | none => rfl
   | some x => cases x <;> rfl
  ·rw [if_neg h]
theorem freeze_block (w : World) (b : Addr) (n k : Nat) (h : k ≠ b.block) : (w.freeze b n).heap[k]? = w.heap[k]? := by
 unfold World.freeze
 split
 ·rfl
 ·simp only [Array.getElem?_modify]
  rw [if_neg (fun e => h e.symm)]
theorem freeze_size (w : World) (b : Addr) (n : Nat) : (w.freeze b n).heap.size = w.heap.size := by
 unfold World.freeze
 split
 ·rfl
 ·simp
end laws
end Go.Proofs.YtlhicfpmlncomaaGreatDoor

namespace Go.Proofs.YtlhicfpmlncomaaGreatDoor
open Go.ChangeShapes Go.WideShapes Go.ChangeAt Go.RowKit
theorem u8_of_wf {n : Int} (h : (Lit.int .u8 n).wf = true) : ∃ c : UInt8, n = c.toNat := by
 have hx : 0 ≤ n ∧ n ≤ 255 := by simpa [Lit.wf, IntKind.min, IntKind.max, IntKind.signed, IntKind.bits] using h
 exact byte_of hx.1 (by omega)
theorem i64_of_wf {n : Int} (h : (Lit.int .i64 n).wf = true) : -9223372036854775808 ≤ n ∧ n ≤ 9223372036854775807 := by
 simpa [Lit.wf, IntKind.min, IntKind.max, IntKind.signed, IntKind.bits] using h
section
variable {H : Type} {enc : TypeId × Value → H} {P : Program} {W : World} {hd : Bool} {d : DataW H} {ps : List MemPlace}
end
end Go.Proofs.YtlhicfpmlncomaaGreatDoor

namespace Go.Proofs.YtlhicfpmlncomaaGreatDoor
def hexd (d : UInt8) : UInt8 := if d < 10 then 48 + d else 97 + d - 10
def hexL : List UInt8 → List UInt8
 | [] => []
 | c :: l => hexd (c / 16) :: hexd (c % 16) :: hexL l
def hexv (c : UInt8) : Option UInt8 := if 48 ≤ c ∧ c ≤ 57 then some (c - 48) else if 97 ≤ c ∧ c ≤ 102 then some (c - 97 + 10) else none
def unhexL : List UInt8 → Option (List UInt8)
 | [] => some []
 | [_] => none
 | a :: b :: l => match hexv a, hexv b, unhexL l with
  | some x, some y, some r => some ((16 * x + y) :: r)
  | _, _, _ => none
end Go.Proofs.YtlhicfpmlncomaaGreatDoor

namespace Go.Proofs.YtlhicfpmlncomaaGreatDoor
open Go.RowKit
theorem T_u8 : SlT Tryz.prog 22 5 1 1 (.int .u8 0) := ⟨uq22, by kernel_rfl, rfl, by decide⟩
theorem I_u8 : (Tryz.prog.info? 5).map (·.size) = some 1 := by kernel_rfl
end Go.Proofs.YtlhicfpmlncomaaGreatDoor

namespace Go.Proofs.YtlhicfpmlncomaaGreatDoor
inductive JV where
 | mk (kind num : Int) (text : List UInt8) (names : List (List UInt8)) (kids : List JV)
def JV.kind : JV → Int | .mk k _ _ _ _ => k
def JV.num : JV → Int | .mk _ n _ _ _ => n
def JV.text : JV → List UInt8 | .mk _ _ t _ _ => t
def JV.names : JV → List (List UInt8) | .mk _ _ _ ns _ => ns
def JV.kids : JV → List JV | .mk _ _ _ _ ks => ks
def JV.null : JV := .mk 0 0 [] [] []
abbrev JR (α : Type) := Except (Nat × Nat) α
def jBlank (c : UInt8) : Bool := c == 32 || (c == 9 || (c == 10 || c == 13))
def jBlanks (b : List UInt8) (p : Nat) : Nat := p + ((b.drop p).takeWhile jBlank).length
def jNext (b : List UInt8) (p : Nat) : JR UInt8 :=
 match b[p]? with
 | none => .error (b.length, 9)
 | some c => .ok c
def jWord (b : List UInt8) : List UInt8 → Nat → JR Nat
 | [], p => .ok p
 | c :: w, p => match b[p]? with
  | none => .error (b.length, 9)
  | some x => if x = c then jWord b w (p + 1) else .error (p, 10)
def jDig (c : UInt8) : Bool := decide (48 ≤ c.toNat) && decide (c.toNat ≤ 57)
def jNumC (c : UInt8) : Bool := jDig c || (c == 45 || (c == 43 || (c == 46 || (c == 101 || c == 69))))
def jDigs (l : List UInt8) : Nat := l.foldl (fun n c => 10 * n + (c.toNat - 48)) 0
def jNum (s : List UInt8) : Option Int :=
 let neg := s.head? == some 45
 let t := if neg then s.tail else s
 if t ≠ [] ∧ t.length ≤ 16 ∧ (t.head? ≠ some 48 ∨ t.length = 1 ∧ neg = false) ∧ t.all jDig = true ∧ jDigs t ≤ 9007199254740991 then
  some (if neg then -(jDigs t : Int) else (jDigs t : Int))
 else none
def jNumber (b : List UInt8) (p : Nat) : JR (Int × Nat) :=
 let s := (b.drop p).takeWhile jNumC
 match jNum s with
 | none => .error (p, 63)
 | some n => .ok (n, p + s.length)
def jHex (c : UInt8) : Option Nat :=
 if 48 ≤ c.toNat ∧ c.toNat ≤ 57 then some (c.toNat - 48)
 else if 97 ≤ c.toNat ∧ c.toNat ≤ 102 then some (c.toNat - 87)
 else if 65 ≤ c.toNat ∧ c.toNat ≤ 70 then some (c.toNat - 55)
 else none
def jUnit (b : List UInt8) (start : Nat) : Nat → Nat → Nat → JR Nat
 | 0, n, _ => .ok n
 | k + 1, n, p => match b[p]? with
  | none => .error (b.length, 9)
  | some c => match jHex c with
   | none => .error (start, 62)
   | some d => jUnit b start k (16 * n + d) (p + 1)
def jSign (n : Nat) : List UInt8 :=
 if n < 128 then [UInt8.ofNat n]
 else if n < 2048 then [UInt8.ofNat (192 + n / 64), UInt8.ofNat (128 + n % 64)]
 else if n < 65536 then [UInt8.ofNat (224 + n / 4096), UInt8.ofNat (128 + n / 64 % 64), UInt8.ofNat (128 + n % 64)]
 else [UInt8.ofNat (240 + n / 262144), UInt8.ofNat (128 + n / 4096 % 64), UInt8.ofNat (128 + n / 64 % 64), UInt8.ofNat (128 + n % 64)]
def jCont (c : UInt8) : Bool := decide (128 ≤ c.toNat) && decide (c.toNat ≤ 191)
def jSize : List UInt8 → Nat
 | [] => 0
 | c :: l =>
  if c.toNat < 128 then 1
  else if c.toNat < 194 then 0
  else if c.toNat < 224 then match l with
   | x :: _ => if jCont x = true then 2 else 0
   | _ => 0
  else if c.toNat < 240 then match l with
   | x :: y :: _ => if jCont x = true ∧ jCont y = true ∧ 2048 ≤ (c.toNat - 224) * 4096 + (x.toNat - 128) * 64 + (y.toNat - 128) ∧ ¬ (55296 ≤ (c.toNat - 224) * 4096 + (x.toNat - 128) * 64 + (y.toNat - 128) ∧ (c.toNat - 224) * 4096 + (x.toNat - 128) * 64 + (y.toNat - 128) < 57344) then 3 else 0
   | _ => 0
  else if c.toNat < 245 then match l with
   | x :: y :: z :: _ => if jCont x = true ∧ jCont y = true ∧ jCont z = true ∧ 65536 ≤ (c.toNat - 240) * 262144 + (x.toNat - 128) * 4096 + (y.toNat - 128) * 64 + (z.toNat - 128) ∧ (c.toNat - 240) * 262144 + (x.toNat - 128) * 4096 + (y.toNat - 128) * 64 + (z.toNat - 128) ≤ 1114111 then 4 else 0
   | _ => 0
  else 0
def jEscape (b : List UInt8) (p : Nat) : JR (List UInt8 × Nat) :=
 match b[p + 1]? with
 | none => .error (b.length, 9)
 | some c =>
  if c = 34 ∨ c = 92 ∨ c = 47 then .ok ([c], p + 2)
  else if c = 98 then .ok ([8], p + 2)
  else if c = 102 then .ok ([12], p + 2)
  else if c = 110 then .ok ([10], p + 2)
  else if c = 114 then .ok ([13], p + 2)
  else if c = 116 then .ok ([9], p + 2)
  else if c = 117 then
   match jUnit b p 4 0 (p + 2) with
   | .error x => .error x
   | .ok n =>
    if 55296 ≤ n ∧ n < 56320 then
     match b[p + 6]? with
     | none => .error (b.length, 9)
     | some x => if x ≠ 92 then .error (p, 62) else
      match b[p + 7]? with
      | none => .error (b.length, 9)
      | some y => if y ≠ 117 then .error (p, 62) else
       match jUnit b p 4 0 (p + 8) with
       | .error x => .error x
       | .ok m => if 56320 ≤ m ∧ m < 57344 then .ok (jSign (65536 + (n - 55296) * 1024 + (m - 56320)), p + 12) else .error (p, 62)
    else if 56320 ≤ n ∧ n < 57344 then .error (p, 62)
    else .ok (jSign n, p + 6)
  else .error (p, 62)
def jTextL (b : List UInt8) : Nat → Nat → List UInt8 → JR (List UInt8 × Nat)
 | 0, _, _ => .error (b.length, 9)
 | f + 1, p, out => match b[p]? with
  | none => .error (b.length, 9)
  | some c =>
   if c = 34 then .ok (out, p + 1)
   else if c = 92 then match jEscape b p with
    | .error x => .error x
    | .ok (e, q) => jTextL b f q (out ++ e)
   else if c.toNat < 32 then .error (p, 60)
   else if jSize (b.drop p) = 0 then .error (p, 61)
   else jTextL b f (p + jSize (b.drop p)) (out ++ (b.drop p).take (jSize (b.drop p)))
def jText (b : List UInt8) (p : Nat) : JR (List UInt8 × Nat) :=
 match jWord b [34] p with
 | .error x => .error x
 | .ok q => jTextL b (b.length + 1 - q) q []
def jName (b : List UInt8) (names : List (List UInt8)) (p : Nat) : JR (List UInt8 × Nat) :=
 match jText b p with
 | .error x => .error x
 | .ok (s, q) =>
  if s ∈ names then .error (p, 7) else
   match jWord b [58] (jBlanks b q) with
   | .error x => .error x
   | .ok r => .ok (s, jBlanks b r)
def jManyL (b : List UInt8) (kind : Int) (fin : UInt8) (val : Nat → Nat → JR (JV × Nat × Nat)) : Nat → Nat → Nat → List (List UInt8) → List JV → JR (JV × Nat × Nat)
 | 0, _, _, _, _ => .error (b.length, 9)
 | f + 1, p, m, names, kids =>
  match (if kind = 6 then jName b names p else .ok ([], p)) with
  | .error x => .error x
  | .ok (s, q) =>
   match val q m with
   | .error x => .error x
   | .ok (v, r, m') =>
    match jNext b (jBlanks b r) with
    | .error x => .error x
    | .ok c =>
     if c = fin then .ok (.mk kind 0 [] (if kind = 6 then names ++ [s] else names) (kids ++ [v]), jBlanks b r + 1, m')
     else match jWord b [44] (jBlanks b r) with
      | .error x => .error x
      | .ok t => jManyL b kind fin val f (jBlanks b t) m' (if kind = 6 then names ++ [s] else names) (kids ++ [v])
def jMany (b : List UInt8) (kind : Int) (fin : UInt8) (val : Option (Nat → Nat → JR (JV × Nat × Nat))) (p m : Nat) : JR (JV × Nat × Nat) :=
 match val with
 | none => .error (p, 64)
 | some val =>
  match jNext b (jBlanks b (p + 1)) with
  | .error x => .error x
  | .ok c => if c = fin then .ok (.mk kind 0 [] [] [], jBlanks b (p + 1) + 1, m) else jManyL b kind fin val (b.length + 1 - (p + 1)) (jBlanks b (p + 1)) m [] []
def jLit (b : List UInt8) (w : List UInt8) (v : JV) (p m : Nat) : JR (JV × Nat × Nat) :=
 match jWord b w p with
 | .error x => .error x
 | .ok q => .ok (v, q, m)
def jValueW (b : List UInt8) (val : Option (Nat → Nat → JR (JV × Nat × Nat))) (p m : Nat) : JR (JV × Nat × Nat) :=
 match b[p]? with
 | none => .error (b.length, 9)
 | some c =>
  if m = 4096 then .error (p, 8)
  else if c = 110 then jLit b [110, 117, 108, 108] .null p (m + 1)
  else if c = 102 then jLit b [102, 97, 108, 115, 101] (.mk 1 0 [] [] []) p (m + 1)
  else if c = 116 then jLit b [116, 114, 117, 101] (.mk 2 0 [] [] []) p (m + 1)
  else if c = 45 ∨ jDig c = true then
   match jNumber b p with
   | .error x => .error x
   | .ok (n, q) => .ok (.mk 3 n [] [] [], q, m + 1)
  else if c = 34 then
   match jText b p with
   | .error x => .error x
   | .ok (s, q) => .ok (.mk 4 0 s [] [], q, m + 1)
  else if c = 91 then jMany b 5 93 val p (m + 1)
  else if c = 123 then jMany b 6 125 val p (m + 1)
  else .error (p, 10)
def jValue (b : List UInt8) : Nat → Nat → Nat → JR (JV × Nat × Nat)
 | 0, p, m => jValueW b none p m
 | d + 1, p, m => jValueW b (some (jValue b d)) p m
def jParse (b : List UInt8) : JR JV :=
 if 65536 < b.length then .error (0, 8) else
  match jValue b 16 (jBlanks b 0) 0 with
  | .error x => .error x
  | .ok (v, p, _) => if jBlanks b p < b.length then .error (jBlanks b p, 10) else .ok v
end Go.Proofs.YtlhicfpmlncomaaGreatDoor

namespace Go.Proofs.YtlhicfpmlncomaaGreatDoor
open Go.RowKit
theorem OwnB.on {w w' : World} {base : Nat} {e : TypeId} {v : Value} {l : List UInt8} (h : OwnB w base e v l) (hb : Below w.heap.size w w') : OwnB w' base e v l := by
 refine ⟨h.own.1, ?_⟩
 rcases h.own.2 with hn | ⟨g, cap, cur, hv, hg, hc, rest⟩
 ·exact .inl hn
 ·refine .inr ⟨g, cap, cur, hv, hg, ?_, rest⟩
  rw [hb.block g (h.own.lt g (by rw [hv]; rfl)).2]; exact hc
section
variable {P : Program} {o : Oper} {a : Act} {w w0 : World} {K : Act → World → Prop} {Q : Exit → Act → World → Prop}
theorem wp_load1C {S : Nat → Prop} {A : Option Addr} {n size k : Nat} {xs : List Value} (hr : Rd w S A size n xs) {u : Value} (hc : Box (xs[k]? = some u)) {e : TypeId} {j : Nat} {d : TypeDesc} (hu : P.underlying e = some d) (hd : aggT d = false)
  (ho : IsLd o a e (atp A j)) (hj : j = k) (h : K (a.put o.dst u) w) : o.wp P a w K Q := by
 subst hj
 exact wp_load1 hr hu hd ho hc.out h
end
end Go.Proofs.YtlhicfpmlncomaaGreatDoor

namespace Go.Proofs.YtlhicfpmlncomaaGreatDoor
open Go.RowKit
inductive Ent
 | blk (g : Nat) (t : TypeId) (cs : List Value)
 | own (b : Nat) (e : TypeId) (size : Nat) (v : Value) (n : Nat) (xs : List Value)
 | rd (A : Option Addr) (size n : Nat) (xs : List Value)
def Ent.block : Ent → Option Nat
 | .blk g _ _ => some g
 | .own _ _ _ v _ _ => v.ownBlock
 | .rd A _ _ _ => A.map (·.block)
def Ent.holds (w : World) : Ent → Prop
 | .blk g t cs => w.heap[g]? = some (.cells cs.toArray t (0, 0))
 | .own b e size v n xs => w.ownsRow b e size v n xs
 | .rd A size n xs => Rd w (· < w.heap.size) A size n xs ∧ ∀ a, A = some a → a.block < w.heap.size
def Ent.bytes (b : Nat) (e : TypeId) (v : Value) (l : List UInt8) : Ent := .own b e 1 v l.length (l.map bv)
theorem lt_of_heap {w : World} {g : Nat} {o : Obj} (h : w.heap[g]? = some o) : g < w.heap.size := by
 rcases Nat.lt_or_ge g w.heap.size with h1 | h1
 ·exact h1
 ·rw [Array.getElem?_eq_none h1] at h; cases h
theorem Ent.lt {w : World} {e : Ent} (h : e.holds w) {b : Nat} (hb : e.block = some b) : b < w.heap.size := by
 cases e with
 | blk g t cs => injection hb with hb; subst hb; exact lt_of_heap h
 | own b' e size v n xs => exact (h.lt b hb).2
 | rd A size n xs =>
  obtain ⟨a, ha, rfl⟩ := Option.map_eq_some_iff.1 hb
  exact h.2 a ha
theorem Ent.keep {w w' : World} {row : Option Nat} {e : Ent} (h : e.holds w) (hg : w.grownBy w' row) (hne : e.block = none ∨ e.block ≠ row) : e.holds w' := by
 cases e with
 | blk g t cs =>
  have hlt := lt_of_heap (w := w) h
  exact (hg.block g hlt (hne.elim (fun h => by cases h) id)).trans h
 | own b e size v n xs => exact World.ownsRow.kept h hg hne
 | rd A size n xs =>
  refine ⟨⟨h.1.len, h.1.some_, fun hn => Nat.lt_of_lt_of_le (h.1.inS hn) hg.size, fun j u hu => ?_⟩, fun a ha => Nat.lt_of_lt_of_le (h.2 a ha) hg.size⟩
  have hn := h.1.pos_of hu
  have hA := h.1.some_ hn
  have hb := h.1.inS hn
  rw [← h.1.cell j u hu]
  refine World.cell?_of_block (w := w) ?_
  rw [atp_block]
  refine hg.block _ hb ?_
  rcases hne with h0 | h0
  ·exact absurd h0 (by unfold Ent.block; rw [hA]; simp)
  ·unfold Ent.block at h0; rw [hA] at h0; exact h0
theorem set_mem {α : Type} {l : List α} {i : Nat} {x y : α} (h : y ∈ l.set i x) : y = x ∨ y ∈ l := by
 rcases List.mem_or_eq_of_mem_set h with h1 | h1
 ·exact .inr h1
 ·exact .inl h1
def Ent.apart (e f : Ent) : Prop := e.block = none ∨ e.block ≠ f.block
theorem Ent.apart.symm {e f : Ent} (h : e.apart f) : f.apart e := by
 unfold Ent.apart at *
 rcases h with h | h
 ·cases hf : f.block with
  | none => exact .inl rfl
  | some b => right; rw [h]; simp
 ·exact .inr fun e => h e.symm
structure Fr (X : List Nat) (w0 w : World) (es : List Ent) : Prop where
 os : w.os = w0.os
 tape : w.tape = w0.tape
 output : w.output = w0.output
 size : w0.heap.size ≤ w.heap.size
 block : ∀ k, k < w0.heap.size → k ∉ X → w.heap[k]? = w0.heap[k]?
 holds : ∀ (i : Nat) (e : Ent), es[i]? = some e → e.holds w
 fresh : ∀ (i : Nat) (e : Ent), es[i]? = some e → ∀ b, e.block = some b → w0.heap.size ≤ b ∨ b ∈ X
 apart : ∀ (i j : Nat) (e f : Ent), es[i]? = some e → es[j]? = some f → i ≠ j → e.apart f
section
variable {X : List Nat} {w0 w w' : World} {es : List Ent}
theorem Fr.nil (w : World) : Fr [] w w [] := ⟨rfl, rfl, rfl, Nat.le_refl _, fun _ _ _ => rfl, fun i e h => by simp at h, fun i e h => by simp at h, fun i j e f h => by simp at h⟩
theorem Fr.one {g : Nat} {t : TypeId} {cs : List Value} (h : w.heap[g]? = some (.cells cs.toArray t (0, 0))) : Fr [g] w w [.blk g t cs] := by
 refine ⟨rfl, rfl, rfl, Nat.le_refl _, fun _ _ _ => rfl, fun i e he => ?_, fun i e he b hb => ?_, fun i j e f he hf hij => ?_⟩
 ·match i, he with
  | 0, he => injection he with he; subst he; exact h
 ·match i, he with
  | 0, he => injection he with he; subst he; injection hb with hb; subst hb; exact .inr (by simp)
 ·match i, j, he, hf with
  | 0, 0, _, _ => exact absurd rfl hij
theorem Fr.step (h : Fr X w0 w es) {row : Option Nat} (hg : w.grownBy w' row) (hrow : ∀ (i : Nat) (e : Ent), es[i]? = some e → e.block = none ∨ e.block ≠ row) (hX : ∀ k, row = some k → w0.heap.size ≤ k ∨ k ∈ X) : Fr X w0 w' es := by
 refine ⟨hg.os.trans h.os, hg.tape.trans h.tape, hg.output.trans h.output, Nat.le_trans h.size hg.size, fun k hk hx => ?_, fun i e he => Ent.keep (h.holds i e he) hg (hrow i e he), h.fresh, h.apart⟩
 rw [hg.block k (Nat.lt_of_lt_of_le hk h.size) (fun e => (hX k e.symm).elim (fun h1 => by omega) hx)]
 exact h.block k hk hx
theorem Fr.grow (h : Fr X w0 w es) (hg : w.grownBy w' none) : Fr X w0 w' es :=
 h.step hg (fun i e he => by cases hb : e.block <;> simp) (fun k hk => by cases hk)
theorem grown_of_below (hb : Below w.heap.size w w') : w.grownBy w' none := ⟨hb.os, hb.tape, hb.output, hb.size, fun k hk _ => hb.block k hk⟩
theorem below_of_grown (hb : w.grownBy w' none) : Below w.heap.size w w' := ⟨hb.os, hb.tape, hb.output, hb.size, fun k hk => hb.block k hk (by simp)⟩
theorem Fr.call (h : Fr X w0 w es) (hb : Below w.heap.size w w') : Fr X w0 w' es := h.grow (grown_of_below hb)
theorem Fr.drew (h : Fr X w0 w es) : Fr X w0 w.drew es := h.grow ⟨rfl, rfl, rfl, Nat.le_refl _, fun _ _ _ => rfl⟩
theorem Fr.drewN (h : Fr X w0 w es) (n : Nat) : Fr X w0 (w.drewN n) es := h.grow ⟨rfl, rfl, rfl, Nat.le_refl _, fun _ _ _ => rfl⟩
theorem Fr.push (h : Fr X w0 w es) {e : Ent} (he : e.holds w) (hf : ∀ b, e.block = some b → (w0.heap.size ≤ b ∨ b ∈ X) ∧ ∀ (i : Nat) (f : Ent), es[i]? = some f → f.block ≠ some b) : Fr X w0 w (e :: es) := by
 refine ⟨h.os, h.tape, h.output, h.size, h.block, fun i f hi => ?_, fun i f hi b hb => ?_, fun i j f f' hi hj hij => ?_⟩
 ·match i, hi with
  | 0, hi => injection hi with hi; subst hi; exact he
  | i + 1, hi => exact h.holds i f hi
 ·match i, hi with
  | 0, hi => injection hi with hi; subst hi; exact (hf b hb).1
  | i + 1, hi => exact h.fresh i f hi b hb
 ·have key : ∀ (j : Nat) (f : Ent), es[j]? = some f → e.apart f := fun j f hj => by
   unfold Ent.apart
   cases hb : e.block with
   | none => exact .inl rfl
   | some b => exact .inr fun he => (hf b hb).2 j f hj he.symm
  match i, j, hi, hj with
  | 0, 0, _, _ => exact absurd rfl hij
  | 0, j + 1, hi, hj => injection hi with hi; subst hi; exact key j f' hj
  | i + 1, 0, hi, hj => injection hj with hj; subst hj; exact (key i f hi).symm
  | i + 1, j + 1, hi, hj => exact h.apart i j f f' hi hj (by omega)
theorem Fr.old (h : Fr X w0 w es) {i : Nat} {f : Ent} (hi : es[i]? = some f) {b : Nat} (hb : w.heap.size ≤ b) : f.block ≠ some b := fun he => by
 have := Ent.lt (h.holds i f hi) he
 omega
theorem Fr.more (h : Fr X w0 w es) (hg : w.grownBy w' none) {e : Ent} (he : e.holds w') (hb : ∀ b, e.block = some b → w.heap.size ≤ b) : Fr X w0 w' (e :: es) :=
 (h.grow hg).push he fun b he => ⟨.inl (Nat.le_trans h.size (hb b he)), fun _ _ hi => h.old hi (hb b he)⟩
theorem Fr.alloc (h : Fr X w0 w es) (t : TypeId) (cs : List Value) : Fr X w0 (w.alloc (.cells cs.toArray t)) (.blk w.heap.size t cs :: es) :=
 h.more (World.grownBy_alloc w _ none) (heap_alloc_new w _) fun b hb => by injection hb with hb; omega
theorem Fr.got (h : Fr X w0 w es) {e : TypeId} {size n : Nat} {v : Value} {xs : List Value} (hb : Below w.heap.size w w') (ho : w'.ownsRow w.heap.size e size v n xs) : Fr X w0 w' (.own w0.heap.size e size v n xs :: es) := by
 refine h.more (grown_of_below hb) (e := .own w0.heap.size e size v n xs) ?_ fun b hb => (ho.lt b hb).1
 refine ⟨ho.1, ho.2.imp id ?_⟩
 rintro ⟨g, cap, cur, hv, hg, rest⟩
 exact ⟨g, cap, cur, hv, Nat.le_trans h.size hg, rest⟩
theorem Fr.gotB (h : Fr X w0 w es) {e : TypeId} {v : Value} {l : List UInt8} (hb : Below w.heap.size w w') (ho : OwnB w' w.heap.size e v l) : Fr X w0 w' (.bytes w0.heap.size e v l :: es) := h.got hb ho.own
theorem Fr.put (h : Fr X w0 w es) {i : Nat} {e e' : Ent} (hi : es[i]? = some e) (hg : w.grownBy w' e.block) (he : e'.holds w') (hb : e'.block = e.block ∨ ∀ b, e'.block = some b → w.heap.size ≤ b) : Fr X w0 w' (es.set i e') := by
 have hil : i < es.length := (List.getElem?_eq_some_iff.1 hi).1
 have hset : ∀ (j : Nat) (f : Ent), (es.set i e')[j]? = some f → j = i ∧ f = e' ∨ j ≠ i ∧ es[j]? = some f := fun j f hj => by
  rw [List.getElem?_set] at hj
  by_cases hij : i = j
  ·rw [if_pos hij, if_pos hil] at hj; injection hj with hj; exact .inl ⟨hij.symm, hj.symm⟩
  ·rw [if_neg hij] at hj; exact .inr ⟨fun h => hij h.symm, hj⟩
 have hfresh : ∀ b, e'.block = some b → (w0.heap.size ≤ b ∨ b ∈ X) := fun b hb' => by
  rcases hb with h1 | h1
  ·exact h.fresh i e hi b (h1 ▸ hb')
  ·exact .inl (Nat.le_trans h.size (h1 b hb'))
 have hother : ∀ (j : Nat) (f : Ent), j ≠ i → es[j]? = some f → e'.apart f := fun j f hji hj => by
  rcases hb with h1 | h1
  ·have := h.apart i j e f hi hj (fun h => hji h.symm)
   unfold Ent.apart at *
   rw [h1]; exact this
  ·unfold Ent.apart
   cases hb' : e'.block with
   | none => exact .inl rfl
   | some b => exact .inr fun he => h.old hj (h1 b hb') he.symm
 refine ⟨hg.os.trans h.os, hg.tape.trans h.tape, hg.output.trans h.output, Nat.le_trans h.size hg.size, fun k hk hx => ?_, fun j f hj => ?_, fun j f hj b hb' => ?_, fun j k f f' hj hk hjk => ?_⟩
 ·rw [hg.block k (Nat.lt_of_lt_of_le hk h.size) (fun he => (h.fresh i e hi k he.symm).elim (fun h1 => by omega) hx)]
  exact h.block k hk hx
 ·rcases hset j f hj with ⟨_, rfl⟩ | ⟨hji, hj⟩
  ·exact he
  ·exact Ent.keep (h.holds j f hj) hg (h.apart j i f e hj hi hji)
 ·rcases hset j f hj with ⟨_, rfl⟩ | ⟨hji, hj⟩
  ·exact hfresh b hb'
  ·exact h.fresh j f hj b hb'
 ·rcases hset j f hj with ⟨h1, h2⟩ | ⟨hji, hj⟩
  ·rcases hset k f' hk with ⟨h3, h4⟩ | ⟨hki, hk⟩
   ·exact absurd (h1.trans h3.symm) hjk
   ·rw [h2]; exact hother k f' hki hk
  ·rcases hset k f' hk with ⟨h3, h4⟩ | ⟨hki, hk⟩
   ·rw [h4]; exact (hother j f hji hj).symm
   ·exact h.apart j k f f' hj hk hjk
theorem Fr.tail {e : Ent} (h : Fr X w0 w (e :: es)) : Fr X w0 w es :=
 ⟨h.os, h.tape, h.output, h.size, h.block, fun i f hi => h.holds (i + 1) f hi, fun i f hi => h.fresh (i + 1) f hi, fun i j f f' hi hj hij => h.apart (i + 1) (j + 1) f f' hi hj (by omega)⟩
theorem Fr.drop1 {e e' : Ent} (h : Fr X w0 w (e :: e' :: es)) : Fr X w0 w (e :: es) :=
 (h.tail.tail).push (h.holds 0 e rfl) fun b hb => ⟨h.fresh 0 e rfl b hb, fun i f hi he => by
  rcases h.apart 0 (i + 2) e f rfl hi (by omega) with h1 | h1
  ·rw [h1] at hb; cases hb
  ·exact h1 (hb.trans he.symm)⟩
theorem Fr.below {es : List Ent} (h : Fr [] w0 w es) : Below w0.heap.size w0 w := ⟨h.os, h.tape, h.output, h.size, fun k hk => h.block k hk (by simp)⟩
theorem Fr.grown {g : Nat} {es : List Ent} (h : Fr [g] w0 w es) : w0.grownBy w (some g) := ⟨h.os, h.tape, h.output, h.size, fun k hk hne => h.block k hk (by simpa using hne)⟩
theorem Fr.blk (h : Fr X w0 w es) {i g : Nat} {t : TypeId} {cs : List Value} (hi : es[i]? = some (.blk g t cs)) : w.heap[g]? = some (.cells cs.toArray t (0, 0)) := h.holds i _ hi
theorem Fr.lt (h : Fr X w0 w es) {i g : Nat} {t : TypeId} {cs : List Value} (hi : es[i]? = some (.blk g t cs)) : g < w.heap.size := Ent.lt (h.holds i _ hi) rfl
theorem Fr.own (h : Fr X w0 w es) {i b : Nat} {e : TypeId} {v : Value} {l : List UInt8} (hi : es[i]? = some (.bytes b e v l)) : OwnB w b e v l := ⟨h.holds i _ hi⟩
theorem Fr.rdOwn (h : Fr X w0 w es) {i b : Nat} {e : TypeId} {size n m : Nat} {A : Option Addr} {c : Nat} {xs : List Value} (hi : es[i]? = some (.own b e size (.slice A n c) m xs)) : Rd w (· < w.heap.size) A size n xs := by
 have ho : w.ownsRow b e size (.slice A n c) m xs := h.holds i _ hi
 have hm : m = n := by
  rcases ho.2 with ⟨h1, h2⟩ | ⟨g, cap, cur, h1, _⟩
  ·injection h1; omega
  ·injection h1; omega
 subst hm
 exact (Rd.of_own ho).mono fun k hk => hk.2
theorem Fr.rd (h : Fr X w0 w es) {i size n : Nat} {A : Option Addr} {xs : List Value} (hi : es[i]? = some (.rd A size n xs)) : Rd w (· < w.heap.size) A size n xs := (h.holds i _ hi).1
theorem Fr.rdBlk (h : Fr X w0 w es) {i g off n : Nat} {t : TypeId} {cs xs : List Value} (hi : es[i]? = some (.blk g t cs)) (hx : xs.length = n) (hc : (cs.drop off).take n = xs) : Rd w (· < w.heap.size) (some ⟨g, off, none⟩) 1 n xs := by
 refine ⟨by simpa using hx, fun _ => rfl, fun _ => h.lt hi, fun j u hu => ?_⟩
 have hb := h.blk hi
 have hat : atp (some ⟨g, off, none⟩) j = ⟨g, off + j, none⟩ := by
  unfold atp Addr.add
  by_cases hj : j = 0 <;> simp [hj]
 rw [hat, cell_of_row w g (off + j) _ t (0, 0) hb]
 rw [← hc, List.getElem?_take] at hu
 split at hu
 ·rw [List.getElem?_drop] at hu; simpa using hu
 ·cases hu
end
def spl (cs : List Value) (off : Nat) (ds : List Value) : List Value := cs.take off ++ ds ++ cs.drop (off + ds.length)
theorem spl_length {cs ds : List Value} {off : Nat} (h : off + ds.length ≤ cs.length) : (spl cs off ds).length = cs.length := by unfold spl; simp; omega
theorem setRow_grown (w : World) (g : Nat) (cs : Array Value) : w.grownBy (w.setRow g cs) (some g) := ⟨rfl, rfl, rfl, by simp, fun k hk hne => setRow_other w g k cs (fun h => hne (by rw [h]))⟩
section laws
variable {P : Program} {o : Oper} {a : Act} {X : List Nat} {w0 w : World} {es : List Ent} {K : Act → World → Prop} {Q : Exit → Act → World → Prop}
variable {i g : Nat} {t : TypeId} {cs : List Value}
theorem run_isAgg {e : TypeId} {d : TypeDesc} (hu : P.underlying e = some d) (w : World) : (isAgg e).run P w = .ok (aggT d) w := by
 unfold isAgg
 rw [Sem.run_bind, run_underlying hu w]
 cases d <;> simp_all [aggT]
theorem wp_fld (hF : Fr X w0 w es) (hi : es[i]? = some (.blk g t cs)) {e : TypeId} {d : TypeDesc} (hu : P.underlying e = some d) (hd : aggT d = false) {off : Nat} (ho : IsLd o a e ⟨g, off, none⟩) {u : Value} (hc : cs[off]? = some u)
  (k : K (a.put o.dst u) w) : o.wp P a w K Q := by
 obtain ⟨x, ho, hx⟩ := ho
 have hcell : w.cell? ⟨g, off, none⟩ = some u := by rw [cell_of_row w g off _ t (0, 0) (hF.blk hi)]; simpa using hc
 have hagg := run_isAgg hu w
 rw [hd] at hagg
 refine wp_run (v := u) (w' := w) ?_ k
 unfold execOp
 simp [ho, hx, Instr.loadAt, Instr.sureAddr, loadVar, hagg, hcell]
theorem rangeAt_blk (hF : Fr X w0 w es) (hi : es[i]? = some (.blk g t cs)) {off : Nat} {ds : List Value} (hc : (cs.drop off).take ds.length = ds) : w.rangeAt g off ds := by
 intro j v hv
 rw [cell_of_row w g (off + j) _ t (0, 0) (hF.blk hi)]
 rw [← hc, List.getElem?_take] at hv
 split at hv
 ·rw [List.getElem?_drop] at hv; simpa using hv
 ·cases hv
theorem wp_fldA (hF : Fr X w0 w es) (hi : es[i]? = some (.blk g t cs)) {e : TypeId} {d : TypeDesc} (hu : P.underlying e = some d) (hd : aggT d = true) {off : Nat} (ho : IsLd o a e ⟨g, off, none⟩) {ds : List Value}
  (hs : (P.info? e).map (·.size) = some ds.length) (hc : (cs.drop off).take ds.length = ds) (k : K (a.put o.dst (.agg ds.toArray)) w) : o.wp P a w K Q := by
 obtain ⟨x, ho, hx⟩ := ho
 exact wp_load_mid e x ho g off hx ds d (rangeAt_blk hF hi hc) hu (by cases d <;> simp_all [aggT, TypeDesc.isRow]) hs k
theorem run_storeF (hF : Fr X w0 w es) (hi : es[i]? = some (.blk g t cs)) {off : Nat} {ds : List Value} (hl : off + ds.length ≤ cs.length) (h1 : ∀ u ∈ ds, u.oneCell' = true) :
  (storeCells ⟨g, off, none⟩ ds).run P w = .ok () (w.setRow g (spl cs off ds).toArray) ∧ Fr X w0 (w.setRow g (spl cs off ds).toArray) (es.set i (.blk g t (spl cs off ds))) := by
 have h := run_storeCells_at P g off t ds 0 cs.toArray w (hF.blk hi) (by simpa using hl) h1
 refine ⟨by simpa [spl] using h, hF.put hi (setRow_grown w g _) (setRow_heap w g _ _ t _ (hF.blk hi)) (.inl rfl)⟩
theorem wp_fst (hF : Fr X w0 w es) (hi : es[i]? = some (.blk g t cs)) {e : TypeId} {off : Nat} {v : Value} (ho : IsSt o a e ⟨g, off, none⟩ v) (hs : (P.info? e).map (·.size) = some 1) (hv : v.cells = #[v]) (h1 : v.oneCell' = true) (hl : off < cs.length)
  (k : ∀ w', Fr X w0 w' (es.set i (.blk g t (spl cs off [v]))) → w'.heap.size = w.heap.size → K (a.put o.dst undef) w') : o.wp P a w K Q := by
 obtain ⟨x, y, ho, hx, hy⟩ := ho
 obtain ⟨hr, hF'⟩ := run_storeF (P := P) hF hi (off := off) (ds := [v]) (by simp; omega) (by simpa using h1)
 obtain ⟨j, hj, hsz⟩ := Option.map_eq_some_iff.1 hs
 unfold Oper.wp execOp
 simp only [ho, hx, hy, Instr.storeAt, Instr.sureAddr, storeVar, Sem.run_bind, Sem.run_pure, Result.andThen_ok]
 simp [sizeOf, typeInfo, hj, hsz, hv, hr]
 exact k _ hF' (by simp)
theorem wp_fstA (hF : Fr X w0 w es) (hi : es[i]? = some (.blk g t cs)) {e : TypeId} {off : Nat} {ds : List Value} (ho : IsSt o a e ⟨g, off, none⟩ (.agg ds.toArray)) (hs : (P.info? e).map (·.size) = some ds.length) (h1 : ∀ u ∈ ds, u.oneCell' = true) (hl : off + ds.length ≤ cs.length)
  (k : ∀ w', Fr X w0 w' (es.set i (.blk g t (spl cs off ds))) → w'.heap.size = w.heap.size → K (a.put o.dst undef) w') : o.wp P a w K Q := by
 obtain ⟨x, y, ho, hx, hy⟩ := ho
 obtain ⟨hr, hF'⟩ := run_storeF (P := P) hF hi hl h1
 obtain ⟨j, hj, hsz⟩ := Option.map_eq_some_iff.1 hs
 unfold Oper.wp execOp
 simp only [ho, hx, hy, Instr.storeAt, Instr.sureAddr, storeVar, Sem.run_bind, Sem.run_pure, Result.andThen_ok]
 simp [sizeOf, typeInfo, hj, hsz, Value.cells, hr]
 exact k _ hF' (by simp)
theorem wp_falloc (hF : Fr X w0 w es) {e : TypeId} (ho : o.op = .alloc e) {z : Value} (hz : (P.info? e).map (·.zero) = some (some z)) (hc : z.cells = cs.toArray)
  (k : ∀ w' g, Fr X w0 w' (.blk g e cs :: es) → w'.heap.size = w.heap.size + 1 → K (a.put o.dst (.pointer (some ⟨g, 0, none⟩))) w') : o.wp P a w K Q := by
 obtain ⟨j, hj, hzz⟩ := Option.map_eq_some_iff.1 hz
 refine wp_run (v := .pointer (some ⟨w.heap.size, 0, none⟩)) (w' := w.alloc (.cells cs.toArray e)) ?_ (k _ _ (hF.alloc e cs) (by simp))
 unfold execOp
 simp [ho, Instr.alloc, zeroValue, typeInfo, hj, hzz, newVar, newRow, hc]
theorem wp_fbox (hF : Fr X w0 w es) {e : TypeId} {x : Operand} (ho : o.op = .box e x) {v : Value} (hx : a.eval x = v) (hc : v.cells = cs.toArray)
  (k : ∀ w' g, Fr X w0 w' (.blk g e cs :: es) → w'.heap.size = w.heap.size + 1 → K (a.put o.dst (.pointer (some ⟨g, 0, none⟩))) w') : o.wp P a w K Q := by
 refine wp_run (v := .pointer (some ⟨w.heap.size, 0, none⟩)) (w' := w.alloc (.cells cs.toArray e)) ?_ (k _ _ (hF.alloc e cs) (by simp))
 unfold execOp
 simp [ho, hx, Instr.box, newVar, newRow, hc]
theorem wp_fapp {sl e : TypeId} (T : SlT P sl e 1 1 (.int .u8 0)) (hF : Fr X w0 w es) {b : Nat} {v : Value} {l : List UInt8} (hi : es[i]? = some (.bytes b e v l)) (hb : b ≤ w0.heap.size) {S : Nat → Prop} {A : Option Addr} {m c : Nat} {l' : List UInt8} (hr : Rd w S A 1 m (l'.map bv))
  (ho : IsApp o a sl v (.slice A m c)) (hroom : l.length + m ≤ 140737488355328)
  (k : ∀ v' w', Fr X w0 w' (es.set i (.bytes b e v' (l ++ l'))) → w.heap.size ≤ w'.heap.size → K (a.put o.dst v') w') : o.wp P a w K Q := by
 have hown := hF.own hi
 have hm := hr.bytes_len
 have hbw : b ≤ w.heap.size := Nat.le_trans hb hF.size
 refine wp_app T hown.own hr ho (bv_one _) (by unfold maxLen; omega) (by omega) hbw fun v' w' h2 h3 h4 => k v' w' (hF.put hi h3 ?_ (h4.imp id fun h b hb => ?_)) h3.size
 ·show w'.ownsRow b e 1 v' (l ++ l').length ((l ++ l').map bv)
  rw [List.map_append, List.length_append, hm]; exact h2
 ·have hb : v'.ownBlock = some b := hb
  rw [h] at hb; injection hb with hb; omega
theorem wp_fcopy {dT sT el : TypeId} (hu : P.underlying dT = some (.slice el)) (hs : (P.info? el).map (·.size) = some 1) (hF : Fr X w0 w es) (hi : es[i]? = some (.blk g t cs)) {S : Nat → Prop} {A : Option Addr} {off n m c dc : Nat} {xs : List Value} (hr : Rd w S A 1 m xs) (h1 : ∀ u ∈ xs, u.oneCell' = true)
  {d s : Operand} (ho : o.op = .call { callee := .builtin .copy, args := #[d, s], argTypes := #[dT, sT] }) (hd : a.eval d = .slice (some ⟨g, off, none⟩) n dc) (hsrc : a.eval s = .slice A m c) (hl : off + n ≤ cs.length)
  (k : ∀ w', Fr X w0 w' (es.set i (.blk g t (spl cs off (xs.take n)))) → w'.heap.size = w.heap.size → K (a.put o.dst (goInt (Nat.min m n))) w') : o.wp P a w K Q := by
 have hlen : xs.length = m := by simpa using hr.len
 rcases Nat.eq_zero_or_pos m with h0 | h0
 ·subst h0
  have hx : xs = [] := List.eq_nil_of_length_eq_zero hlen
  subst hx
  have hrun := run_copy_none (P := P) w dT sT o.type el (some ⟨g, off, none⟩) A n dc 0 c hu hs (Nat.zero_min n)
  have hsame : spl cs off (List.take n []) = cs := by unfold spl; simp
  have hset : Fr X w0 w (es.set i (.blk g t (spl cs off (List.take n [])))) := by
   rw [hsame]
   exact hF.put hi ⟨rfl, rfl, rfl, Nat.le_refl _, fun _ _ _ => rfl⟩ (hF.holds i _ hi) (.inl rfl)
  have := k w hset rfl
  unfold Oper.wp execOp
  simp only [ho, resolve, invoke, builtin, Sem.run_bind, Sem.run_pure, Result.andThen_ok, List.map_toArray, List.map_cons, List.map_nil, hd, hsrc, hrun]
  have h00 : Nat.min 0 n = 0 := Nat.zero_min n
  rw [h00] at this
  exact this
 ·obtain ⟨ad, rfl⟩ : ∃ ad, A = some ad := ⟨_, hr.some_ h0⟩
  have htl : (xs.take n).length = Nat.min m n := by rw [List.length_take, hlen, Nat.min_comm]
  have hle : (xs.take n).length ≤ n := by rw [List.length_take]; exact Nat.min_le_left _ _
  have hrun := run_copy_row (P := P) w dT sT o.type el g off n dc ad m c cs.toArray t (xs.take n) hu hs (hF.blk hi) htl (fun j v hv => by
   rw [List.getElem?_take] at hv
   split at hv
   ·exact hr.cell j v hv
   ·cases hv) (by simp; omega) (fun v hv => h1 v (List.mem_of_mem_take hv))
  have hk := k (w.setRow g (spl cs off (xs.take n)).toArray) (hF.put hi (setRow_grown w g _) (setRow_heap w g _ _ t _ (hF.blk hi)) (.inl rfl)) (by simp)
  unfold Oper.wp execOp
  simp only [ho, resolve, invoke, builtin, Sem.run_bind, Sem.run_pure, Result.andThen_ok, List.map_toArray, List.map_cons, List.map_nil, hd, hsrc, hrun]
  rw [htl]
  have : (Array.toList cs.toArray).take off ++ xs.take n ++ (Array.toList cs.toArray).drop (off + Nat.min m n) = spl cs off (xs.take n) := by unfold spl; rw [htl]
  rw [this]
  exact hk
end laws
end Go.Proofs.YtlhicfpmlncomaaGreatDoor
