/-
  Layer 19 in plain words: things taken off bytes, one by one; what a reader of bytes holds. No program is named here.
-/
import Derived.Test.YtcnjnkkdidpjiaaFrP
import Derived.Test.YtcnjnkkdidpjiaaWSpec
import Derived.Test.YtcnjnkkdidpjiaaRdcP
namespace Go.Proofs.Ytcnjnkkdidpjiaa
open Go.RowKit

def rCount : Option (List UInt8) → Nat × Option (List UInt8)
  | none => (0, none)
  | some l => if (rdc 0 0 l).2.2 ≠ 0 ∨ 1099511627776 < (rdc 0 0 l).1 then (0, none) else ((rdc 0 0 l).1, some (l.drop (rdc 0 0 l).2.1))
def rText (most : Int) : Option (List UInt8) → List UInt8 × Option (List UInt8)
  | none => ([], none)
  | some l => if (rdt l most).2.2 ≠ 0 then ([], none) else ((rdt l most).1, some (l.drop (rdt l most).2.1))
def rSum : Option (List UInt8) → List UInt8 × Option (List UInt8)
  | none => (zeros, none)
  | some l => if l.length < 32 then (zeros, none) else (l.take 32, some (l.drop 32))
theorem rSum_len (s : Option (List UInt8)) : (rSum s).1.length = 32 := by
  cases s with
  | none => simp [rSum, zeros]
  | some l =>
    show (if l.length < 32 then (zeros, none) else (l.take 32, some (l.drop 32)) : List UInt8 × Option (List UInt8)).1.length = 32
    by_cases h : l.length < 32
    · rw [if_pos h]; simp [zeros]
    · rw [if_neg h]; simp; omega

theorem Rd.same {w w0 : World} {S : Nat → Prop} {A : Option Addr} {size n : Nat} {xs : List Value} (h : Rd w S A size n xs) (hk : ∀ k, S k → w0.heap[k]? = w.heap[k]?) : Rd w0 S A size n xs :=
  ⟨h.len, h.some_, h.inS, fun j u hu => by
    rw [← h.cell j u hu]
    exact World.cell?_of_block (w := w) (hk _ (by rw [atp_block]; exact h.inS (h.pos_of hu)))⟩
theorem Rd.wide {w : World} {B : Nat} {A : Option Addr} {size n : Nat} {xs : List Value} (h : Rd w (· < B) A size n xs) (hB : B ≤ w.heap.size) : Rd w (· < w.heap.size) A size n xs := h.mono fun _ hk => Nat.lt_of_lt_of_le hk hB

theorem Fr.rdBase {w0 w w' : World} {g B : Nat} {es : List Ent} (hF : Fr [g] w w' es) (hb : Below B w0 w) (hB : B ≤ w0.heap.size) (hg : B ≤ g) {A : Option Addr} {size n : Nat} {xs : List Value} (hr : Rd w0 (· < B) A size n xs) : Rd w' (· < B) A size n xs :=
  hr.same fun k hk => by
    have hk : k < B := hk
    exact (hF.block k (Nat.lt_of_lt_of_le hk (Nat.le_trans hB hb.size)) (by simp; omega)).trans (hb.block k hk)
/-- What the program's reader holds: s is what is left, if all went well. -/
structure RdrAt (w0 : World) (B N : Nat) (s : Option (List UInt8)) (cs : List Value) : Prop where
  ex : ∃ A n c l ok, cs = [.slice A n c, .bool ok] ∧ Rd w0 (· < B) A 1 n (l.map bv) ∧ n ≤ c ∧ n ≤ N ∧ Box (s = if ok = true then some l else none)
/-- What the document's reader holds. -/
structure InAt (A : Option Addr) (n c : Nat) (l : List UInt8) (s : Option (List UInt8)) (cs : List Value) : Prop where
  ex : ∃ q : Int, cs = [.slice A n c, .int .i64 q] ∧ (q = -1 ∧ Box (s = none) ∨ ∃ k : Nat, k ≤ n ∧ q = (k : Int) ∧ Box (s = some (l.drop k)))
/-- What a call leaves that was handed one block: its value, and the block's cells. -/
def Left (w : World) (T : TypeId) (g : Nat) (v : Value) (OK : List Value → Prop) (e : Ending) (w' : World) : Prop :=
  ∃ cs', e = .returned v ∧ w.grownBy w' (some g) ∧ w'.heap[g]? = some (.cells cs'.toArray T (0, 0)) ∧ OK cs'
/-- The same, with bytes that are told. -/
def LeftB (w : World) (T : TypeId) (g : Nat) (t : TypeId) (l : List UInt8) (OK : List Value → Prop) (e : Ending) (w' : World) : Prop :=
  ∃ v cs', e = .returned v ∧ OwnB w' w.heap.size t v l ∧ w.grownBy w' (some g) ∧ w'.heap[g]? = some (.cells cs'.toArray T (0, 0)) ∧ OK cs'
end Go.Proofs.Ytcnjnkkdidpjiaa
