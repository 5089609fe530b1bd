/-
  Layer 19 in plain words: the bytes of a request. No program is named here.
-/
import Derived.Test.YtcnjnkkdidpjiaaWCells
import Derived.Test.YtcnjnkkdidpjiaaWRd
namespace Go.Proofs.Ytcnjnkkdidpjiaa
open Go.RowKit

def reqOk (r : Req) : Bool := decide (1 ≤ r.op) && decide (r.op ≤ 20) && decide (r.repo.size ≤ 128) && decide (r.word.size ≤ 128) && decide (r.body.length ≤ 1048576) && numB r.id && numB r.at_ && numB r.n
def reqB (r : Req) : List UInt8 :=
  [UInt8.ofNat r.op.toNat] ++ textL r.repo.data.toList ++ textL r.word.data.toList ++ r.d ++ cnt r.id.toNat ++ cnt r.at_.toNat ++ cnt r.n.toNat ++ textL r.body
theorem reqOk_of {r : Req} (h1 : 1 ≤ r.op) (h2 : r.op ≤ 20) (h3 : r.repo.size ≤ 128) (h4 : r.word.size ≤ 128) (h5 : r.body.length ≤ 1048576) (h6 : numB r.id = true) (h7 : numB r.at_ = true) (h8 : numB r.n = true) : reqOk r = true := by
  simp [reqOk, *]
theorem reqOk_iff {r : Req} (h : reqOk r = true) : 1 ≤ r.op ∧ r.op ≤ 20 ∧ r.repo.size ≤ 128 ∧ r.word.size ≤ 128 ∧ r.body.length ≤ 1048576 ∧ numB r.id = true ∧ numB r.at_ = true ∧ numB r.n = true := by
  simp only [reqOk, Bool.and_eq_true, decide_eq_true_eq] at h
  obtain ⟨⟨⟨⟨⟨⟨⟨a, b⟩, c⟩, d⟩, e⟩, f⟩, g⟩, i⟩ := h
  exact ⟨a, b, c, d, e, f, g, i⟩
theorem numB_iff {n : Int} (h : numB n = true) : 0 ≤ n ∧ n ≤ 1099511627776 := by simpa [numB] using h
theorem numB_not {n : Int} (h : ¬ (0 ≤ n ∧ n ≤ 1099511627776)) : numB n = false := by
  unfold numB
  by_cases h0 : 0 ≤ n
  · have : ¬ n ≤ 1099511627776 := fun h1 => h ⟨h0, h1⟩
    simp [this]
  · simp [h0]
/-- What a call hands back: bytes of its own and an error's number; nothing else has changed. -/
def Told (w : World) (t : TypeId) (l : List UInt8) (er : Int) (e : Ending) (w' : World) : Prop :=
  ∃ v, e = .returned (.tuple #[v, .int .i64 er]) ∧ OwnB w' w.heap.size t v l ∧ Below w.heap.size w w'
end Go.Proofs.Ytcnjnkkdidpjiaa
