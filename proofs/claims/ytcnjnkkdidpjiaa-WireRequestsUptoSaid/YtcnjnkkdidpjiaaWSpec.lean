/-
  Layer 19 in plain words: requests as bytes, and back. No program is named here.
-/
import Derived.Test.YtcnjnkkdidpjiaaLib
import Derived.Test.YtcnjnkkdidpjiaaSpec
namespace Go.Proofs.Ytcnjnkkdidpjiaa
open Go.RowKit

def numB (n : Int) : Bool := decide (0 ≤ n) && decide (n ≤ 1099511627776)

structure Req where
  op : Int
  repo : ByteArray
  word : ByteArray
  d : List UInt8
  id : Int
  at_ : Int
  n : Int
  body : List UInt8

/-- The cells of a request. -/
def rqL (a b c : Value) (dg : List Value) (e f g h : Value) : List Value := a :: b :: c :: (dg ++ [e, f, g, h])
def Req.cells (r : Req) (A : Option Addr) (k : Nat) : List Value := rqL (.int .i64 r.op) (.string r.repo) (.string r.word) (r.d.map bv) (.int .i64 r.id) (.int .i64 r.at_) (.int .i64 r.n) (.slice A r.body.length k)
def zeros : List UInt8 := List.replicate 32 0
def Req.zero : Req := ⟨0, ByteArray.empty, ByteArray.empty, zeros, 0, 0, 0, []⟩

theorem rqL_length {a b c : Value} {dg : List Value} {e f g h : Value} (hd : dg.length = 32) : (rqL a b c dg e f g h).length = 39 := by simp [rqL, hd]
theorem rqL_at {a b c : Value} {dg : List Value} {e f g h : Value} (hd : dg.length = 32) :
    (rqL a b c dg e f g h)[35]? = some e ∧ (rqL a b c dg e f g h)[36]? = some f ∧ (rqL a b c dg e f g h)[37]? = some g ∧ (rqL a b c dg e f g h)[38]? = some h := by
  unfold rqL
  refine ⟨?_, ?_, ?_, ?_⟩ <;>
  · simp only [List.getElem?_cons_succ]
    rw [List.getElem?_append_right (by omega)]
    simp [hd]
theorem rqL_dig {a b c : Value} {dg : List Value} {e f g h : Value} {k : Nat} (hd : dg.length = k) : ((rqL a b c dg e f g h).drop 3).take k = dg := by
  unfold rqL
  simp [← hd]
end Go.Proofs.Ytcnjnkkdidpjiaa
