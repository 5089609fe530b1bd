/-
  Layer 19 in plain words: the request that bytes are. No program is named here.
-/
import Derived.Test.YtcnjnkkdidpjiaaWEnc
import Derived.Test.YtcnjnkkdidpjiaaFr4
namespace Go.Proofs.Ytcnjnkkdidpjiaa
open Go.RowKit

/-- The request behind its first byte, as it is taken off. -/
structure Took where
  t1 : List UInt8 × Option (List UInt8)
  t2 : List UInt8 × Option (List UInt8)
  t3 : List UInt8 × Option (List UInt8)
  n1 : Nat × Option (List UInt8)
  n2 : Nat × Option (List UInt8)
  n3 : Nat × Option (List UInt8)
  t4 : List UInt8 × Option (List UInt8)
def took (l : List UInt8) : Took :=
  let t1 := rText 128 (some l)
  let t2 := rText 128 t1.2
  let t3 := rSum t2.2
  let n1 := rCount t3.2
  let n2 := rCount n1.2
  let n3 := rCount n2.2
  ⟨t1, t2, t3, n1, n2, n3, rText 1048576 n3.2⟩
def Took.req (c : UInt8) (t : Took) : Req := ⟨c.toNat, ⟨t.t1.1.toArray⟩, ⟨t.t2.1.toArray⟩, t.t3.1, t.n1.1, t.n2.1, t.n3.1, t.t4.1⟩
def decReq : List UInt8 → Option Req
  | [] => none
  | c :: l => if c.toNat < 1 ∨ 20 < c.toNat then none else if (took l).t4.2 = some [] then some ((took l).req c) else none

/-- What a call that reads a request hands back. -/
def ToldReq (w : World) (t : TypeId) (r : Option Req) (e : Ending) (w' : World) : Prop :=
  ∃ A c, e = .returned (.tuple #[.agg ((r.getD Req.zero).cells A c).toArray, .int .i64 (if r.isSome = true then 0 else 10)]) ∧
    OwnB w' w.heap.size t (.slice A (r.getD Req.zero).body.length c) (r.getD Req.zero).body ∧ Below w.heap.size w w'

/-- Where the parts of a request lie, and how many cells each has. -/
def rqP : List (Nat × Nat) := [(0, 1), (1, 1), (2, 1), (3, 32), (35, 1), (36, 1), (37, 1), (38, 1)]
def rq0 : List Value := rqL (.int .i64 0) (.string ByteArray.empty) (.string ByteArray.empty) (zeros.map bv) (.int .i64 0) (.int .i64 0) (.int .i64 0) (.slice none 0 0)
theorem zeros_len : (zeros.map bv).length = 32 := by simp [zeros]
theorem rq0_fill : Instr.fill (fun i : Nat => rqP[i]?) rq0.toArray [] = some rq0.toArray := rfl
theorem rq0_fill1 {v : Value} (hv : v.cells = #[v]) : Instr.fill (fun i : Nat => rqP[i]?) rq0.toArray [(0, v)] = some (rqL v (.string ByteArray.empty) (.string ByteArray.empty) (zeros.map bv) (.int .i64 0) (.int .i64 0) (.int .i64 0) (.slice none 0 0)).toArray := by
  rw [fill_step (off := 0) (size := 1) rfl (by rw [hv]; rfl) (by rw [rq0, rqL_length zeros_len]; omega), hv]
  rfl
theorem rq_fill {a b c e f g h : Value} {dg : List Value} (hd : dg.length = 32) (ha : a.cells = #[a]) (hb : b.cells = #[b]) (hc : c.cells = #[c]) (he : e.cells = #[e]) (hf : f.cells = #[f]) (hg : g.cells = #[g]) (hh : h.cells = #[h]) :
    Instr.fill (fun i : Nat => rqP[i]?) rq0.toArray [(0, a), (1, b), (2, c), (3, .agg dg.toArray), (4, e), (5, f), (6, g), (7, h)] = some (rqL a b c dg e f g h).toArray := by
  have hz := zeros_len
  unfold rq0
  rw [fill_step (off := 0) (size := 1) rfl (by rw [ha]; rfl) (by rw [rqL_length hz]; omega), ha, rqL_0,
    fill_step (off := 1) (size := 1) rfl (by rw [hb]; rfl) (by rw [rqL_length hz]; omega), hb, rqL_1,
    fill_step (off := 2) (size := 1) rfl (by rw [hc]; rfl) (by rw [rqL_length hz]; omega), hc, rqL_2,
    fill_step (off := 3) (size := 32) rfl (by simpa [Value.cells] using hd) (by rw [rqL_length hz]; omega), show (Value.agg dg.toArray).cells.toList = dg from rfl, rqL_3 hz hd,
    fill_step (off := 35) (size := 1) rfl (by rw [he]; rfl) (by rw [rqL_length hd]; omega), he, rqL_35 hd,
    fill_step (off := 36) (size := 1) rfl (by rw [hf]; rfl) (by rw [rqL_length hd]; omega), hf, rqL_36 hd,
    fill_step (off := 37) (size := 1) rfl (by rw [hg]; rfl) (by rw [rqL_length hd]; omega), hg, rqL_37 hd,
    fill_step (off := 38) (size := 1) rfl (by rw [hh]; rfl) (by rw [rqL_length hd]; omega), hh, rqL_38 hd]
  rfl
theorem rqL_one {a b c e f g h : Value} {dg : List Value} (hd : ∀ u ∈ dg, u.oneCell' = true) (ha : a.oneCell' = true) (hb : b.oneCell' = true) (hc : c.oneCell' = true) (he : e.oneCell' = true) (hf : f.oneCell' = true) (hg : g.oneCell' = true) (hh : h.oneCell' = true) :
    ∀ u ∈ rqL a b c dg e f g h, u.oneCell' = true := by
  intro u hu
  simp only [rqL, List.mem_cons, List.mem_append, List.not_mem_nil, or_false] at hu
  rcases hu with rfl | rfl | rfl | hu | rfl | rfl | rfl | rfl
  all_goals first | assumption | exact hd u hu
theorem took_len (l : List UInt8) : (took l).t3.1.length = 32 := rSum_len _
theorem Req.cells_len (r : Req) (A : Option Addr) (k : Nat) (hd : r.d.length = 32) : (r.cells A k).length = 39 := rqL_length (by simpa using hd)
theorem Req.cells_one (r : Req) (A : Option Addr) (k : Nat) : ∀ u ∈ r.cells A k, u.oneCell' = true := rqL_one (bv_one _) rfl rfl rfl rfl rfl rfl rfl
theorem rq0_len : rq0.length = 39 := rqL_length zeros_len
end Go.Proofs.Ytcnjnkkdidpjiaa
