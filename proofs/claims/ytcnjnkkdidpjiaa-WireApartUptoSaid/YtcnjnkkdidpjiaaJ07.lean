/-
  Layer 19 in plain words: the request that bytes are. No program is named here.
  Layer 1: plain laws on counts. No program is named here.
  Texts that are read back, plainly.
  Layer 19 in plain words: replies as bytes. No program is named here.
  Laws over a frame of known blocks, for slices of any elements: appends, elements of several cells, literals of one element. No program is named here.
  Layer 19: lists of texts and of sums as types of this program.
  The walk of octet.Text.
-/
import Derived.Test.YtcnjnkkdidpjiaaJ06
import Derived.Test.YtcnjnkkdidpjiaaJ02
namespace Go.Proofs.Ytcnjnkkdidpjiaa
open Go.RowKit

/-- The request behind its first byte, as it is taken off. -/
structure Took where
  t1 : List UInt8 × Option (List UInt8)
  t2 : List UInt8 × Option (List UInt8)
  t3 : List UInt8 × Option (List UInt8)
  n1 : Nat × Option (List UInt8)
  n2 : Nat × Option (List UInt8)
  n3 : Nat × Option (List UInt8)
  t4 : List UInt8 × Option (List UInt8)
def took (l : List UInt8) : Took :=
  let t1 := rText 128 (some l)
  let t2 := rText 128 t1.2
  let t3 := rSum t2.2
  let n1 := rCount t3.2
  let n2 := rCount n1.2
  let n3 := rCount n2.2
  ⟨t1, t2, t3, n1, n2, n3, rText 1048576 n3.2⟩
def Took.req (c : UInt8) (t : Took) : Req := ⟨c.toNat, ⟨t.t1.1.toArray⟩, ⟨t.t2.1.toArray⟩, t.t3.1, t.n1.1, t.n2.1, t.n3.1, t.t4.1⟩
def decReq : List UInt8 → Option Req
  | [] => none
  | c :: l => if c.toNat < 1 ∨ 20 < c.toNat then none else if (took l).t4.2 = some [] then some ((took l).req c) else none

/-- What a call that reads a request hands back. -/
def ToldReq (w : World) (t : TypeId) (r : Option Req) (e : Ending) (w' : World) : Prop :=
  ∃ A c, e = .returned (.tuple #[.agg ((r.getD Req.zero).cells A c).toArray, .int .i64 (if r.isSome = true then 0 else 10)]) ∧
    OwnB w' w.heap.size t (.slice A (r.getD Req.zero).body.length c) (r.getD Req.zero).body ∧ Below w.heap.size w w'

/-- Where the parts of a request lie, and how many cells each has. -/
def rqP : List (Nat × Nat) := [(0, 1), (1, 1), (2, 1), (3, 32), (35, 1), (36, 1), (37, 1), (38, 1)]
def rq0 : List Value := rqL (.int .i64 0) (.string ByteArray.empty) (.string ByteArray.empty) (zeros.map bv) (.int .i64 0) (.int .i64 0) (.int .i64 0) (.slice none 0 0)
theorem zeros_len : (zeros.map bv).length = 32 := by simp [zeros]
theorem rq0_fill : Instr.fill (fun i : Nat => rqP[i]?) rq0.toArray [] = some rq0.toArray := rfl
theorem rq0_fill1 {v : Value} (hv : v.cells = #[v]) : Instr.fill (fun i : Nat => rqP[i]?) rq0.toArray [(0, v)] = some (rqL v (.string ByteArray.empty) (.string ByteArray.empty) (zeros.map bv) (.int .i64 0) (.int .i64 0) (.int .i64 0) (.slice none 0 0)).toArray := by
  rw [fill_step (off := 0) (size := 1) rfl (by rw [hv]; rfl) (by rw [rq0, rqL_length zeros_len]; omega), hv]
  rfl
theorem rq_fill {a b c e f g h : Value} {dg : List Value} (hd : dg.length = 32) (ha : a.cells = #[a]) (hb : b.cells = #[b]) (hc : c.cells = #[c]) (he : e.cells = #[e]) (hf : f.cells = #[f]) (hg : g.cells = #[g]) (hh : h.cells = #[h]) :
    Instr.fill (fun i : Nat => rqP[i]?) rq0.toArray [(0, a), (1, b), (2, c), (3, .agg dg.toArray), (4, e), (5, f), (6, g), (7, h)] = some (rqL a b c dg e f g h).toArray := by
  have hz := zeros_len
  unfold rq0
  rw [fill_step (off := 0) (size := 1) rfl (by rw [ha]; rfl) (by rw [rqL_length hz]; omega), ha, rqL_0,
    fill_step (off := 1) (size := 1) rfl (by rw [hb]; rfl) (by rw [rqL_length hz]; omega), hb, rqL_1,
    fill_step (off := 2) (size := 1) rfl (by rw [hc]; rfl) (by rw [rqL_length hz]; omega), hc, rqL_2,
    fill_step (off := 3) (size := 32) rfl (by simpa [Value.cells] using hd) (by rw [rqL_length hz]; omega), show (Value.agg dg.toArray).cells.toList = dg from rfl, rqL_3 hz hd,
    fill_step (off := 35) (size := 1) rfl (by rw [he]; rfl) (by rw [rqL_length hd]; omega), he, rqL_35 hd,
    fill_step (off := 36) (size := 1) rfl (by rw [hf]; rfl) (by rw [rqL_length hd]; omega), hf, rqL_36 hd,
    fill_step (off := 37) (size := 1) rfl (by rw [hg]; rfl) (by rw [rqL_length hd]; omega), hg, rqL_37 hd,
    fill_step (off := 38) (size := 1) rfl (by rw [hh]; rfl) (by rw [rqL_length hd]; omega), hh, rqL_38 hd]
  rfl
theorem rqL_one {a b c e f g h : Value} {dg : List Value} (hd : ∀ u ∈ dg, u.oneCell' = true) (ha : a.oneCell' = true) (hb : b.oneCell' = true) (hc : c.oneCell' = true) (he : e.oneCell' = true) (hf : f.oneCell' = true) (hg : g.oneCell' = true) (hh : h.oneCell' = true) :
    ∀ u ∈ rqL a b c dg e f g h, u.oneCell' = true := by
  intro u hu
  simp only [rqL, List.mem_cons, List.mem_append, List.not_mem_nil, or_false] at hu
  rcases hu with rfl | rfl | rfl | hu | rfl | rfl | rfl | rfl
  all_goals first | assumption | exact hd u hu
theorem took_len (l : List UInt8) : (took l).t3.1.length = 32 := rSum_len _
theorem Req.cells_len (r : Req) (A : Option Addr) (k : Nat) (hd : r.d.length = 32) : (r.cells A k).length = 39 := rqL_length (by simpa using hd)
theorem Req.cells_one (r : Req) (A : Option Addr) (k : Nat) : ∀ u ∈ r.cells A k, u.oneCell' = true := rqL_one (bv_one _) rfl rfl rfl rfl rfl rfl rfl
theorem rq0_len : rq0.length = 39 := rqL_length zeros_len
end Go.Proofs.Ytcnjnkkdidpjiaa

namespace Go.Proofs.Ytcnjnkkdidpjiaa

theorem u8_big (c : UInt8) (h : 128 ≤ c.toNat) : UInt8.ofNat (c.toNat % 128 + 128) = c := by
  have := c.toNat_lt
  rw [show c.toNat % 128 + 128 = c.toNat by omega]; simp

/-- What is read is the shortest form. -/
theorem rdc_cnt_from : ∀ (l : List UInt8) (i a : Nat), (rdc i a l).2.2 = 0 →
    ∃ y, (rdc i a l).1 = a + y * 2 ^ (7 * i) ∧ (rdc i a l).2.1 = i + (cnt y).length ∧ l.take (cnt y).length = cnt y ∧ (0 < i → y ≠ 0)
  | [], i, a, h => by simp [rdc] at h
  | c :: l, i, a, h => by
    rw [rdc] at h ⊢
    by_cases h1 : (i = 9 ∧ 1 < c.toNat) ∨ (0 < i ∧ c.toNat = 0)
    · rw [if_pos h1] at h; simp at h
    · rw [if_neg h1] at h ⊢
      by_cases h2 : c.toNat < 128
      · rw [if_pos h2]
        have hc : cnt c.toNat = [c] := by rw [cnt_small h2]; simp
        refine ⟨c.toNat, by simp only []; rw [Nat.mod_eq_of_lt h2], by rw [hc]; rfl, by rw [hc]; rfl, fun hi h0 => h1 (.inr ⟨hi, h0⟩)⟩
      · rw [if_neg h2] at h ⊢
        obtain ⟨y, e1, e2, e3, e4⟩ := rdc_cnt_from l (i + 1) _ h
        have hy := e4 (by omega)
        have hlt := c.toNat_lt
        have hm : (c.toNat % 128 + 128 * y) % 128 = c.toNat % 128 := by omega
        have hd : (c.toNat % 128 + 128 * y) / 128 = y := by omega
        have hc : cnt (c.toNat % 128 + 128 * y) = c :: cnt y := by
          rw [cnt_big (by omega), hm, hd, u8_big c (by omega)]
        refine ⟨c.toNat % 128 + 128 * y, ?_, ?_, ?_, fun _ => by omega⟩
        · rw [e1, show 7 * (i + 1) = 7 * i + 7 by omega, Nat.pow_add, Nat.add_mul]
          have : y * (2 ^ (7 * i) * 2 ^ 7) = 128 * y * 2 ^ (7 * i) := by
            rw [Nat.mul_comm (2 ^ (7 * i)), ← Nat.mul_assoc, Nat.mul_comm y]
          rw [this]; omega
        · rw [e2, hc, List.length_cons]; omega
        · rw [hc, List.length_cons, List.take_succ_cons, e3]
theorem rdc_cnt {l : List UInt8} (h : (rdc 0 0 l).2.2 = 0) : cnt (rdc 0 0 l).1 = l.take (rdc 0 0 l).2.1 ∧ (rdc 0 0 l).2.1 ≤ l.length := by
  obtain ⟨y, e1, e2, e3, _⟩ := rdc_cnt_from l 0 0 h
  have hx : (rdc 0 0 l).1 = y := by rw [e1]; simp
  have hu : (rdc 0 0 l).2.1 = (cnt y).length := by rw [e2]; simp
  rw [hx, hu, e3]
  refine ⟨rfl, ?_⟩
  have := congrArg List.length e3
  rw [List.length_take] at this
  omega

/-- A count is read back, whatever stands behind it. -/
theorem rdc_back_from : ∀ (k y i a : Nat) (m : List UInt8), y < 2 ^ (7 * (k + 1)) → (i + k = 9 → y < 2 ^ (64 - 7 * i)) → i + k ≤ 9 → (0 < i → y ≠ 0) →
    rdc i a (cnt y ++ m) = (a + y * 2 ^ (7 * i), i + (cnt y).length, 0)
  | 0, y, i, a, m, h, h9, hik, h0 => by
    have hy : y < 128 := by simpa using h
    rw [cnt_small hy, List.singleton_append, rdc]
    have hc : (UInt8.ofNat y).toNat = y := by simp; omega
    rw [hc, if_neg ?_, if_pos hy, Nat.mod_eq_of_lt hy]
    · rfl
    · rintro (⟨rfl, h1⟩ | ⟨hi, h1⟩)
      · have := h9 rfl; simp at this; omega
      · exact h0 hi h1
  | k + 1, y, i, a, m, h, h9, hik, h0 => by
    by_cases hy : y < 128
    · rw [cnt_small hy, List.singleton_append, rdc]
      have hc : (UInt8.ofNat y).toNat = y := by simp; omega
      rw [hc, if_neg ?_, if_pos hy, Nat.mod_eq_of_lt hy]
      · rfl
      · rintro (⟨rfl, h1⟩ | ⟨hi, h1⟩)
        · omega
        · exact h0 hi h1
    · rw [cnt_big (by omega), List.cons_append, rdc]
      have hc : (UInt8.ofNat (y % 128 + 128)).toNat = y % 128 + 128 := by simp; omega
      rw [hc, if_neg (by omega), if_neg (by omega)]
      have hp : 7 * (k + 1 + 1) = 7 * (k + 1) + 7 := by omega
      rw [rdc_back_from k (y / 128) (i + 1) _ m (by rw [hp, Nat.pow_add] at h; omega) (fun he => ?_) (by omega) (fun _ => by omega)]
      · simp only [List.length_cons, Prod.mk.injEq, and_true]
        refine ⟨?_, by omega⟩
        rw [show 7 * (i + 1) = 7 * i + 7 by omega, Nat.pow_add, show (y % 128 + 128) % 128 = y % 128 by omega]
        have h1 : y = y % 128 + 128 * (y / 128) := by omega
        have h2 : y / 128 * (2 ^ (7 * i) * 2 ^ 7) = 128 * (y / 128) * 2 ^ (7 * i) := by
          rw [Nat.mul_comm (2 ^ (7 * i)), ← Nat.mul_assoc, Nat.mul_comm (y / 128)]
        have h3 : y * 2 ^ (7 * i) = y % 128 * 2 ^ (7 * i) + 128 * (y / 128) * 2 ^ (7 * i) := by rw [← Nat.add_mul, ← h1]
        rw [h2, h3]; omega
      · have h10 := h9 (by omega)
        have hq : 64 - 7 * i = (64 - 7 * (i + 1)) + 7 := by omega
        rw [hq, Nat.pow_add] at h10
        omega
theorem rdc_back (n : Nat) (m : List UInt8) (h : n < 18446744073709551616) : rdc 0 0 (cnt n ++ m) = (n, (cnt n).length, 0) := by
  rw [rdc_back_from 9 n 0 0 m (Nat.lt_of_lt_of_le h (by decide)) (fun _ => Nat.lt_of_lt_of_le h (by decide)) (by omega) (fun h => absurd h (by omega))]
  simp

/-- A byte short it ends too early. -/
theorem rdc_cut_from : ∀ (k y i a : Nat), y < 2 ^ (7 * (k + 1)) → i + k ≤ 9 → (rdc i a ((cnt y).take ((cnt y).length - 1))).2.2 = 9
  | 0, y, i, a, h, _ => by
    have hy : y < 128 := by simpa using h
    rw [cnt_small hy]; rfl
  | k + 1, y, i, a, h, hik => by
    by_cases hy : y < 128
    · rw [cnt_small hy]; rfl
    · rw [cnt_big (by omega), List.length_cons, Nat.add_sub_cancel]
      have hpos := cnt_pos (y / 128)
      obtain ⟨q, hq⟩ : ∃ q, (cnt (y / 128)).length = q + 1 := ⟨(cnt (y / 128)).length - 1, by omega⟩
      have hc : (UInt8.ofNat (y % 128 + 128)).toNat = y % 128 + 128 := by simp; omega
      rw [hq, List.take_succ_cons, rdc, hc, if_neg (by omega), if_neg (by omega)]
      have hp : 7 * (k + 1 + 1) = 7 * (k + 1) + 7 := by omega
      have := rdc_cut_from k (y / 128) (i + 1) (a + (y % 128 + 128) % 128 * 2 ^ (7 * i)) (by rw [hp, Nat.pow_add] at h; omega) (by omega)
      rw [hq, Nat.add_sub_cancel] at this
      exact this
theorem rdc_cut (n : Nat) (h : n < 18446744073709551616) : (rdc 0 0 ((cnt n).take ((cnt n).length - 1))).2.2 = 9 :=
  rdc_cut_from 9 n 0 0 (Nat.lt_of_lt_of_le h (by decide)) (by omega)
end Go.Proofs.Ytcnjnkkdidpjiaa

namespace Go.Proofs.Ytcnjnkkdidpjiaa
open Go.RowKit

theorem textL_len (l : List UInt8) (h : l.length ≤ 1048576) : (textL l).length ≤ l.length + 10 := by
  unfold textL
  have := cnt_len64 (n := l.length) (by omega)
  rw [List.length_append]; omega
theorem rdt_back (l m : List UInt8) (h : l.length ≤ 1048576) : rdt (textL l ++ m) (l.length : Int) = (l, (textL l).length, 0) := by
  have hb := rdc_back l.length (l ++ m) (by omega)
  unfold rdt textL
  rw [List.append_assoc, hb]
  simp only []
  rw [if_neg (by decide), if_neg (by omega), if_neg (by simp only [List.length_append]; omega)]
  simp
theorem rdt_less (l : List UInt8) (h : l.length ≤ 1048576) : (rdt (textL l) ((l.length : Int) - 1)).2.2 = 8 := by
  have hb := rdc_back l.length l (by omega)
  unfold rdt textL
  rw [hb]
  simp only []
  rw [if_neg (by decide), if_pos (by omega)]
theorem rdt_err (l : List UInt8) (most : Int) : (rdt l most).2.2 ≤ 10 := by
  have h := rdc_err l 0 0
  unfold rdt
  simp only []
  repeat' split
  all_goals simp only []
  all_goals omega
theorem rdt_fst (l : List UInt8) (most : Int) : (rdt l most).1.length ≤ l.length := by
  unfold rdt
  simp only []
  repeat' split
  all_goals simp only [List.length_nil, List.length_take, List.length_drop]
  all_goals omega
theorem rdt_snd (l : List UInt8) (most : Int) : (rdt l most).2.1 ≤ l.length := by
  have h := rdc_used l 0 0
  unfold rdt
  simp only []
  repeat' split
  all_goals simp only []
  all_goals omega

end Go.Proofs.Ytcnjnkkdidpjiaa

namespace Go.Proofs.Ytcnjnkkdidpjiaa
open Go.RowKit

structure Rep where
  code : Int
  d : List UInt8
  n : Int
  m : Int
  body : List UInt8
  words : List ByteArray
  sums : List (List UInt8)

/-- The cells of a reply. -/
def rpL (a : Value) (dg : List Value) (e f g h i : Value) : List Value := a :: (dg ++ [e, f, g, h, i])
def Rep.cells (r : Rep) (A B C : Option Addr) (k kb kc : Nat) : List Value := rpL (.int .i64 r.code) (r.d.map bv) (.int .i64 r.n) (.int .i64 r.m) (.slice A r.body.length k) (.slice B r.words.length kb) (.slice C r.sums.length kc)
def Rep.zero : Rep := ⟨0, zeros, 0, 0, [], [], []⟩
def sumC (l : List (List UInt8)) : List Value := l.flatten.map bv
def sums32 (l : List (List UInt8)) : Prop := ∀ s ∈ l, s.length = 32

theorem rpL_length {a : Value} {dg : List Value} {e f g h i : Value} (hd : dg.length = 32) : (rpL a dg e f g h i).length = 38 := by simp [rpL, hd]
theorem rpL_at {a : Value} {dg : List Value} {e f g h i : Value} (hd : dg.length = 32) :
    (rpL a dg e f g h i)[33]? = some e ∧ (rpL a dg e f g h i)[34]? = some f ∧ (rpL a dg e f g h i)[35]? = some g ∧ (rpL a dg e f g h i)[36]? = some h ∧ (rpL a dg e f g h i)[37]? = some i := by
  unfold rpL
  refine ⟨?_, ?_, ?_, ?_, ?_⟩ <;>
  · simp only [List.getElem?_cons_succ]
    rw [List.getElem?_append_right (by omega)]
    simp [hd]
theorem rpL_dig {a : Value} {dg : List Value} {e f g h i : Value} {k : Nat} (hd : dg.length = k) : ((rpL a dg e f g h i).drop 1).take k = dg := by
  unfold rpL
  simp [← hd]
theorem rpL_one {a : Value} {dg : List Value} {e f g h i : Value} (hd : ∀ u ∈ dg, u.oneCell' = true) (ha : a.oneCell' = true) (he : e.oneCell' = true) (hf : f.oneCell' = true) (hg : g.oneCell' = true) (hh : h.oneCell' = true) (hi : i.oneCell' = true) :
    ∀ u ∈ rpL a dg e f g h i, u.oneCell' = true := by
  intro u hu
  simp only [rpL, List.mem_cons, List.mem_append, List.not_mem_nil, or_false] at hu
  rcases hu with rfl | hu | rfl | rfl | rfl | rfl | rfl
  all_goals first | assumption | exact hd u hu
section
variable {a v : Value} {dg ds : List Value} {e f g h i : Value}
theorem rpL_0 : spl (rpL a dg e f g h i) 0 [v] = rpL v dg e f g h i := rfl
theorem rpL_1 (hd : dg.length = 32) (hs : ds.length = 32) : spl (rpL a dg e f g h i) 1 ds = rpL a ds e f g h i := spl_at (p := [a]) (q := dg) rfl (by omega)
theorem rpL_33 (hd : dg.length = 32) : spl (rpL a dg e f g h i) 33 [v] = rpL a dg v f g h i := by
  have := spl_at (p := a :: dg) (q := [e]) (r := [f, g, h, i]) (ds := [v]) (off := 33) (by simp [hd]) rfl
  simpa [rpL] using this
theorem rpL_34 (hd : dg.length = 32) : spl (rpL a dg e f g h i) 34 [v] = rpL a dg e v g h i := by
  have := spl_at (p := a :: (dg ++ [e])) (q := [f]) (r := [g, h, i]) (ds := [v]) (off := 34) (by simp [hd]) rfl
  simpa [rpL] using this
theorem rpL_35 (hd : dg.length = 32) : spl (rpL a dg e f g h i) 35 [v] = rpL a dg e f v h i := by
  have := spl_at (p := a :: (dg ++ [e, f])) (q := [g]) (r := [h, i]) (ds := [v]) (off := 35) (by simp [hd]) rfl
  simpa [rpL] using this
theorem rpL_36 (hd : dg.length = 32) : spl (rpL a dg e f g h i) 36 [v] = rpL a dg e f g v i := by
  have := spl_at (p := a :: (dg ++ [e, f, g])) (q := [h]) (r := [i]) (ds := [v]) (off := 36) (by simp [hd]) rfl
  simpa [rpL] using this
theorem rpL_37 (hd : dg.length = 32) : spl (rpL a dg e f g h i) 37 [v] = rpL a dg e f g h v := by
  have := spl_at (p := a :: (dg ++ [e, f, g, h])) (q := [i]) (r := []) (ds := [v]) (off := 37) (by simp [hd]) rfl
  simpa [rpL] using this
end
/-- Where the parts of a reply lie, and how many cells each has. -/
def rpP : List (Nat × Nat) := [(0, 1), (1, 32), (33, 1), (34, 1), (35, 1), (36, 1), (37, 1)]
def rp0 : List Value := rpL (.int .i64 0) (zeros.map bv) (.int .i64 0) (.int .i64 0) (.slice none 0 0) (.slice none 0 0) (.slice none 0 0)
theorem rp0_len : rp0.length = 38 := rpL_length zeros_len
theorem rp0_fill : Instr.fill (fun i : Nat => rpP[i]?) rp0.toArray [] = some rp0.toArray := rfl
theorem rp0_fill1 {v : Value} (hv : v.cells = #[v]) : Instr.fill (fun i : Nat => rpP[i]?) rp0.toArray [(0, v)] = some (rpL v (zeros.map bv) (.int .i64 0) (.int .i64 0) (.slice none 0 0) (.slice none 0 0) (.slice none 0 0)).toArray := by
  rw [fill_step (off := 0) (size := 1) rfl (by rw [hv]; rfl) (by rw [rp0_len]; omega), hv]
  rfl
theorem rp_fill {a e f g h : Value} {dg : List Value} (hd : dg.length = 32) (ha : a.cells = #[a]) (he : e.cells = #[e]) (hf : f.cells = #[f]) (hg : g.cells = #[g]) (hh : h.cells = #[h]) :
    Instr.fill (fun i : Nat => rpP[i]?) rp0.toArray [(0, a), (1, .agg dg.toArray), (2, e), (3, f), (4, g), (5, h)] = some (rpL a dg e f g h (.slice none 0 0)).toArray := by
  have hz := zeros_len
  unfold rp0
  rw [fill_step (off := 0) (size := 1) rfl (by rw [ha]; rfl) (by rw [rpL_length hz]; omega), ha, rpL_0,
    fill_step (off := 1) (size := 32) rfl (by simpa [Value.cells] using hd) (by rw [rpL_length hz]; omega), show (Value.agg dg.toArray).cells.toList = dg from rfl, rpL_1 hz hd,
    fill_step (off := 33) (size := 1) rfl (by rw [he]; rfl) (by rw [rpL_length hd]; omega), he, rpL_33 hd,
    fill_step (off := 34) (size := 1) rfl (by rw [hf]; rfl) (by rw [rpL_length hd]; omega), hf, rpL_34 hd,
    fill_step (off := 35) (size := 1) rfl (by rw [hg]; rfl) (by rw [rpL_length hd]; omega), hg, rpL_35 hd,
    fill_step (off := 36) (size := 1) rfl (by rw [hh]; rfl) (by rw [rpL_length hd]; omega), hh, rpL_36 hd]
  rfl
theorem Rep.cells_len (r : Rep) (A B C : Option Addr) (k kb kc : Nat) (hd : r.d.length = 32) : (r.cells A B C k kb kc).length = 38 := rpL_length (by simpa using hd)
theorem Rep.cells_one (r : Rep) (A B C : Option Addr) (k kb kc : Nat) : ∀ u ∈ r.cells A B C k kb kc, u.oneCell' = true := rpL_one (bv_one _) rfl rfl rfl rfl rfl rfl

/-- The bytes of a reply. -/
def wordsB : List ByteArray → List UInt8
  | [] => []
  | w :: l => textL w.data.toList ++ wordsB l
theorem wordsB_snoc : ∀ (l : List ByteArray) (w : ByteArray), wordsB (l ++ [w]) = wordsB l ++ textL w.data.toList
  | [], w => by simp [wordsB]
  | v :: l, w => by rw [List.cons_append, wordsB, wordsB_snoc l w, wordsB, List.append_assoc]
def wordOk (w : ByteArray) : Bool := decide (w.size ≤ 128)
theorem wordsB_len : ∀ (l : List ByteArray), l.all wordOk = true → (wordsB l).length ≤ 138 * l.length
  | [], _ => by simp [wordsB]
  | w :: l, h => by
    simp only [List.all_cons, Bool.and_eq_true] at h
    have hw : w.size ≤ 128 := by simpa [wordOk] using h.1
    have h1 := textL_len w.data.toList (by rw [str_len]; omega)
    have h2 := wordsB_len l h.2
    rw [str_len] at h1
    rw [wordsB, List.length_append, List.length_cons]; omega
theorem sums_len {l : List (List UInt8)} (h : sums32 l) : l.flatten.length = 32 * l.length := by
  induction l with
  | nil => rfl
  | cons s l ih =>
    have h1 := h s (by simp)
    have h2 := ih fun t ht => h t (by simp [ht])
    rw [List.flatten_cons, List.length_append, List.length_cons, h1, h2]; omega
theorem sums_snoc (l : List (List UInt8)) (s : List UInt8) : (l ++ [s]).flatten = l.flatten ++ s := by simp
theorem sums_at {l : List (List UInt8)} (h : sums32 l) : ∀ {k : Nat} {s : List UInt8}, l[k]? = some s → (l.flatten.drop (k * 32)).take 32 = s := by
  induction l with
  | nil => intro k s hk; simp at hk
  | cons t l ih =>
    intro k s hk
    have h1 := h t (by simp)
    match k, hk with
    | 0, hk =>
      injection hk with hk; subst hk
      rw [Nat.zero_mul, List.drop_zero, List.flatten_cons, List.take_left' h1]
    | k + 1, hk =>
      have := ih (fun u hu => h u (by simp [hu])) (k := k) (s := s) hk
      rw [List.flatten_cons, show (k + 1) * 32 = t.length + k * 32 by rw [h1]; omega, List.drop_append, List.drop_of_length_le (by omega), List.nil_append, Nat.add_sub_cancel_left]
      exact this
theorem sumC_at {l : List (List UInt8)} (h : sums32 l) {k : Nat} {s : List UInt8} (hk : l[k]? = some s) : ((sumC l).drop (k * 32)).take (s.map bv).length = s.map bv := by
  have h2 := sums_at h hk
  have h3 : s.length = 32 := h s (List.mem_of_getElem? hk)
  unfold sumC
  rw [List.length_map, h3, ← List.map_drop, ← List.map_take, h2]
def repOk (r : Rep) : Bool := decide (0 ≤ r.code) && decide (r.code ≤ 255) && numB r.n && numB r.m && decide (r.body.length ≤ 1048576) && decide (r.words.length ≤ 100) && decide (r.sums.length ≤ 4096) && r.words.all wordOk
def repB (r : Rep) : List UInt8 :=
  [UInt8.ofNat r.code.toNat] ++ r.d ++ cnt r.n.toNat ++ cnt r.m.toNat ++ textL r.body ++ cnt r.words.length ++ wordsB r.words ++ cnt r.sums.length ++ r.sums.flatten
theorem repOk_of {r : Rep} (h1 : 0 ≤ r.code) (h2 : r.code ≤ 255) (h3 : numB r.n = true) (h4 : numB r.m = true) (h5 : r.body.length ≤ 1048576) (h6 : r.words.length ≤ 100) (h7 : r.sums.length ≤ 4096) (h8 : r.words.all wordOk = true) : repOk r = true := by
  simp [repOk, *]
theorem repOk_iff {r : Rep} (h : repOk r = true) : 0 ≤ r.code ∧ r.code ≤ 255 ∧ numB r.n = true ∧ numB r.m = true ∧ r.body.length ≤ 1048576 ∧ r.words.length ≤ 100 ∧ r.sums.length ≤ 4096 ∧ r.words.all wordOk = true := by
  simp only [repOk, Bool.and_eq_true, decide_eq_true_eq] at h
  obtain ⟨⟨⟨⟨⟨⟨⟨a, b⟩, c⟩, d⟩, e⟩, f⟩, g⟩, i⟩ := h
  exact ⟨a, b, c, d, e, f, g, i⟩
/-- What of memory a reply that came in reads. -/
structure RepRd (w : World) (r : Rep) (A B C : Option Addr) : Prop where
  d : r.d.length = 32
  body : Rd w (· < w.heap.size) A 1 r.body.length (r.body.map bv)
  words : Rd w (· < w.heap.size) B 1 r.words.length (r.words.map Value.string)
  sums : Rd w (· < w.heap.size) C 32 r.sums.length (sumC r.sums)
  each : sums32 r.sums
end Go.Proofs.Ytcnjnkkdidpjiaa

namespace Go.Proofs.Ytcnjnkkdidpjiaa
open Go.RowKit

section laws
variable {P : Program} {o : Oper} {a : Act} {X : List Nat} {w0 w : World} {es : List Ent} {K : Act → World → Prop} {Q : Exit → Act → World → Prop}
/-- Elements appended to a slice that the call owns. -/
theorem wp_fappG {sl e : TypeId} {size bytes : Nat} {z : Value} (T : SlT P sl e size bytes z) (hF : Fr X w0 w es) {i b : Nat} {v : Value} {n : Nat} {xs : List Value} (hi : es[i]? = some (.own b e size v n xs)) (hb : b ≤ w0.heap.size) {S : Nat → Prop} {A : Option Addr} {m c : Nat} {news : List Value} (hr : Rd w S A size m news) (h1 : ∀ u ∈ news, u.oneCell' = true)
    (ho : IsApp o a sl v (.slice A m c)) (h63 : n + m ≤ maxLen) (hbytes : (n + m) * bytes ≤ 140737488355328)
    (k : ∀ v' w', Fr X w0 w' (es.set i (.own b e size v' (n + m) (xs ++ news))) → w.heap.size ≤ w'.heap.size → K (a.put o.dst v') w') : o.wp P a w K Q := by
  have hown : w.ownsRow b e size v n xs := hF.holds i _ hi
  have hbw : b ≤ w.heap.size := Nat.le_trans hb hF.size
  refine wp_app T hown hr ho h1 h63 hbytes hbw fun v' w' h2 h3 h4 => k v' w' (hF.put hi h3 h2 (h4.imp id fun h b hb => ?_)) h3.size
  have hb : v'.ownBlock = some b := hb
  rw [h] at hb; injection hb with hb; omega
/-- An element of several cells is read. -/
theorem wp_loadA {S : Nat → Prop} {A : Option Addr} {n size : Nat} {xs : List Value} (hr : Rd w S A size n xs) {e : TypeId} {j : Nat} {d : TypeDesc} (hu : P.underlying e = some d) (hd : aggT d = true) (ho : IsLd o a e (atp A j)) {ds : List Value} (hs : (P.info? e).map (·.size) = some ds.length)
    (hc : (xs.drop j).take ds.length = ds) (k : K (a.put o.dst (.agg ds.toArray)) w) : o.wp P a w K Q := by
  obtain ⟨x, ho, hx⟩ := ho
  have hagg := run_isAgg hu w
  rw [hd] at hagg
  obtain ⟨i, hi, hsz⟩ := Option.map_eq_some_iff.1 hs
  have hl : (loadCells (atp A j) ds.length).run P w = .ok ds.toArray w := run_loadCells_list (P := P) w (atp A j) ds (fun q v hv => by
    unfold atp
    rw [add_add]
    refine hr.cell (j + q) v ?_
    rw [← hc, List.getElem?_take] at hv
    split at hv
    · rw [List.getElem?_drop] at hv; exact hv
    · cases hv)
  refine wp_run (v := .agg ds.toArray) (w' := w) ?_ k
  unfold execOp
  simp [ho, hx, Instr.loadAt, Instr.sureAddr, loadVar, hagg, sizeOf, typeInfo, hi, hsz, hl]
/-- A slice literal of one element of several cells. -/
theorem wp_fbs1 {sl e : TypeId} {size bytes : Nat} {z : Value} (T : SlT P sl e size bytes z) (hF : Fr X w0 w es) {x : Operand} (ho : o.op = .buildSlice sl 1 #[(0, x)]) {ds : List Value} (hx : (a.eval x).cells = ds.toArray) (hds : ds.length = size) (h16 : size ≤ 16777216)
    (k : ∀ w' g, Fr X w0 w' (.own w0.heap.size e size (.slice (some ⟨g, 0, none⟩) 1 1) 1 ds :: es) → w'.heap.size = w.heap.size + 1 → K (a.put o.dst (.slice (some ⟨g, 0, none⟩) 1 1)) w') : o.wp P a w K Q := by
  obtain ⟨i, hi, hz, hs, hby⟩ := info_parts T.info
  have hzc : (zeroValue e).run P w = .ok z w := by simp [zeroValue, typeInfo, hi, hz]
  have hsz : (sizeOf e).run P w = .ok size w := by simp [sizeOf, typeInfo, hi, hs]
  have hown : (w.alloc (.cells ds.toArray e)).ownsRow w0.heap.size e size (.slice (some ⟨w.heap.size, 0, none⟩) 1 1) 1 ds := by
    have := World.ownsRow_lit (e := e) (size := size) (base := w0.heap.size) w ds.toArray 1 hF.size (by unfold maxLen; omega) (by simp [hds])
    simpa using this
  have hF' := hF.more (World.grownBy_alloc w (.cells ds.toArray e) none) (e := .own w0.heap.size e size (.slice (some ⟨w.heap.size, 0, none⟩) 1 1) 1 ds) hown (fun b hb => by
    have hb : some w.heap.size = some b := hb
    injection hb with hb; omega)
  refine wp_run (v := .slice (some ⟨w.heap.size, 0, none⟩) 1 1) (w' := w.alloc (.cells ds.toArray e)) ?_ (k _ _ hF' (by simp))
  have hpos := T.pos
  have hcell := T.zs
  have hmap : ((Array.range (1 * size)).map (fun q => z.cells[q % z.cells.size]!)).toList.length = size := by simp
  have hf := fill_step (place := fun i => some (i * size, size)) (cells := ((Array.range (1 * size)).map (fun q => z.cells[q % z.cells.size]!)).toList) (i := 0) (off := 0 * size) (size := size) (v := a.eval x) (rest := []) rfl (by rw [hx]; simpa using hds) (by rw [hmap]; omega)
  rw [hx] at hf
  have hspl : spl ((Array.range (1 * size)).map (fun q => z.cells[q % z.cells.size]!)).toList (0 * size) ds.toArray.toList = ds := by
    rw [Nat.zero_mul]; exact spl_all (by rw [hmap]; simpa using hds)
  rw [hspl, Array.toArray_toList] at hf
  have hle' : (1 * size > 2 ^ 24) = False := eq_false (by omega)
  have h0' : (1 * size = 0) = False := eq_false (by omega)
  have hp : (#[(0, x)] : Array (Nat × Operand)).map (fun p => (p.1, a.eval p.2)) = #[(0, a.eval x)] := by simp
  unfold execOp
  simp only [ho, Instr.buildSlice, Sem.run_bind, run_underlying T.und, hsz, Result.andThen_ok, hp, hle', h0', if_false, hzc, Sem.run_pure]
  rw [hf]
  simp [Instr.fill, newRow]
end laws
end Go.Proofs.Ytcnjnkkdidpjiaa

namespace Go.Proofs.Ytcnjnkkdidpjiaa
open Go.RowKit

theorem T_str : SlT Try.prog 44 9 1 16 (.string ByteArray.empty) := ⟨Try.underlying44, by kernel_rfl, rfl, by decide⟩
theorem T_digs : SlT Try.prog 49 29 32 32 (.agg (zeros.map bv).toArray) := ⟨Try.underlying49, by kernel_rfl, rfl, by decide⟩
theorem T_sums : SlT Try.prog 45 22 32 32 (.agg (zeros.map bv).toArray) := ⟨Try.underlying45, by kernel_rfl, rfl, by decide⟩
end Go.Proofs.Ytcnjnkkdidpjiaa

namespace Go.Proofs.Ytcnjnkkdidpjiaa
open Go.RowKit

set_option maxRecDepth 20000 in
set_option maxHeartbeats 400000 in
theorem text_any (A : Option Addr) (n c : Nat) (l : List UInt8) (w : World) (hm : n ≤ 140737488355000) (hr : Rd w (· < w.heap.size) A 1 n (l.map bv)) :
    Calls Try.prog 24 #[.slice A n c] w fun e w' => ∃ v, e = .returned v ∧ OwnB w' w.heap.size 5 v (textL l) ∧ Below w.heap.size w w' := by
  have hl := hr.bytes_len
  have ht := box (show textL l = cnt n ++ l by rw [textL, hl])
  have hc64 : Box (n < 18446744073709551616) := box (by omega)
  have hlen := cnt_len64 hc64.out
  clear hl
  go_enter Try.func24, Try.ntmps24
  go_wp2_with fail
  refine (count_any n w hc64).mono ?_
  rintro e w1 ⟨v, rfl, hown, hb⟩
  have hr' := hr.below hb
  have hroom : (cnt n).length + n ≤ 140737488355328 := by omega
  have hB := hb.size
  go_wp2_with (first | (at_builtin; go_must (with_reducible refine lst (by with_unfolding_all rfl) (wp_appB T_u8 hown hb hr' (by with_unfolding_all exact ⟨_, _, rfl, rfl, rfl⟩) hroom hB ?_); intro v' w1 hown1 hb1 hg1 hB1)))
  go_ret
  exact ⟨_, rfl, by rw [ht.out]; exact hown1, hb1⟩
end Go.Proofs.Ytcnjnkkdidpjiaa
