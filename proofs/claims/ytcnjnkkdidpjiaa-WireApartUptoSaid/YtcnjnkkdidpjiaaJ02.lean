/-
  From what the form reads of an argument to the words of the walks. No program is named here.
  Layer 1 in plain words: numbers, counts, texts, digits, sums. No program is named here.
  Bytes as a type of this program.
  Counts, plainly.
  The walk of octet.Count.
  A store into bytes that the call owns, which keeps all other blocks.
-/
import Derived.Test.YtcnjnkkdidpjiaaJ01
import Derived.ProofKit
import Derived.OpenShut
import Derived.Test.YtcnjnkkdidpjiaaRows
namespace Go.Proofs.Ytcnjnkkdidpjiaa
open Go.ChangeShapes Go.WideShapes Go.ChangeAt Go.RowKit

theorem u8_of_wf {n : Int} (h : (Lit.int .u8 n).wf = true) : ∃ c : UInt8, n = c.toNat := by
  have hx : 0 ≤ n ∧ n ≤ 255 := by simpa [Lit.wf, IntKind.min, IntKind.max, IntKind.signed, IntKind.bits] using h
  exact byte_of hx.1 (by omega)

theorem u32_of_wf {n : Int} (h : (Lit.int .u32 n).wf = true) : ∃ X : Nat, n = (X : Int) ∧ X < 4294967296 := by
  have hx : 0 ≤ n ∧ n ≤ 4294967295 := by simpa [Lit.wf, IntKind.min, IntKind.max, IntKind.signed, IntKind.bits] using h
  exact ⟨n.toNat, by omega, by omega⟩
theorem u64_of_wf {n : Int} (h : (Lit.int .u64 n).wf = true) : ∃ X : Nat, n = (X : Int) ∧ X < 18446744073709551616 := by
  have hx : 0 ≤ n ∧ n ≤ 18446744073709551615 := by simpa [Lit.wf, IntKind.min, IntKind.max, IntKind.signed, IntKind.bits] using h
  exact ⟨n.toNat, by omega, by omega⟩
theorem i64_of_wf {n : Int} (h : (Lit.int .i64 n).wf = true) : -9223372036854775808 ≤ n ∧ n ≤ 9223372036854775807 := by
  simpa [Lit.wf, IntKind.min, IntKind.max, IntKind.signed, IntKind.bits] using h

section
variable {H : Type} {enc : TypeId × Value → H} {P : Program} {W : World} {hd : Bool} {d : DataW H} {ps : List MemPlace}

/-- A slice of bytes that came in. -/
theorem bytes_in {t e : TypeId} (ht : P.underlying t = some (.slice e)) (he : P.underlying e = some (.int .u8)) (hc : P.cellsOf e = 1) {a : Option Addr} {len cap : Nat}
    (h : DataW.Trod enc P W 0 (fun _ => true) hd t (.slice a len cap) d ps) :
    ∃ l : List UInt8, len ≤ cap ∧ cap ≤ maxLen ∧ Rd W (· < W.heap.size) a 1 len (l.map bv) ∧ (d = .nil ∧ cap = 0 ∨ ∃ es sp, d = .slice es sp ∧ es.length + sp.length = cap) := by
  obtain ⟨fuel, hf⟩ := h
  rcases open_ints ht he hc hf with ⟨hcs, hx⟩ | ⟨x, l, c, zs, hcs, _, hl, hm, hz, hx, hcell, hwz⟩
  · simp [Value.cells] at hcs
    obtain ⟨rfl, rfl, rfl⟩ := hcs
    injection hx with h1 h2
    exact ⟨[], Nat.le_refl _, Nat.zero_le _, Rd.nil _ _ _ _, .inl ⟨h1, rfl⟩⟩
  · simp [Value.cells] at hcs
    obtain ⟨rfl, rfl, rfl⟩ := hcs
    simp only [if_true] at hz
    injection hx with h1 h2
    have hbyte : ∀ i, (hi : i < zs.length) → ∃ c : UInt8, zs[i] = c.toNat := fun i hi => u8_of_wf (hwz _ (List.getElem_mem hi))
    refine ⟨(zs.take len).map fun n => UInt8.ofNat n.toNat, hl, hm, ⟨by simp [hz]; omega, fun _ => rfl, fun hn => ?_, fun j u hu => ?_⟩, .inr ⟨_, _, h1, by simp [lits]; omega⟩⟩
    · have := hcell 0 (by omega)
      have hb := World.block_lt_of_cell? W _ this
      have e : (x.add 0).block = x.block := by unfold Addr.add; split <;> rfl
      rw [e] at hb
      exact hb
    · rw [List.map_map, List.getElem?_map] at hu
      cases hq : (zs.take len)[j]? with
      | none => rw [hq] at hu; cases hu
      | some n =>
        rw [hq] at hu
        have hj := (List.getElem?_eq_some_iff.1 hq).1
        rw [List.length_take] at hj
        have hj2 : j < zs.length := by omega
        have hn : zs[j] = n := by
          rw [List.getElem?_take] at hq
          split at hq
          · rw [List.getElem?_eq_getElem hj2] at hq; injection hq
          · cases hq
        obtain ⟨c, hc⟩ := hbyte j hj2
        have h3 := hcell j hj2
        rw [List.getD_eq_getElem?_getD, List.getElem?_eq_getElem hj2, Option.getD_some, hc] at h3
        rw [hn] at hc
        show W.cell? (x.add j) = some u
        rw [h3, ← hu, hc]
        simp [bv]
end
end Go.Proofs.Ytcnjnkkdidpjiaa

namespace Go.Proofs.Ytcnjnkkdidpjiaa

/-- A number in as few bytes as may be. -/
def cnt (n : Nat) : List UInt8 := if n < 128 then [UInt8.ofNat n] else UInt8.ofNat (n % 128 + 128) :: cnt (n / 128)
termination_by n
decreasing_by omega

/-- The number that bytes begin with: the number, how many bytes, the error. -/
def rdc (i acc : Nat) : List UInt8 → Nat × Nat × Nat
  | [] => (0, 0, 9)
  | c :: l =>
    if (i = 9 ∧ 1 < c.toNat) ∨ (0 < i ∧ c.toNat = 0) then (0, 0, 10)
    else if c.toNat < 128 then (acc + c.toNat % 128 * 2 ^ (7 * i), i + 1, 0) else rdc (i + 1) (acc + c.toNat % 128 * 2 ^ (7 * i)) l

def textL (l : List UInt8) : List UInt8 := cnt l.length ++ l

/-- The text that bytes begin with: the bytes, how many bytes, the error. -/
def rdt (l : List UInt8) (most : Int) : List UInt8 × Nat × Nat :=
  let r := rdc 0 0 l
  if r.2.2 ≠ 0 then ([], 0, r.2.2)
  else if most < (r.1 : Int) then ([], 0, 8)
  else if l.length - r.2.1 < r.1 then ([], 0, 9)
  else ((l.drop r.2.1).take r.1, r.2.1 + r.1, 0)

/-- The lowest k bytes of a number, the highest first. -/
def putL (n : Nat) : Nat → List UInt8
  | 0 => []
  | k + 1 => UInt8.ofNat (n / 2 ^ (8 * k) % 256) :: putL n k

def getN (l : List UInt8) : Nat := l.foldl (fun n c => n * 256 + c.toNat) 0

def hexd (d : UInt8) : UInt8 := if d < 10 then 48 + d else 97 + d - 10
def hexL : List UInt8 → List UInt8
  | [] => []
  | c :: l => hexd (c / 16) :: hexd (c % 16) :: hexL l
def hexv (c : UInt8) : Option UInt8 := if 48 ≤ c ∧ c ≤ 57 then some (c - 48) else if 97 ≤ c ∧ c ≤ 102 then some (c - 97 + 10) else none
def unhexL : List UInt8 → Option (List UInt8)
  | [] => some []
  | [_] => none
  | a :: b :: l => match hexv a, hexv b, unhexL l with
    | some x, some y, some r => some ((16 * x + y) :: r)
    | _, _, _ => none

/-- A word turned to the right by k, k at most 31. -/
def rotN (x k : Nat) : Nat := x * 2 ^ ((32 - k) % 32) % 2 ^ 32 ||| x / 2 ^ (32 - (32 - k) % 32)

def crc1 (c : Nat) : Nat := if c % 2 = 1 then (c / 2) ^^^ 3988292384 else c / 2
def crcK : Nat → Nat → Nat
  | 0, c => c
  | k + 1, c => crc1 (crcK k c)
def crcL (c : Nat) (l : List UInt8) : Nat := l.foldl (fun c b => crcK 8 (c ^^^ b.toNat)) c
def crcN (l : List UInt8) : Nat := 4294967295 - crcL 4294967295 l

theorem xor_lt {a b k : Nat} (ha : a < 2 ^ k) (hb : b < 2 ^ k) : a ^^^ b < 2 ^ k := Nat.xor_lt_two_pow ha hb
theorem crc1_lt {c : Nat} (h : c < 4294967296) : crc1 c < 4294967296 := by
  unfold crc1
  split
  · exact xor_lt (k := 32) (by omega) (by decide)
  · omega
theorem crcK_lt {c : Nat} (h : c < 4294967296) : ∀ k, crcK k c < 4294967296
  | 0 => h
  | k + 1 => crc1_lt (crcK_lt h k)
theorem crcL_lt (l : List UInt8) : ∀ {c : Nat}, c < 4294967296 → crcL c l < 4294967296 := by
  induction l with
  | nil => intro c h; exact h
  | cons b l ih =>
    intro c h
    have hb : b.toNat < 4294967296 := by have := b.toNat_lt; omega
    exact ih (c := crcK 8 (c ^^^ b.toNat)) (crcK_lt (xor_lt (k := 32) h hb) 8)
theorem crcL_snoc (c : Nat) (l : List UInt8) (b : UInt8) : crcL c (l ++ [b]) = crcK 8 (crcL c l ^^^ b.toNat) := by simp [crcL]

theorem cnt_small {n : Nat} (h : n < 128) : cnt n = [UInt8.ofNat n] := by rw [cnt, if_pos h]
theorem cnt_big {n : Nat} (h : 128 ≤ n) : cnt n = UInt8.ofNat (n % 128 + 128) :: cnt (n / 128) := by rw [cnt, if_neg (by omega)]
theorem cnt_len : ∀ (k n : Nat), n < 2 ^ (7 * (k + 1)) → (cnt n).length ≤ k + 1
  | 0, n, h => by rw [cnt_small (by simpa using h)]; simp
  | k + 1, n, h => by
    by_cases hn : n < 128
    · rw [cnt_small hn]; simp
    · rw [cnt_big (by omega), List.length_cons]
      have := cnt_len k (n / 128) (by
        have : 7 * (k + 1 + 1) = 7 * (k + 1) + 7 := by omega
        rw [this, Nat.pow_add] at h
        omega)
      omega
theorem cnt_len64 {n : Nat} (h : n < 18446744073709551616) : (cnt n).length ≤ 10 := cnt_len 9 n (Nat.lt_of_lt_of_le h (by decide))
theorem cnt_pos (n : Nat) : 0 < (cnt n).length := by
  rw [cnt]; split <;> simp

end Go.Proofs.Ytcnjnkkdidpjiaa

namespace Go.Proofs.Ytcnjnkkdidpjiaa
open Go.RowKit

theorem T_u8 : SlT Try.prog 23 5 1 1 (.int .u8 0) := ⟨Try.underlying23, by kernel_rfl, rfl, by decide⟩
theorem I_u8 : (Try.prog.info? 5).map (·.size) = some 1 := by kernel_rfl
end Go.Proofs.Ytcnjnkkdidpjiaa

namespace Go.Proofs.Ytcnjnkkdidpjiaa
open Go.RowKit

/-- What a count's loop has done. -/
def CntAt (n m : Nat) (l : List UInt8) : Prop := n < 18446744073709551616 ∧ m ≤ n ∧ l ++ cnt m = cnt n
theorem CntAt.room {n m : Nat} {l : List UInt8} (h : CntAt n m l) : l.length + 1 ≤ 10 := by
  have h1 := cnt_len64 h.1
  rw [← h.2.2, List.length_append] at h1
  have := cnt_pos m
  omega
theorem CntAt.next {n m : Nat} {l : List UInt8} {c : UInt8} (h : CntAt n m l) (hm : 128 ≤ m) (hc : c.toNat = m % 128 + 128) : CntAt n (m / 128) (l ++ [c]) := by
  refine ⟨h.1, by have := h.2.1; omega, ?_⟩
  rw [← h.2.2, cnt_big hm, List.append_assoc]
  have : c = UInt8.ofNat (m % 128 + 128) := by rw [← hc]; simp
  rw [this]; rfl
theorem CntAt.last {n m : Nat} {l : List UInt8} {c : UInt8} (h : CntAt n m l) (hm : m < 128) (hc : c.toNat = m) : l ++ [c] = cnt n := by
  rw [← h.2.2, cnt_small hm]
  have : c = UInt8.ofNat m := by rw [← hc]; simp
  rw [this]
theorem or128 (m : Nat) : bits BinOp.or IntKind.u8 ((m : Int) % 256) 128 = ((m % 128 + 128 : Nat) : Int) := by
  have h1 : ((m : Int) % 256) = ((m % 256 : Nat) : Int) := by omega
  rw [h1, show (128 : Int) = ((128 : Nat) : Int) from rfl, u8_or_nat _ _ (by omega) (by omega)]
  congr 1
  have h2 : m % 256 = m / 128 % 2 * 128 + m % 128 := by omega
  rcases (show m / 128 % 2 = 0 ∨ m / 128 % 2 = 1 by omega) with h | h
  · have : m % 256 = m % 128 := by omega
    rw [this, Nat.or_comm, nat_join 7 128 (m % 128) (by decide) (by omega)]; omega
  · have : m % 256 = 128 ||| m % 128 := by rw [nat_join 7 128 (m % 128) (by decide) (by omega)]; omega
    rw [this, Nat.or_comm, ← Nat.or_assoc, Nat.or_self, nat_join 7 128 (m % 128) (by decide) (by omega)]; omega
end Go.Proofs.Ytcnjnkkdidpjiaa

namespace Go.Proofs.Ytcnjnkkdidpjiaa
open Go.RowKit

set_option maxRecDepth 20000 in
set_option maxHeartbeats 400000 in
theorem count_any (n : Nat) (w : World) (Hn : Box (n < 18446744073709551616)) :
    Calls Try.prog 37 #[.int .u64 n] w fun e w' => ∃ v, e = .returned v ∧ OwnB w' w.heap.size 5 v (cnt n) ∧ Below w.heap.size w w' := by
  go_enter Try.func37, Try.ntmps37
  go_wp2
  go_loopw [0, 3] (fun x v wr => ∃ m : Nat, ∃ l : List UInt8, Box (CntAt n m l) ∧ x = .int .u64 m ∧ OwnB wr w.heap.size 5 v l ∧ Below w.heap.size w wr ∧ w.heap.size ≤ wr.heap.size) (fun x _ _ => (intOf x).toNat)
  case atStart => exact ⟨n, [], ⟨Hn.out, Nat.le_refl _, rfl⟩, rfl, OwnB.nil _ _ _, Below.refl _ _, Nat.le_refl _⟩
  case round =>
    obtain ⟨m, l, HB, rfl, hown, hb, hB⟩ := hrel
    have hroom : l.length + 1 ≤ 140737488355328 := by have := HB.out.room; omega
    have hor := or128 m
    go_wp2_with (at_builtin; go_must (with_reducible refine lst (by with_unfolding_all rfl) (wp_appB1 T_u8 hown hb (by with_unfolding_all exact ⟨_, _, rfl, rfl, rfl⟩) hroom hB ?_ ?_); exact byte_of (by omega) (by omega); intro v' w1 c hc hown1 hb1 hB1))
    · go_roundw
      case rel => exact ⟨m / 128, _, box (HB.out.next (by omega) (by have := hc.out; omega)), by go_num, hown1, hb1, hB1⟩
      case measure => simp [intOf]; omega
    · go_ret
      exact ⟨v', rfl, by rw [← HB.out.last (c := c) (by omega) (by have := hc.out; omega)]; exact hown1, hb1⟩
end Go.Proofs.Ytcnjnkkdidpjiaa

namespace Go.Proofs.Ytcnjnkkdidpjiaa
open Go.RowKit

theorem OwnB.on {w w' : World} {base : Nat} {e : TypeId} {v : Value} {l : List UInt8} (h : OwnB w base e v l) (hb : Below w.heap.size w w') : OwnB w' base e v l := by
  refine ⟨h.own.1, ?_⟩
  rcases h.own.2 with hn | ⟨g, cap, cur, hv, hg, hc, rest⟩
  · exact .inl hn
  · refine .inr ⟨g, cap, cur, hv, hg, ?_, rest⟩
    rw [hb.block g (h.own.lt g (by rw [hv]; rfl)).2]; exact hc
theorem Keep.and {S : Nat → Prop} {w w1 w2 : World} (h : Keep S w w1) (h2 : Keep S w1 w2) : Keep S w w2 := h.trans h2

section
variable {P : Program} {o : Oper} {a : Act} {w w0 : World} {K : Act → World → Prop} {Q : Exit → Act → World → Prop}
theorem wp_load1C {S : Nat → Prop} {A : Option Addr} {n size k : Nat} {xs : List Value} (hr : Rd w S A size n xs) {u : Value} (hc : Box (xs[k]? = some u)) {e : TypeId} {j : Nat} {d : TypeDesc} (hu : P.underlying e = some d) (hd : aggT d = false)
    (ho : IsLd o a e (atp A j)) (hj : j = k) (h : K (a.put o.dst u) w) : o.wp P a w K Q := by
  subst hj
  exact wp_load1 hr hu hd ho hc.out h
theorem wp_storeK {e : TypeId} (hu : (P.info? e).map (·.size) = some 1) {base : Nat} {A : Option Addr} {n c : Nat} {l : List UInt8} (hown : OwnB w base e (.slice A n c) l) (hb : Below base w0 w) {j : Nat} {q : Int}
    (ho : IsSt o a e (atp A j) (.int .u8 q)) (hj : j < n) (hq : ∃ c : UInt8, q = c.toNat)
    (k : ∀ w' d, Box (q = ((d : UInt8).toNat : Int)) → OwnB w' base e (.slice A n c) (l.set j d) → Below base w0 w' → w'.heap.size = w.heap.size → Box (Keep (fun b => b ≠ (A.getD default).block) w w') → K (a.put o.dst undef) w') : o.wp P a w K Q := by
  obtain ⟨x, y, ho, hx, hy⟩ := ho
  obtain ⟨d, rfl⟩ := hq
  obtain ⟨A', c', hv, _⟩ := hown.form
  injection hv with hA hn hc
  subst hA hn hc
  have hown' := hown.own
  obtain ⟨g, rfl⟩ : ∃ g, A = some ⟨g, 0, none⟩ := by
    rcases hown'.2 with ⟨h0, _⟩ | ⟨g, cap, cur, h0, _⟩
    · injection h0 with _ h1; omega
    · injection h0 with h1; exact ⟨g, h1⟩
  have hat : atp (some ⟨g, 0, none⟩) j = ⟨g, j, none⟩ := by
    unfold atp Addr.add
    by_cases hj0 : j = 0 <;> simp [hj0]
  rw [hat] at hx
  have hcell := hown'.cellAt j (by omega)
  have hfr := hown'.frozenAt j
  obtain ⟨u, hu2⟩ : ∃ u, w.cell? ⟨g, j, none⟩ = some u := ⟨(l.map bv)[j]'(by simpa using hj), by rw [hcell]; simp [hj]⟩
  have hst := hown'.stored j (bv d)
  have hlt := hown'.lt g rfl
  obtain ⟨i, hi, hsz⟩ := Option.map_eq_some_iff.1 hu
  have hk := k (w.setCell ⟨g, j, none⟩ (bv d)) d (box rfl) ⟨by simpa [List.map_set] using hst.1⟩ (hb.setCell (p := ⟨g, j, none⟩) hlt.1 _) (by simp [World.setCell]) (box ⟨rfl, rfl, rfl, by simp [World.setCell], fun b hb => Below.heap_setCell w _ _ b hb⟩)
  unfold Oper.wp execOp
  simp only [ho, hx, hy, Instr.storeAt, Instr.sureAddr, storeVar, Sem.run_bind, Sem.run_pure, Result.andThen_ok]
  simp [sizeOf, typeInfo, hi, hsz, Value.cells, storeCells, go_sem, hu2, hfr]
  exact hk

end
end Go.Proofs.Ytcnjnkkdidpjiaa
