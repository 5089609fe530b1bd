/-
  From what the form reads of an argument to the words of the walks. No program is named here.
  Layer 1 in plain words: numbers, counts, texts, digits, sums. No program is named here.
  Layer 7 in plain words: names of repositories, tags, media types. No program is named here.
  Layer 7 in plain words, further: where a sign stands first; pieces; tags; media types. No program is named here.
-/
import Derived.Test.YtpdbjhgphgcjoaaDoorJ01
import Derived.ProofKit
import Derived.OpenShut
import Derived.Lib.Split
import Derived.Lib.IndexMore
import Derived.Lib.SplitLaws
namespace Go.Proofs.YtpdbjhgphgcjoaaDoor
open Go.ChangeShapes Go.WideShapes Go.ChangeAt Go.RowKit

theorem u8_of_wf {n : Int} (h : (Lit.int .u8 n).wf = true) : ∃ c : UInt8, n = c.toNat := by
  have hx : 0 ≤ n ∧ n ≤ 255 := by simpa [Lit.wf, IntKind.min, IntKind.max, IntKind.signed, IntKind.bits] using h
  exact byte_of hx.1 (by omega)

theorem u32_of_wf {n : Int} (h : (Lit.int .u32 n).wf = true) : ∃ X : Nat, n = (X : Int) ∧ X < 4294967296 := by
  have hx : 0 ≤ n ∧ n ≤ 4294967295 := by simpa [Lit.wf, IntKind.min, IntKind.max, IntKind.signed, IntKind.bits] using h
  exact ⟨n.toNat, by omega, by omega⟩
theorem u64_of_wf {n : Int} (h : (Lit.int .u64 n).wf = true) : ∃ X : Nat, n = (X : Int) ∧ X < 18446744073709551616 := by
  have hx : 0 ≤ n ∧ n ≤ 18446744073709551615 := by simpa [Lit.wf, IntKind.min, IntKind.max, IntKind.signed, IntKind.bits] using h
  exact ⟨n.toNat, by omega, by omega⟩
theorem i64_of_wf {n : Int} (h : (Lit.int .i64 n).wf = true) : -9223372036854775808 ≤ n ∧ n ≤ 9223372036854775807 := by
  simpa [Lit.wf, IntKind.min, IntKind.max, IntKind.signed, IntKind.bits] using h

section
variable {H : Type} {enc : TypeId × Value → H} {P : Program} {W : World} {hd : Bool} {d : DataW H} {ps : List MemPlace}

/-- A slice of bytes that came in. -/
theorem bytes_in {t e : TypeId} (ht : P.underlying t = some (.slice e)) (he : P.underlying e = some (.int .u8)) (hc : P.cellsOf e = 1) {a : Option Addr} {len cap : Nat}
    (h : DataW.Trod enc P W 0 (fun _ => true) hd t (.slice a len cap) d ps) :
    ∃ l : List UInt8, len ≤ cap ∧ cap ≤ maxLen ∧ Rd W (· < W.heap.size) a 1 len (l.map bv) ∧ (d = .nil ∧ cap = 0 ∨ ∃ es sp, d = .slice es sp ∧ es.length + sp.length = cap) := by
  obtain ⟨fuel, hf⟩ := h
  rcases open_ints ht he hc hf with ⟨hcs, hx⟩ | ⟨x, l, c, zs, hcs, _, hl, hm, hz, hx, hcell, hwz⟩
  · simp [Value.cells] at hcs
    obtain ⟨rfl, rfl, rfl⟩ := hcs
    injection hx with h1 h2
    exact ⟨[], Nat.le_refl _, Nat.zero_le _, Rd.nil _ _ _ _, .inl ⟨h1, rfl⟩⟩
  · simp [Value.cells] at hcs
    obtain ⟨rfl, rfl, rfl⟩ := hcs
    simp only [if_true] at hz
    injection hx with h1 h2
    have hbyte : ∀ i, (hi : i < zs.length) → ∃ c : UInt8, zs[i] = c.toNat := fun i hi => u8_of_wf (hwz _ (List.getElem_mem hi))
    refine ⟨(zs.take len).map fun n => UInt8.ofNat n.toNat, hl, hm, ⟨by simp [hz]; omega, fun _ => rfl, fun hn => ?_, fun j u hu => ?_⟩, .inr ⟨_, _, h1, by simp [lits]; omega⟩⟩
    · have := hcell 0 (by omega)
      have hb := World.block_lt_of_cell? W _ this
      have e : (x.add 0).block = x.block := by unfold Addr.add; split <;> rfl
      rw [e] at hb
      exact hb
    · rw [List.map_map, List.getElem?_map] at hu
      cases hq : (zs.take len)[j]? with
      | none => rw [hq] at hu; cases hu
      | some n =>
        rw [hq] at hu
        have hj := (List.getElem?_eq_some_iff.1 hq).1
        rw [List.length_take] at hj
        have hj2 : j < zs.length := by omega
        have hn : zs[j] = n := by
          rw [List.getElem?_take] at hq
          split at hq
          · rw [List.getElem?_eq_getElem hj2] at hq; injection hq
          · cases hq
        obtain ⟨c, hc⟩ := hbyte j hj2
        have h3 := hcell j hj2
        rw [List.getD_eq_getElem?_getD, List.getElem?_eq_getElem hj2, Option.getD_some, hc] at h3
        rw [hn] at hc
        show W.cell? (x.add j) = some u
        rw [h3, ← hu, hc]
        simp [bv]
end
end Go.Proofs.YtpdbjhgphgcjoaaDoor

namespace Go.Proofs.YtpdbjhgphgcjoaaDoor

/-- A number in as few bytes as may be. -/
def cnt (n : Nat) : List UInt8 := if n < 128 then [UInt8.ofNat n] else UInt8.ofNat (n % 128 + 128) :: cnt (n / 128)
termination_by n
decreasing_by omega

/-- The number that bytes begin with: the number, how many bytes, the error. -/
def rdc (i acc : Nat) : List UInt8 → Nat × Nat × Nat
  | [] => (0, 0, 9)
  | c :: l =>
    if (i = 9 ∧ 1 < c.toNat) ∨ (0 < i ∧ c.toNat = 0) then (0, 0, 10)
    else if c.toNat < 128 then (acc + c.toNat % 128 * 2 ^ (7 * i), i + 1, 0) else rdc (i + 1) (acc + c.toNat % 128 * 2 ^ (7 * i)) l

def textL (l : List UInt8) : List UInt8 := cnt l.length ++ l

/-- The text that bytes begin with: the bytes, how many bytes, the error. -/
def rdt (l : List UInt8) (most : Int) : List UInt8 × Nat × Nat :=
  let r := rdc 0 0 l
  if r.2.2 ≠ 0 then ([], 0, r.2.2)
  else if most < (r.1 : Int) then ([], 0, 8)
  else if l.length - r.2.1 < r.1 then ([], 0, 9)
  else ((l.drop r.2.1).take r.1, r.2.1 + r.1, 0)

/-- The lowest k bytes of a number, the highest first. -/
def putL (n : Nat) : Nat → List UInt8
  | 0 => []
  | k + 1 => UInt8.ofNat (n / 2 ^ (8 * k) % 256) :: putL n k

def getN (l : List UInt8) : Nat := l.foldl (fun n c => n * 256 + c.toNat) 0

def hexd (d : UInt8) : UInt8 := if d < 10 then 48 + d else 97 + d - 10
def hexL : List UInt8 → List UInt8
  | [] => []
  | c :: l => hexd (c / 16) :: hexd (c % 16) :: hexL l
def hexv (c : UInt8) : Option UInt8 := if 48 ≤ c ∧ c ≤ 57 then some (c - 48) else if 97 ≤ c ∧ c ≤ 102 then some (c - 97 + 10) else none
def unhexL : List UInt8 → Option (List UInt8)
  | [] => some []
  | [_] => none
  | a :: b :: l => match hexv a, hexv b, unhexL l with
    | some x, some y, some r => some ((16 * x + y) :: r)
    | _, _, _ => none

/-- A word turned to the right by k, k at most 31. -/
def rotN (x k : Nat) : Nat := x * 2 ^ ((32 - k) % 32) % 2 ^ 32 ||| x / 2 ^ (32 - (32 - k) % 32)

def crc1 (c : Nat) : Nat := if c % 2 = 1 then (c / 2) ^^^ 3988292384 else c / 2
def crcK : Nat → Nat → Nat
  | 0, c => c
  | k + 1, c => crc1 (crcK k c)
def crcL (c : Nat) (l : List UInt8) : Nat := l.foldl (fun c b => crcK 8 (c ^^^ b.toNat)) c
def crcN (l : List UInt8) : Nat := 4294967295 - crcL 4294967295 l

theorem xor_lt {a b k : Nat} (ha : a < 2 ^ k) (hb : b < 2 ^ k) : a ^^^ b < 2 ^ k := Nat.xor_lt_two_pow ha hb
theorem crc1_lt {c : Nat} (h : c < 4294967296) : crc1 c < 4294967296 := by
  unfold crc1
  split
  · exact xor_lt (k := 32) (by omega) (by decide)
  · omega
theorem crcK_lt {c : Nat} (h : c < 4294967296) : ∀ k, crcK k c < 4294967296
  | 0 => h
  | k + 1 => crc1_lt (crcK_lt h k)
theorem crcL_lt (l : List UInt8) : ∀ {c : Nat}, c < 4294967296 → crcL c l < 4294967296 := by
  induction l with
  | nil => intro c h; exact h
  | cons b l ih =>
    intro c h
    have hb : b.toNat < 4294967296 := by have := b.toNat_lt; omega
    exact ih (c := crcK 8 (c ^^^ b.toNat)) (crcK_lt (xor_lt (k := 32) h hb) 8)
theorem crcL_snoc (c : Nat) (l : List UInt8) (b : UInt8) : crcL c (l ++ [b]) = crcK 8 (crcL c l ^^^ b.toNat) := by simp [crcL]

theorem cnt_small {n : Nat} (h : n < 128) : cnt n = [UInt8.ofNat n] := by rw [cnt, if_pos h]
theorem cnt_big {n : Nat} (h : 128 ≤ n) : cnt n = UInt8.ofNat (n % 128 + 128) :: cnt (n / 128) := by rw [cnt, if_neg (by omega)]
theorem cnt_len : ∀ (k n : Nat), n < 2 ^ (7 * (k + 1)) → (cnt n).length ≤ k + 1
  | 0, n, h => by rw [cnt_small (by simpa using h)]; simp
  | k + 1, n, h => by
    by_cases hn : n < 128
    · rw [cnt_small hn]; simp
    · rw [cnt_big (by omega), List.length_cons]
      have := cnt_len k (n / 128) (by
        have : 7 * (k + 1 + 1) = 7 * (k + 1) + 7 := by omega
        rw [this, Nat.pow_add] at h
        omega)
      omega
theorem cnt_len64 {n : Nat} (h : n < 18446744073709551616) : (cnt n).length ≤ 10 := cnt_len 9 n (Nat.lt_of_lt_of_le h (by decide))
theorem cnt_pos (n : Nat) : 0 < (cnt n).length := by
  rw [cnt]; split <;> simp

end Go.Proofs.YtpdbjhgphgcjoaaDoor

namespace Go.Proofs.YtpdbjhgphgcjoaaDoor
open Go.RowKit

def smallB (c : UInt8) : Bool := decide (97 ≤ c.toNat ∧ c.toNat ≤ 122 ∨ 48 ≤ c.toNat ∧ c.toNat ≤ 57)
def signB (c : UInt8) : Bool := decide ((97 ≤ c.toNat ∧ c.toNat ≤ 122 ∨ 48 ≤ c.toNat ∧ c.toNat ≤ 57) ∨ 65 ≤ c.toNat ∧ c.toNat ≤ 90)

/-- The machine of a repository's name: 0 at the beginning of a part, 1 within a run, 2 behind a separator that is whole, 3 behind one _, 4 behind some -. -/
def step (q : Nat) (c : UInt8) : Option Nat :=
  if smallB c = true then some 1 else if c = 47 then (if q = 1 then some 0 else none) else if c = 46 then (if q = 1 then some 2 else none)
  else if c = 95 then (if q = 1 then some 3 else if q = 3 then some 2 else none) else if c = 45 then (if q = 1 ∨ q = 4 then some 4 else none) else none
def acc : Nat → List UInt8 → Bool
  | q, [] => q == 1
  | q, c :: l => match step q c with
    | none => false
    | some q' => acc q' l
theorem acc_step {l : List UInt8} {k q q' : Nat} {c : UInt8} (h : l[k]? = some c) (hs : step q c = some q') : acc q (l.drop k) = acc q' (l.drop (k + 1)) := by
  obtain ⟨hk, rfl⟩ := List.getElem?_eq_some_iff.1 h
  rw [List.drop_eq_getElem_cons hk, acc, hs]
theorem acc_stop {l : List UInt8} {k q : Nat} {c : UInt8} (h : l[k]? = some c) (hs : step q c = none) : acc q (l.drop k) = false := by
  obtain ⟨hk, rfl⟩ := List.getElem?_eq_some_iff.1 h
  rw [List.drop_eq_getElem_cons hk, acc, hs]
def repoB (l : List UInt8) : Bool := acc 0 l && decide (l.length ≤ 128)
/-- What a byte is to the machine. -/
theorem kind (c : UInt8) : smallB c = true ∨ c = 47 ∨ c = 46 ∨ c = 95 ∨ c = 45 ∨ (smallB c = false ∧ c ≠ 47 ∧ c ≠ 46 ∧ c ≠ 95 ∧ c ≠ 45) := by
  by_cases h : smallB c = true
  · exact .inl h
  · by_cases h1 : c = 47
    · exact .inr (.inl h1)
    · by_cases h2 : c = 46
      · exact .inr (.inr (.inl h2))
      · by_cases h3 : c = 95
        · exact .inr (.inr (.inr (.inl h3)))
        · by_cases h4 : c = 45
          · exact .inr (.inr (.inr (.inr (.inl h4))))
          · exact .inr (.inr (.inr (.inr (.inr ⟨by simpa using h, h1, h2, h3, h4⟩))))
theorem step_small {q : Nat} {c : UInt8} (h : smallB c = true) : step q c = some 1 := by unfold step; rw [if_pos h]
theorem step_other {q : Nat} {c : UInt8} (h : smallB c = false ∧ c ≠ 47 ∧ c ≠ 46 ∧ c ≠ 95 ∧ c ≠ 45) : step q c = none := by
  unfold step
  rw [if_neg (by simp [h.1]), if_neg h.2.1, if_neg h.2.2.1, if_neg h.2.2.2.1, if_neg h.2.2.2.2]
theorem u8_ne {c d : UInt8} (h : c ≠ d) : ((c.toNat : Int) == (d.toNat : Int)) = false := by
  rw [beq_eq_false_iff_ne]
  intro e
  exact h (UInt8.toNat_inj.1 (by omega))
theorem u8_ne' {c d : UInt8} (h : c ≠ d) : ((c.toNat : Int) != (d.toNat : Int)) = true := by rw [bne, u8_ne h]; rfl

/-! one part -/
def stepP (q : Nat) (c : UInt8) : Option Nat := if c = 47 then none else step q c
def accP : Nat → List UInt8 → Bool
  | q, [] => q == 1
  | q, c :: l => match stepP q c with
    | none => false
    | some q' => accP q' l
theorem small_ne {c : UInt8} (h : smallB c = true) : c ≠ 47 := by rintro rfl; revert h; decide
theorem stepP_small {q : Nat} {c : UInt8} (h : smallB c = true) : stepP q c = some 1 := by unfold stepP; rw [if_neg (small_ne h), step_small h]
theorem accP_smalls : ∀ (k : Nat) (l : List UInt8) (q : Nat), k ≤ l.length → (∀ j c, j < k → l[j]? = some c → smallB c = true) → 0 < k → accP q l = accP 1 (l.drop k)
  | 0, l, q, _, _, h => absurd h (by omega)
  | 1, [], q, h, _, _ => by simp at h
  | 1, c :: l, q, _, hs, _ => by rw [accP, stepP_small (hs 0 c (by omega) rfl)]; rfl
  | k + 2, [], q, h, _, _ => by simp at h
  | k + 2, c :: l, q, h, hs, _ => by
    rw [accP, stepP_small (hs 0 c (by omega) rfl)]
    exact accP_smalls (k + 1) l 1 (by simpa using h) (fun j d hj hd => hs (j + 1) d (by omega) (by simpa using hd)) (by omega)
theorem stepP_ns {q : Nat} {c : UInt8} (h : smallB c = false) : stepP q c = if c = 46 then (if q = 1 then some 2 else none) else if c = 95 then (if q = 1 then some 3 else if q = 3 then some 2 else none) else if c = 45 then (if q = 1 ∨ q = 4 then some 4 else none) else none := by
  have hn : ¬ smallB c = true := by rw [h]; simp
  by_cases h47 : c = 47
  · subst h47; rfl
  · unfold stepP step
    rw [if_neg h47, if_neg hn, if_neg h47]
theorem step0_none {c : UInt8} (h : smallB c = false) : stepP 0 c = none := by
  rw [stepP_ns h]
  simp
theorem accP_none {c : UInt8} {l : List UInt8} (h : smallB c = false) : accP 0 (c :: l) = false := by rw [accP, step0_none h]
/-- In these states only a small letter or a digit may follow. -/
theorem accP_like {q : Nat} (hq : q = 2 ∨ q = 3 ∨ q = 4) (l : List UInt8) (h : ∀ c, l[0]? = some c → (q = 3 → c ≠ 95) ∧ (q = 4 → c ≠ 45)) : accP q l = accP 0 l := by
  cases l with
  | nil => rcases hq with rfl | rfl | rfl <;> rfl
  | cons c l =>
    have h1 := h c rfl
    cases hs : smallB c with
    | true => rw [accP, accP, stepP_small hs, stepP_small hs]
    | false =>
      rw [accP_none hs, accP]
      have : stepP q c = none := by
        rw [stepP_ns hs]
        rcases hq with rfl | rfl | rfl <;> simp_all
      rw [this]
/-- How long the separator is that stands ahead. -/
def dashes : List UInt8 → Nat
  | [] => 0
  | c :: l => if c = 45 then dashes l + 1 else 0
def markN (l : List UInt8) : Nat := if Lib.hasPrefix l [95, 95] = true then 2 else if l[0]? = some 46 ∨ l[0]? = some 95 then 1 else dashes l
theorem dashes_le : ∀ l : List UInt8, dashes l ≤ l.length
  | [] => Nat.le_refl _
  | c :: l => by unfold dashes; have := dashes_le l; split <;> simp <;> omega
theorem dashes_at : ∀ (l : List UInt8) (k : Nat), (∀ j, j < k → l[j]? = some 45) → l[k]? ≠ some 45 → dashes l = k
  | [], 0, _, _ => rfl
  | [], k + 1, h, _ => by have := h 0 (by omega); simp at this
  | c :: l, 0, _, h => by unfold dashes; rw [if_neg]; simpa using h
  | c :: l, k + 1, h, h' => by
    have h0 := h 0 (by omega)
    simp at h0
    unfold dashes
    rw [if_pos h0, dashes_at l k (fun j hj => by simpa using h (j + 1) (by omega)) (by simpa using h')]
theorem accP_dashes : ∀ (l : List UInt8), accP 4 l = accP 0 (l.drop (dashes l))
  | [] => rfl
  | c :: l => by
    unfold dashes
    by_cases hc : c = 45
    · subst hc
      rw [if_pos rfl, List.drop_succ_cons, ← accP_dashes l, accP]
      rfl
    · rw [if_neg hc]
      exact accP_like (.inr (.inr rfl)) _ fun d hd => ⟨(fun h => by cases h), (fun _ => by simp at hd; rw [← hd]; exact hc)⟩
theorem mark_le (l : List UInt8) (h : 0 < l.length) : markN l ≤ l.length := by
  unfold markN
  split
  · rename_i h2
    cases l with
    | nil => cases h2
    | cons a l => cases l with
      | nil => simp [Lib.hasPrefix, List.isPrefixOf] at h2
      | cons b l => simp
  · split
    · omega
    · exact dashes_le l
theorem mark_acc {c : UInt8} {l : List UInt8} (h : smallB c = false) : (markN (c :: l) = 0 → accP 1 (c :: l) = false) ∧ (0 < markN (c :: l) → accP 1 (c :: l) = accP 0 ((c :: l).drop (markN (c :: l)))) := by
  unfold markN
  by_cases h1 : Lib.hasPrefix (c :: l) [95, 95] = true
  · rw [if_pos h1]
    refine ⟨(fun h => by cases h), fun _ => ?_⟩
    cases l with
    | nil => simp [Lib.hasPrefix, List.isPrefixOf] at h1
    | cons d l =>
      simp [Lib.hasPrefix, List.isPrefixOf] at h1
      obtain ⟨rfl, rfl⟩ := h1
      show accP 2 l = accP 0 l
      exact accP_like (.inl rfl) _ fun d _ => ⟨(fun h => by cases h), (fun h => by cases h)⟩
  · rw [if_neg h1]
    by_cases h2 : (c :: l)[0]? = some 46 ∨ (c :: l)[0]? = some 95
    · rw [if_pos h2]
      refine ⟨(fun h => by cases h), fun _ => ?_⟩
      simp only [List.getElem?_cons_zero, Option.some.injEq] at h2
      rcases h2 with rfl | rfl
      · show accP 2 l = accP 0 l
        exact accP_like (.inl rfl) _ fun d _ => ⟨(fun h => by cases h), (fun h => by cases h)⟩
      · show accP 3 l = accP 0 l
        refine accP_like (.inr (.inl rfl)) _ fun d hd => ⟨fun _ => ?_, (fun h => by cases h)⟩
        rintro rfl
        cases l with
        | nil => cases hd
        | cons e l =>
          simp only [List.getElem?_cons_zero, Option.some.injEq] at hd
          subst hd
          exact h1 rfl
    · rw [if_neg h2]
      simp only [List.getElem?_cons_zero, Option.some.injEq, not_or] at h2
      unfold dashes
      by_cases hc : c = 45
      · subst hc
        rw [if_pos rfl]
        refine ⟨(fun h => by cases h), fun _ => ?_⟩
        rw [List.drop_succ_cons, ← accP_dashes l]
        rfl
      · rw [if_neg hc]
        refine ⟨fun _ => ?_, (fun h => by cases h)⟩
        rw [accP]
        have : stepP 1 c = none := by
          rw [stepP_ns h, if_neg h2.1, if_neg h2.2, if_neg hc]
        rw [this]

/-! a name's parts -/
def parts47 : List UInt8 → List (List UInt8)
  | [] => [[]]
  | c :: l => if c = 47 then [] :: parts47 l else match parts47 l with
    | [] => [[c]]
    | p :: ps => (c :: p) :: ps
theorem parts_ne : ∀ l : List UInt8, parts47 l ≠ []
  | [] => by simp [parts47]
  | c :: l => by
    unfold parts47
    split
    · simp
    · split <;> simp
theorem acc_parts : ∀ (l : List UInt8) (q : Nat), acc q l = match parts47 l with
    | [] => false
    | p :: ps => accP q p && ps.all (accP 0)
  | [], q => by simp [parts47, acc, accP]
  | c :: l, q => by
    have ih := acc_parts l
    unfold parts47
    by_cases hc : c = 47
    · subst hc
      rw [if_pos rfl]
      simp only [accP]
      rw [acc]
      have hst : step q 47 = if q = 1 then some 0 else none := rfl
      rw [hst]
      by_cases hq : q = 1
      · subst hq
        rw [if_pos rfl]
        simp only [ih 0]
        cases hp : parts47 l with
        | nil => exact absurd hp (parts_ne l)
        | cons p ps => simp
      · rw [if_neg hq]
        simp [hq]
    · rw [if_neg hc]
      cases hp : parts47 l with
      | nil => exact absurd hp (parts_ne l)
      | cons p ps =>
        simp only [accP, acc]
        have : stepP q c = step q c := by unfold stepP; rw [if_neg hc]
        rw [this]
        cases hs : step q c with
        | none => simp
        | some q' => simp only [ih q', hp]
theorem acc_all (l : List UInt8) : acc 0 l = (parts47 l).all (accP 0) := by
  rw [acc_parts]
  cases hp : parts47 l with
  | nil => exact absurd hp (parts_ne l)
  | cons p ps => simp
end Go.Proofs.YtpdbjhgphgcjoaaDoor

namespace Go.Proofs.YtpdbjhgphgcjoaaDoor
open Go.RowKit

def findN (c : UInt8) : List UInt8 → Nat
  | [] => 0
  | d :: l => if d = c then 0 else findN c l + 1
theorem findN_le (c : UInt8) : ∀ l, findN c l ≤ l.length
  | [] => Nat.le_refl _
  | d :: l => by unfold findN; have := findN_le c l; split <;> simp <;> omega
theorem findN_at {c : UInt8} : ∀ {l : List UInt8} {k : Nat}, l[k]? = some c → (∀ (j : Nat) d, j < k → l[j]? = some d → d ≠ c) → findN c l = k
  | [], k, h, _ => by simp at h
  | d :: l, 0, h, _ => by simp at h; unfold findN; rw [if_pos h]
  | d :: l, k + 1, h, hno => by
    unfold findN
    rw [if_neg (hno 0 d (by omega) rfl), findN_at (l := l) (k := k) (by simpa using h) (fun j e hj he => hno (j + 1) e (by omega) (by simpa using he))]
theorem findN_all {c : UInt8} : ∀ {l : List UInt8}, (∀ (j : Nat) d, l[j]? = some d → d ≠ c) → findN c l = l.length
  | [], _ => rfl
  | d :: l, h => by
    unfold findN
    rw [if_neg (h 0 d rfl), findN_all (l := l) (fun j e he => h (j + 1) e (by simpa using he))]
    simp
theorem index_find (c : UInt8) : ∀ l : List UInt8, Lib.index l [c] = if findN c l < l.length then (findN c l : Int) else -1
  | [] => rfl
  | d :: l => by
    have ih := index_find c l
    unfold Lib.index findN
    by_cases h : d = c
    · subst h
      rw [if_pos (by simp [List.isPrefixOf]), if_pos rfl, if_pos (by simp)]; rfl
    · rw [if_neg (by simp [List.isPrefixOf]; exact fun e => h e.symm), if_neg h, ih]
      have := findN_le c l
      by_cases h2 : findN c l < l.length
      · rw [if_pos h2, if_neg (by rw [beq_iff_eq]; omega), if_pos (by simpa using h2)]; simp
      · rw [if_neg h2, if_pos (by rfl), if_neg (by simpa using h2)]
theorem cut_find (c : UInt8) (l : List UInt8) : Lib.cut l [c] = if findN c l < l.length then (l.take (findN c l), l.drop (findN c l + 1), true) else (l, [], false) := by
  unfold Lib.cut
  rw [index_find]
  by_cases h : findN c l < l.length
  · rw [if_pos h, if_pos (by omega), if_pos h]; simp
  · rw [if_neg h, if_neg (by omega), if_neg h]
theorem parts_find : ∀ l : List UInt8, parts47 l = if findN 47 l < l.length then l.take (findN 47 l) :: parts47 (l.drop (findN 47 l + 1)) else [l]
  | [] => rfl
  | d :: l => by
    have ih := parts_find l
    rw [parts47, findN]
    by_cases h : d = 47
    · subst h
      rw [if_pos rfl, if_pos rfl, if_pos (by simp)]; rfl
    · rw [if_neg h, if_neg h]
      by_cases h2 : findN 47 l < l.length
      · rw [if_pos (by simpa using h2), ih, if_pos h2]; rfl
      · rw [if_neg (by simpa using h2), ih, if_neg h2]
theorem splitK_parts : ∀ (f : Nat) (l : List UInt8), l.length < f → Lib.splitK [47] 0 (Lib.countFrom [47] f l) l = parts47 l
  | 0, l, h => absurd h (by omega)
  | f + 1, l, h => by
    have hp := parts_find l
    have hi := index_find 47 l
    unfold Lib.countFrom
    by_cases h2 : findN 47 l < l.length
    · rw [if_pos h2] at hp hi
      rw [hi, if_neg (by rw [beq_iff_eq]; omega), Nat.add_comm 1, Lib.splitK, hi, if_neg (by rw [beq_iff_eq]; omega)]
      simp only [Int.toNat_natCast, Nat.add_zero, List.length_cons, List.length_nil, Nat.zero_add]
      rw [splitK_parts f _ (by rw [List.length_drop]; omega), hp]
    · rw [if_neg h2] at hp hi
      rw [hi, if_pos (by rfl), Lib.splitK, hp]
def slash : ByteArray := ⟨#[47]⟩
theorem split_parts (s : ByteArray) : (Lib.splitB slash 0 (Lib.countB s slash) s).map (·.data.toList) = parts47 s.data.toList := by
  rw [Lib.splitB_data]
  exact splitK_parts _ _ (by omega)
theorem split_len (s : ByteArray) : (Lib.splitB slash 0 (Lib.countB s slash) s).length = Lib.countB s slash + 1 := Lib.splitB_all slash (by decide) 0 _ s rfl

/-! tags -/
def tagA (c : UInt8) : Bool := signB c || c == 95 || c == 46 || c == 45
def tagC (i : Nat) (c : UInt8) : Bool := signB c || c == 95 || (decide (0 < i) && (c == 46 || c == 45))
def headOk : List UInt8 → Bool
  | [] => true
  | c :: _ => c != 46 && c != 45
def tagB (l : List UInt8) : Bool := decide (1 ≤ l.length) && decide (l.length ≤ 128) && headOk l && l.all tagA
theorem all_at {p : UInt8 → Bool} {l : List UInt8} (h : ∀ (j : Nat) c, l[j]? = some c → p c = true) : l.all p = true :=
  List.all_eq_true.2 fun c hc => by obtain ⟨j, hj⟩ := List.mem_iff_getElem?.1 hc; exact h j c hj
theorem all_not {p : UInt8 → Bool} {l : List UInt8} {k : Nat} {c : UInt8} (h : l[k]? = some c) (hc : p c = false) : l.all p = false := by
  cases ha : l.all p with
  | false => rfl
  | true => have := List.all_eq_true.1 ha c (List.mem_of_getElem? h); rw [hc] at this; cases this
theorem tagC_zero (c : UInt8) : tagC 0 c = (tagA c && (c != 46 && c != 45)) := by
  unfold tagC tagA
  by_cases h1 : c = 46
  · subst h1; decide
  · by_cases h2 : c = 45
    · subst h2; decide
    · have b1 : (c == 46) = false := beq_eq_false_iff_ne.2 h1
      have b2 : (c == 45) = false := beq_eq_false_iff_ne.2 h2
      simp only [bne, b1, b2]
      simp
theorem tagC_succ (i : Nat) (c : UInt8) (h : 0 < i) : tagC i c = tagA c := by unfold tagC tagA; simp [h, Bool.or_assoc]
theorem tag_bad {l : List UInt8} {k : Nat} {c : UInt8} (h : l[k]? = some c) (hc : tagC k c = false) : tagB l = false := by
  have key : (headOk l && l.all tagA) = false := by
    rcases Nat.eq_zero_or_pos k with h0 | h0
    · subst h0
      rw [tagC_zero] at hc
      cases l with
      | nil => simp at h
      | cons d l =>
        simp at h; subst h
        simp only [headOk, List.all_cons]
        cases ha : tagA d <;> simp_all
    · rw [tagC_succ k c h0] at hc
      rw [all_not h hc, Bool.and_false]
  unfold tagB
  rw [Bool.and_assoc, key, Bool.and_false]
theorem tag_good {l : List UInt8} (h : ∀ (j : Nat) c, l[j]? = some c → tagC j c = true) : tagB l = (decide (1 ≤ l.length) && decide (l.length ≤ 128)) := by
  have h1 : l.all tagA = true := all_at fun j c hc => by
    have := h j c hc
    rcases Nat.eq_zero_or_pos j with h0 | h0
    · subst h0; rw [tagC_zero, Bool.and_eq_true] at this; exact this.1
    · rwa [tagC_succ j c h0] at this
  have h2 : headOk l = true := by
    cases l with
    | nil => rfl
    | cons c l => have := h 0 c rfl; rw [tagC_zero, Bool.and_eq_true] at this; exact this.2
  unfold tagB
  rw [h1, h2, Bool.and_true, Bool.and_true]

/-! media types -/
def moreS : ByteArray := ⟨#[33, 35, 36, 38, 45, 94, 95, 46, 43]⟩
def moreB (c : UInt8) : Bool := moreS.data.toList.any (· == c)
theorem indexByte_any (c : UInt8) : ∀ l : List UInt8, decide (Lib.indexByte l c < 0) = !(l.any (· == c))
  | [] => rfl
  | d :: l => by
    have ih := indexByte_any c l
    have hge := Lib.indexByte_ge l c
    unfold Lib.indexByte
    rw [List.any_cons]
    by_cases h : (d == c) = true
    · rw [if_pos h, h]; rfl
    · have hf : (d == c) = false := by simpa using h
      rw [if_neg h, hf, Bool.false_or, ← ih]
      by_cases h2 : Lib.indexByte l c = -1
      · rw [if_pos (beq_iff_eq.2 h2), h2]
      · rw [if_neg (by rw [beq_iff_eq]; exact h2)]
        have h3 : ¬ Lib.indexByte l c < 0 := by omega
        have h4 : ¬ Lib.indexByte l c + 1 < 0 := by omega
        rw [decide_eq_false h3, decide_eq_false h4]
def restC (c : UInt8) : Bool := signB c || moreB c
def halfB : List UInt8 → Bool
  | [] => false
  | c :: l => signB c && l.all restC
def mediaB (l : List UInt8) : Bool := decide (findN 47 l < l.length) && decide (l.length ≤ 127) && (halfB (l.take (findN 47 l)) && halfB (l.drop (findN 47 l + 1)))
def macc : Nat → Bool → List UInt8 → Bool
  | h, b, [] => b && h == 2
  | h, b, c :: l => if c = 47 ∧ b = true then macc (h + 1) false l else if (signB c || (b && moreB c)) = true then macc h true l else false
theorem macc_big : ∀ (l : List UInt8) (h : Nat) (b : Bool), 3 ≤ h → macc h b l = false
  | [], h, b, hh => by have h2 : (h == 2) = false := by rw [beq_eq_false_iff_ne]; omega
                       rw [macc, h2, Bool.and_false]
  | c :: l, h, b, hh => by
    rw [macc]
    split
    · exact macc_big l _ _ (by omega)
    · split
      · exact macc_big l _ _ hh
      · rfl
theorem rest47 : restC 47 = false := by decide
theorem sign47 : signB 47 = false := by decide
theorem macc_rest : ∀ l : List UInt8, macc 2 true l = l.all restC
  | [] => rfl
  | c :: l => by
    rw [macc, List.all_cons]
    by_cases h : c = 47
    · subst h; rw [if_pos ⟨rfl, rfl⟩, macc_big _ _ _ (by omega), rest47]; rfl
    · rw [if_neg (fun hh => h hh.1)]
      simp only [Bool.true_and]
      show (if restC c = true then macc 2 true l else false) = (restC c && l.all restC)
      cases hr : restC c with
      | true => rw [if_pos rfl, macc_rest l]; rfl
      | false => rw [if_neg (by simp)]; rfl
theorem macc_half2 : ∀ l : List UInt8, macc 2 false l = halfB l
  | [] => rfl
  | c :: l => by
    rw [macc, if_neg (fun hh => by cases hh.2), halfB]
    simp only [Bool.false_and, Bool.or_false]
    cases hr : signB c with
    | true => rw [if_pos rfl, macc_rest l]; rfl
    | false => rw [if_neg (by simp)]; rfl
theorem macc_one : ∀ l : List UInt8, macc 1 true l = (decide (findN 47 l < l.length) && ((l.take (findN 47 l)).all restC && halfB (l.drop (findN 47 l + 1))))
  | [] => rfl
  | c :: l => by
    rw [macc]
    unfold findN
    by_cases h : c = 47
    · subst h
      rw [if_pos ⟨rfl, rfl⟩, if_pos rfl, macc_half2]
      simp
    · rw [if_neg (fun hh => h hh.1), if_neg h]
      simp only [Bool.true_and]
      show (if restC c = true then macc 1 true l else false) = _
      rw [macc_one l]
      cases hr : restC c with
      | true => rw [if_pos rfl]; simp [hr]
      | false => rw [if_neg (by simp)]; simp [hr]
theorem media_macc (l : List UInt8) : mediaB l = (macc 1 false l && decide (l.length ≤ 127)) := by
  have key : macc 1 false l = (decide (findN 47 l < l.length) && (halfB (l.take (findN 47 l)) && halfB (l.drop (findN 47 l + 1)))) := by
    cases l with
    | nil => rfl
    | cons c l =>
      rw [macc, if_neg (fun hh => by cases hh.2)]
      simp only [Bool.false_and, Bool.or_false]
      unfold findN
      by_cases h : c = 47
      · subst h
        rw [if_pos rfl, if_neg (by rw [sign47]; simp)]
        simp [halfB]
      · rw [if_neg h, macc_one l]
        simp only [List.take_succ_cons, halfB, List.drop_succ_cons, List.length_cons, Nat.add_lt_add_iff_right]
        cases hr : signB c with
        | true => rw [if_pos rfl]; simp
        | false => rw [if_neg (by simp)]; simp
  unfold mediaB
  rw [key]
  cases decide (findN 47 l < l.length) <;> cases decide (l.length ≤ 127) <;> simp
end Go.Proofs.YtpdbjhgphgcjoaaDoor
