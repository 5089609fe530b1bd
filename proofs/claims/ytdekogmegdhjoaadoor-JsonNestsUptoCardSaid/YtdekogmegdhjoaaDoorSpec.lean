/-
  Layer 1 in plain words: numbers, counts, texts, digits, sums. No program is named here.
-/
namespace Go.Proofs.YtdekogmegdhjoaaDoor

/-- A number in as few bytes as may be. -/
def cnt (n : Nat) : List UInt8 := if n < 128 then [UInt8.ofNat n] else UInt8.ofNat (n % 128 + 128) :: cnt (n / 128)
termination_by n
decreasing_by omega

/-- The number that bytes begin with: the number, how many bytes, the error. -/
def rdc (i acc : Nat) : List UInt8 → Nat × Nat × Nat
  | [] => (0, 0, 9)
  | c :: l =>
    if (i = 9 ∧ 1 < c.toNat) ∨ (0 < i ∧ c.toNat = 0) then (0, 0, 10)
    else if c.toNat < 128 then (acc + c.toNat % 128 * 2 ^ (7 * i), i + 1, 0) else rdc (i + 1) (acc + c.toNat % 128 * 2 ^ (7 * i)) l

def textL (l : List UInt8) : List UInt8 := cnt l.length ++ l

/-- The text that bytes begin with: the bytes, how many bytes, the error. -/
def rdt (l : List UInt8) (most : Int) : List UInt8 × Nat × Nat :=
  let r := rdc 0 0 l
  if r.2.2 ≠ 0 then ([], 0, r.2.2)
  else if most < (r.1 : Int) then ([], 0, 8)
  else if l.length - r.2.1 < r.1 then ([], 0, 9)
  else ((l.drop r.2.1).take r.1, r.2.1 + r.1, 0)

/-- The lowest k bytes of a number, the highest first. -/
def putL (n : Nat) : Nat → List UInt8
  | 0 => []
  | k + 1 => UInt8.ofNat (n / 2 ^ (8 * k) % 256) :: putL n k

def getN (l : List UInt8) : Nat := l.foldl (fun n c => n * 256 + c.toNat) 0

def hexd (d : UInt8) : UInt8 := if d < 10 then 48 + d else 97 + d - 10
def hexL : List UInt8 → List UInt8
  | [] => []
  | c :: l => hexd (c / 16) :: hexd (c % 16) :: hexL l
def hexv (c : UInt8) : Option UInt8 := if 48 ≤ c ∧ c ≤ 57 then some (c - 48) else if 97 ≤ c ∧ c ≤ 102 then some (c - 97 + 10) else none
def unhexL : List UInt8 → Option (List UInt8)
  | [] => some []
  | [_] => none
  | a :: b :: l => match hexv a, hexv b, unhexL l with
    | some x, some y, some r => some ((16 * x + y) :: r)
    | _, _, _ => none

/-- A word turned to the right by k, k at most 31. -/
def rotN (x k : Nat) : Nat := x * 2 ^ ((32 - k) % 32) % 2 ^ 32 ||| x / 2 ^ (32 - (32 - k) % 32)

def crc1 (c : Nat) : Nat := if c % 2 = 1 then (c / 2) ^^^ 3988292384 else c / 2
def crcK : Nat → Nat → Nat
  | 0, c => c
  | k + 1, c => crc1 (crcK k c)
def crcL (c : Nat) (l : List UInt8) : Nat := l.foldl (fun c b => crcK 8 (c ^^^ b.toNat)) c
def crcN (l : List UInt8) : Nat := 4294967295 - crcL 4294967295 l

theorem xor_lt {a b k : Nat} (ha : a < 2 ^ k) (hb : b < 2 ^ k) : a ^^^ b < 2 ^ k := Nat.xor_lt_two_pow ha hb
theorem crc1_lt {c : Nat} (h : c < 4294967296) : crc1 c < 4294967296 := by
  unfold crc1
  split
  · exact xor_lt (k := 32) (by omega) (by decide)
  · omega
theorem crcK_lt {c : Nat} (h : c < 4294967296) : ∀ k, crcK k c < 4294967296
  | 0 => h
  | k + 1 => crc1_lt (crcK_lt h k)
theorem crcL_lt (l : List UInt8) : ∀ {c : Nat}, c < 4294967296 → crcL c l < 4294967296 := by
  induction l with
  | nil => intro c h; exact h
  | cons b l ih =>
    intro c h
    have hb : b.toNat < 4294967296 := by have := b.toNat_lt; omega
    exact ih (c := crcK 8 (c ^^^ b.toNat)) (crcK_lt (xor_lt (k := 32) h hb) 8)
theorem crcL_snoc (c : Nat) (l : List UInt8) (b : UInt8) : crcL c (l ++ [b]) = crcK 8 (crcL c l ^^^ b.toNat) := by simp [crcL]

theorem cnt_small {n : Nat} (h : n < 128) : cnt n = [UInt8.ofNat n] := by rw [cnt, if_pos h]
theorem cnt_big {n : Nat} (h : 128 ≤ n) : cnt n = UInt8.ofNat (n % 128 + 128) :: cnt (n / 128) := by rw [cnt, if_neg (by omega)]
theorem cnt_len : ∀ (k n : Nat), n < 2 ^ (7 * (k + 1)) → (cnt n).length ≤ k + 1
  | 0, n, h => by rw [cnt_small (by simpa using h)]; simp
  | k + 1, n, h => by
    by_cases hn : n < 128
    · rw [cnt_small hn]; simp
    · rw [cnt_big (by omega), List.length_cons]
      have := cnt_len k (n / 128) (by
        have : 7 * (k + 1 + 1) = 7 * (k + 1) + 7 := by omega
        rw [this, Nat.pow_add] at h
        omega)
      omega
theorem cnt_len64 {n : Nat} (h : n < 18446744073709551616) : (cnt n).length ≤ 10 := cnt_len 9 n (Nat.lt_of_lt_of_le h (by decide))
theorem cnt_pos (n : Nat) : 0 < (cnt n).length := by
  rw [cnt]; split <;> simp

end Go.Proofs.YtdekogmegdhjoaaDoor
