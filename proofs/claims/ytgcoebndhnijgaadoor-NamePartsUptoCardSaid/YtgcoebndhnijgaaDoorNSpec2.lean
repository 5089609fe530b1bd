/-
  Layer 7 in plain words, further: where a sign stands first; pieces; tags; media types. No program is named here.
-/
import Derived.Test.YtgcoebndhnijgaaDoorNSpec
import Derived.Lib.SplitLaws
namespace Go.Proofs.YtgcoebndhnijgaaDoor
open Go.RowKit

def findN (c : UInt8) : List UInt8 → Nat
  | [] => 0
  | d :: l => if d = c then 0 else findN c l + 1
theorem findN_le (c : UInt8) : ∀ l, findN c l ≤ l.length
  | [] => Nat.le_refl _
  | d :: l => by unfold findN; have := findN_le c l; split <;> simp <;> omega
theorem findN_at {c : UInt8} : ∀ {l : List UInt8} {k : Nat}, l[k]? = some c → (∀ (j : Nat) d, j < k → l[j]? = some d → d ≠ c) → findN c l = k
  | [], k, h, _ => by simp at h
  | d :: l, 0, h, _ => by simp at h; unfold findN; rw [if_pos h]
  | d :: l, k + 1, h, hno => by
    unfold findN
    rw [if_neg (hno 0 d (by omega) rfl), findN_at (l := l) (k := k) (by simpa using h) (fun j e hj he => hno (j + 1) e (by omega) (by simpa using he))]
theorem findN_all {c : UInt8} : ∀ {l : List UInt8}, (∀ (j : Nat) d, l[j]? = some d → d ≠ c) → findN c l = l.length
  | [], _ => rfl
  | d :: l, h => by
    unfold findN
    rw [if_neg (h 0 d rfl), findN_all (l := l) (fun j e he => h (j + 1) e (by simpa using he))]
    simp
theorem index_find (c : UInt8) : ∀ l : List UInt8, Lib.index l [c] = if findN c l < l.length then (findN c l : Int) else -1
  | [] => rfl
  | d :: l => by
    have ih := index_find c l
    unfold Lib.index findN
    by_cases h : d = c
    · subst h
      rw [if_pos (by simp [List.isPrefixOf]), if_pos rfl, if_pos (by simp)]; rfl
    · rw [if_neg (by simp [List.isPrefixOf]; exact fun e => h e.symm), if_neg h, ih]
      have := findN_le c l
      by_cases h2 : findN c l < l.length
      · rw [if_pos h2, if_neg (by rw [beq_iff_eq]; omega), if_pos (by simpa using h2)]; simp
      · rw [if_neg h2, if_pos (by rfl), if_neg (by simpa using h2)]
theorem cut_find (c : UInt8) (l : List UInt8) : Lib.cut l [c] = if findN c l < l.length then (l.take (findN c l), l.drop (findN c l + 1), true) else (l, [], false) := by
  unfold Lib.cut
  rw [index_find]
  by_cases h : findN c l < l.length
  · rw [if_pos h, if_pos (by omega), if_pos h]; simp
  · rw [if_neg h, if_neg (by omega), if_neg h]
theorem parts_find : ∀ l : List UInt8, parts47 l = if findN 47 l < l.length then l.take (findN 47 l) :: parts47 (l.drop (findN 47 l + 1)) else [l]
  | [] => rfl
  | d :: l => by
    have ih := parts_find l
    rw [parts47, findN]
    by_cases h : d = 47
    · subst h
      rw [if_pos rfl, if_pos rfl, if_pos (by simp)]; rfl
    · rw [if_neg h, if_neg h]
      by_cases h2 : findN 47 l < l.length
      · rw [if_pos (by simpa using h2), ih, if_pos h2]; rfl
      · rw [if_neg (by simpa using h2), ih, if_neg h2]
theorem splitK_parts : ∀ (f : Nat) (l : List UInt8), l.length < f → Lib.splitK [47] 0 (Lib.countFrom [47] f l) l = parts47 l
  | 0, l, h => absurd h (by omega)
  | f + 1, l, h => by
    have hp := parts_find l
    have hi := index_find 47 l
    unfold Lib.countFrom
    by_cases h2 : findN 47 l < l.length
    · rw [if_pos h2] at hp hi
      rw [hi, if_neg (by rw [beq_iff_eq]; omega), Nat.add_comm 1, Lib.splitK, hi, if_neg (by rw [beq_iff_eq]; omega)]
      simp only [Int.toNat_natCast, Nat.add_zero, List.length_cons, List.length_nil, Nat.zero_add]
      rw [splitK_parts f _ (by rw [List.length_drop]; omega), hp]
    · rw [if_neg h2] at hp hi
      rw [hi, if_pos (by rfl), Lib.splitK, hp]
def slash : ByteArray := ⟨#[47]⟩
theorem split_parts (s : ByteArray) : (Lib.splitB slash 0 (Lib.countB s slash) s).map (·.data.toList) = parts47 s.data.toList := by
  rw [Lib.splitB_data]
  exact splitK_parts _ _ (by omega)
theorem split_len (s : ByteArray) : (Lib.splitB slash 0 (Lib.countB s slash) s).length = Lib.countB s slash + 1 := Lib.splitB_all slash (by decide) 0 _ s rfl

/-! tags -/
def tagA (c : UInt8) : Bool := signB c || c == 95 || c == 46 || c == 45
def tagC (i : Nat) (c : UInt8) : Bool := signB c || c == 95 || (decide (0 < i) && (c == 46 || c == 45))
def headOk : List UInt8 → Bool
  | [] => true
  | c :: _ => c != 46 && c != 45
def tagB (l : List UInt8) : Bool := decide (1 ≤ l.length) && decide (l.length ≤ 128) && headOk l && l.all tagA
theorem all_at {p : UInt8 → Bool} {l : List UInt8} (h : ∀ (j : Nat) c, l[j]? = some c → p c = true) : l.all p = true :=
  List.all_eq_true.2 fun c hc => by obtain ⟨j, hj⟩ := List.mem_iff_getElem?.1 hc; exact h j c hj
theorem all_not {p : UInt8 → Bool} {l : List UInt8} {k : Nat} {c : UInt8} (h : l[k]? = some c) (hc : p c = false) : l.all p = false := by
  cases ha : l.all p with
  | false => rfl
  | true => have := List.all_eq_true.1 ha c (List.mem_of_getElem? h); rw [hc] at this; cases this
theorem tagC_zero (c : UInt8) : tagC 0 c = (tagA c && (c != 46 && c != 45)) := by
  unfold tagC tagA
  by_cases h1 : c = 46
  · subst h1; decide
  · by_cases h2 : c = 45
    · subst h2; decide
    · have b1 : (c == 46) = false := beq_eq_false_iff_ne.2 h1
      have b2 : (c == 45) = false := beq_eq_false_iff_ne.2 h2
      simp only [bne, b1, b2]
      simp
theorem tagC_succ (i : Nat) (c : UInt8) (h : 0 < i) : tagC i c = tagA c := by unfold tagC tagA; simp [h, Bool.or_assoc]
theorem tag_bad {l : List UInt8} {k : Nat} {c : UInt8} (h : l[k]? = some c) (hc : tagC k c = false) : tagB l = false := by
  have key : (headOk l && l.all tagA) = false := by
    rcases Nat.eq_zero_or_pos k with h0 | h0
    · subst h0
      rw [tagC_zero] at hc
      cases l with
      | nil => simp at h
      | cons d l =>
        simp at h; subst h
        simp only [headOk, List.all_cons]
        cases ha : tagA d <;> simp_all
    · rw [tagC_succ k c h0] at hc
      rw [all_not h hc, Bool.and_false]
  unfold tagB
  rw [Bool.and_assoc, key, Bool.and_false]
theorem tag_good {l : List UInt8} (h : ∀ (j : Nat) c, l[j]? = some c → tagC j c = true) : tagB l = (decide (1 ≤ l.length) && decide (l.length ≤ 128)) := by
  have h1 : l.all tagA = true := all_at fun j c hc => by
    have := h j c hc
    rcases Nat.eq_zero_or_pos j with h0 | h0
    · subst h0; rw [tagC_zero, Bool.and_eq_true] at this; exact this.1
    · rwa [tagC_succ j c h0] at this
  have h2 : headOk l = true := by
    cases l with
    | nil => rfl
    | cons c l => have := h 0 c rfl; rw [tagC_zero, Bool.and_eq_true] at this; exact this.2
  unfold tagB
  rw [h1, h2, Bool.and_true, Bool.and_true]

/-! media types -/
def moreS : ByteArray := ⟨#[33, 35, 36, 38, 45, 94, 95, 46, 43]⟩
def moreB (c : UInt8) : Bool := moreS.data.toList.any (· == c)
theorem indexByte_any (c : UInt8) : ∀ l : List UInt8, decide (Lib.indexByte l c < 0) = !(l.any (· == c))
  | [] => rfl
  | d :: l => by
    have ih := indexByte_any c l
    have hge := Lib.indexByte_ge l c
    unfold Lib.indexByte
    rw [List.any_cons]
    by_cases h : (d == c) = true
    · rw [if_pos h, h]; rfl
    · have hf : (d == c) = false := by simpa using h
      rw [if_neg h, hf, Bool.false_or, ← ih]
      by_cases h2 : Lib.indexByte l c = -1
      · rw [if_pos (beq_iff_eq.2 h2), h2]
      · rw [if_neg (by rw [beq_iff_eq]; exact h2)]
        have h3 : ¬ Lib.indexByte l c < 0 := by omega
        have h4 : ¬ Lib.indexByte l c + 1 < 0 := by omega
        rw [decide_eq_false h3, decide_eq_false h4]
def restC (c : UInt8) : Bool := signB c || moreB c
def halfB : List UInt8 → Bool
  | [] => false
  | c :: l => signB c && l.all restC
def mediaB (l : List UInt8) : Bool := decide (findN 47 l < l.length) && decide (l.length ≤ 127) && (halfB (l.take (findN 47 l)) && halfB (l.drop (findN 47 l + 1)))
def macc : Nat → Bool → List UInt8 → Bool
  | h, b, [] => b && h == 2
  | h, b, c :: l => if c = 47 ∧ b = true then macc (h + 1) false l else if (signB c || (b && moreB c)) = true then macc h true l else false
theorem macc_big : ∀ (l : List UInt8) (h : Nat) (b : Bool), 3 ≤ h → macc h b l = false
  | [], h, b, hh => by have h2 : (h == 2) = false := by rw [beq_eq_false_iff_ne]; omega
                       rw [macc, h2, Bool.and_false]
  | c :: l, h, b, hh => by
    rw [macc]
    split
    · exact macc_big l _ _ (by omega)
    · split
      · exact macc_big l _ _ hh
      · rfl
theorem rest47 : restC 47 = false := by decide
theorem sign47 : signB 47 = false := by decide
theorem macc_rest : ∀ l : List UInt8, macc 2 true l = l.all restC
  | [] => rfl
  | c :: l => by
    rw [macc, List.all_cons]
    by_cases h : c = 47
    · subst h; rw [if_pos ⟨rfl, rfl⟩, macc_big _ _ _ (by omega), rest47]; rfl
    · rw [if_neg (fun hh => h hh.1)]
      simp only [Bool.true_and]
      show (if restC c = true then macc 2 true l else false) = (restC c && l.all restC)
      cases hr : restC c with
      | true => rw [if_pos rfl, macc_rest l]; rfl
      | false => rw [if_neg (by simp)]; rfl
theorem macc_half2 : ∀ l : List UInt8, macc 2 false l = halfB l
  | [] => rfl
  | c :: l => by
    rw [macc, if_neg (fun hh => by cases hh.2), halfB]
    simp only [Bool.false_and, Bool.or_false]
    cases hr : signB c with
    | true => rw [if_pos rfl, macc_rest l]; rfl
    | false => rw [if_neg (by simp)]; rfl
theorem macc_one : ∀ l : List UInt8, macc 1 true l = (decide (findN 47 l < l.length) && ((l.take (findN 47 l)).all restC && halfB (l.drop (findN 47 l + 1))))
  | [] => rfl
  | c :: l => by
    rw [macc]
    unfold findN
    by_cases h : c = 47
    · subst h
      rw [if_pos ⟨rfl, rfl⟩, if_pos rfl, macc_half2]
      simp
    · rw [if_neg (fun hh => h hh.1), if_neg h]
      simp only [Bool.true_and]
      show (if restC c = true then macc 1 true l else false) = _
      rw [macc_one l]
      cases hr : restC c with
      | true => rw [if_pos rfl]; simp [hr]
      | false => rw [if_neg (by simp)]; simp [hr]
theorem media_macc (l : List UInt8) : mediaB l = (macc 1 false l && decide (l.length ≤ 127)) := by
  have key : macc 1 false l = (decide (findN 47 l < l.length) && (halfB (l.take (findN 47 l)) && halfB (l.drop (findN 47 l + 1)))) := by
    cases l with
    | nil => rfl
    | cons c l =>
      rw [macc, if_neg (fun hh => by cases hh.2)]
      simp only [Bool.false_and, Bool.or_false]
      unfold findN
      by_cases h : c = 47
      · subst h
        rw [if_pos rfl, if_neg (by rw [sign47]; simp)]
        simp [halfB]
      · rw [if_neg h, macc_one l]
        simp only [List.take_succ_cons, halfB, List.drop_succ_cons, List.length_cons, Nat.add_lt_add_iff_right]
        cases hr : signB c with
        | true => rw [if_pos rfl]; simp
        | false => rw [if_neg (by simp)]; simp
  unfold mediaB
  rw [key]
  cases decide (findN 47 l < l.length) <;> cases decide (l.length ≤ 127) <;> simp
end Go.Proofs.YtgcoebndhnijgaaDoor
