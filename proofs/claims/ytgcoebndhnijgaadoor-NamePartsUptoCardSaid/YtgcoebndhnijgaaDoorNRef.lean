/-
  Layer 7 in plain words: references. No program is named here.
-/
import Derived.Test.YtgcoebndhnijgaaDoorNDig
import Derived.Test.YtgcoebndhnijgaaDoorNSpec2
namespace Go.Proofs.YtgcoebndhnijgaaDoor
open Go.RowKit

theorem and_not {a b : Bool} (h : (a && !b) = true) : a = true ∧ b = false := by cases a <;> cases b <;> simp at h ⊢
theorem not_of {b : Bool} (h : (true && !b) = false) : b = true := by cases b <;> simp at h ⊢
structure NRef where
  repo : ByteArray
  tag : ByteArray
  pin : Bool
  d : List UInt8
def rfL (a b p : Value) (dg : List Value) : List Value := a :: b :: p :: dg
def NRef.cells (r : NRef) : List Value := rfL (.string r.repo) (.string r.tag) (.bool r.pin) (r.d.map bv)
def NRef.zero : NRef := ⟨⟨#[]⟩, ⟨#[]⟩, false, zeros⟩
def rf0 : List Value := rfL (.string ⟨#[]⟩) (.string ⟨#[]⟩) (.bool false) (zeros.map bv)
def rfP : List (Nat × Nat) := [(0, 1), (1, 1), (2, 1), (3, 32)]
theorem rfL_length {a b p : Value} {dg : List Value} (h : dg.length = 32) : (rfL a b p dg).length = 35 := by simp [rfL, h]
theorem rf_len {a b p : Value} {dg : List Value} (h : dg.length = 32) : (rfL a b p dg).length = 35 := rfL_length h
theorem rf0_len : rf0.length = 35 := rfL_length zeros_len
theorem NRef.len (r : NRef) (h : r.d.length = 32) : r.cells.length = 35 := rfL_length (by simpa using h)
theorem spl_at {p q r ds : List Value} {off : Nat} (ho : p.length = off) (hq : q.length = ds.length) : spl (p ++ (q ++ r)) off ds = p ++ (ds ++ r) := by
  unfold spl
  rw [List.take_left' ho, List.append_assoc]
  congr 2
  rw [← ho, List.drop_append, List.drop_of_length_le (by omega), List.nil_append, Nat.add_sub_cancel_left, List.drop_left' hq]
section
variable {a b p v : Value} {dg ds : List Value}
theorem rfL_0 : spl (rfL a b p dg) 0 [v] = rfL v b p dg := rfl
theorem rfL_1 : spl (rfL a b p dg) 1 [v] = rfL a v p dg := rfl
theorem rfL_2 : spl (rfL a b p dg) 2 [v] = rfL a b v dg := rfl
theorem rfL_3 (h : dg.length = ds.length) : spl (rfL a b p dg) 3 ds = rfL a b p ds := by
  have := spl_at (p := [a, b, p]) (q := dg) (r := []) (ds := ds) (off := 3) rfl h
  simpa [rfL] using this
theorem rfL_dig {k : Nat} (h : dg.length = k) : ((rfL a b p dg).drop 3).take k = dg := by
  show dg.take k = dg
  rw [List.take_of_length_le (by omega)]
theorem rfL_one (h : ∀ u ∈ dg, u.oneCell' = true) (ha : a.oneCell' = true) (hb : b.oneCell' = true) (hp : p.oneCell' = true) : ∀ u ∈ rfL a b p dg, u.oneCell' = true := by
  intro u hu
  simp only [rfL, List.mem_cons] at hu
  rcases hu with rfl | rfl | rfl | hu
  all_goals first | assumption | exact h u hu
end
theorem NRef.one (r : NRef) : ∀ u ∈ r.cells, u.oneCell' = true := rfL_one (bv_one _) rfl rfl rfl
theorem NRef.dig (r : NRef) : (r.cells.drop 3).take (r.d.map bv).length = r.d.map bv := rfL_dig rfl
theorem rf0_one : ∀ u ∈ rf0, u.oneCell' = true := rfL_one (bv_one _) rfl rfl rfl
theorem rf0_fill : Instr.fill (fun i : Nat => rfP[i]?) rf0.toArray [] = some rf0.toArray := rfl
theorem rf0_fill1 {v : Value} (hv : v.cells = #[v]) : Instr.fill (fun i : Nat => rfP[i]?) rf0.toArray [(0, v)] = some (rfL v (.string ⟨#[]⟩) (.bool false) (zeros.map bv)).toArray := by
  rw [fill_step (off := 0) (size := 1) rfl (by rw [hv]; rfl) (by rw [rf0_len]; omega), hv]
  rfl
theorem rf_fill2 {a b : Value} (ha : a.cells = #[a]) (hb : b.cells = #[b]) : Instr.fill (fun i : Nat => rfP[i]?) rf0.toArray [(0, a), (1, b)] = some (rfL a b (.bool false) (zeros.map bv)).toArray := by
  unfold rf0
  rw [fill_step (off := 0) (size := 1) rfl (by rw [ha]; rfl) (by rw [rfL_length zeros_len]; omega), ha, rfL_0,
    fill_step (off := 1) (size := 1) rfl (by rw [hb]; rfl) (by rw [rfL_length zeros_len]; omega), hb, rfL_1]
  rfl
theorem rf_fill {a b p : Value} {dg : List Value} (hd : dg.length = 32) (ha : a.cells = #[a]) (hb : b.cells = #[b]) (hp : p.cells = #[p]) : Instr.fill (fun i : Nat => rfP[i]?) rf0.toArray [(0, a), (1, b), (2, p), (3, .agg dg.toArray)] = some (rfL a b p dg).toArray := by
  unfold rf0
  rw [fill_step (off := 0) (size := 1) rfl (by rw [ha]; rfl) (by rw [rfL_length zeros_len]; omega), ha, rfL_0,
    fill_step (off := 1) (size := 1) rfl (by rw [hb]; rfl) (by rw [rfL_length zeros_len]; omega), hb, rfL_1,
    fill_step (off := 2) (size := 1) rfl (by rw [hp]; rfl) (by rw [rfL_length zeros_len]; omega), hp, rfL_2,
    fill_step (off := 3) (size := 32) rfl (by simpa [Value.cells] using hd) (by rw [rfL_length zeros_len]; omega), show (Value.agg dg.toArray).cells.toList = dg from rfl, rfL_3 (by rw [zeros_len, hd])]
  rfl
/-- The reference that a text is, or why it is none. -/
def bs (l : List UInt8) : ByteArray := ⟨l.toArray⟩
def cutA (c : UInt8) (l : List UInt8) : List UInt8 := l.take (findN c l)
def cutZ (c : UInt8) (l : List UInt8) : List UInt8 := l.drop (findN c l + 1)
def cutOk (c : UInt8) (l : List UInt8) : Bool := decide (findN c l < l.length)
theorem cutA_len (c : UInt8) (l : List UInt8) : (cutA c l).length ≤ l.length := by unfold cutA; simp; omega
theorem cutZ_len (c : UInt8) (l : List UInt8) : (cutZ c l).length ≤ l.length := by unfold cutZ; simp
def pRepo (l : List UInt8) : List UInt8 := cutA 58 (cutA 64 l)
def pTag (l : List UInt8) : List UInt8 := cutZ 58 (cutA 64 l)
def pTagged (l : List UInt8) : Bool := cutOk 58 (cutA 64 l)
def pSum (l : List UInt8) : List UInt8 := cutZ 64 l
def pPin (l : List UInt8) : Bool := cutOk 64 l
def parseR (l : List UInt8) : Int × NRef :=
  if repoB (pRepo l) = false then (70, .zero)
  else if (pTagged l && !tagB (pTag l)) = true then (71, .zero)
  else if pPin l = true then (match dgP (pSum l) with
    | none => (20, .zero)
    | some d => (0, ⟨bs (pRepo l), bs (pTag l), true, d⟩))
  else (0, ⟨bs (pRepo l), bs (pTag l), false, zeros⟩)
theorem parse_no1 {l : List UInt8} (h : repoB (pRepo l) = false) : parseR l = (70, .zero) := by unfold parseR; rw [if_pos h]
theorem parse_no2 {l : List UInt8} (h : repoB (pRepo l) = true) (h1 : pTagged l = true) (h2 : tagB (pTag l) = false) : parseR l = (71, .zero) := by
  unfold parseR; rw [if_neg (by simp [h]), if_pos (by simp [h1, h2])]
theorem parse_no3 {l : List UInt8} (h : repoB (pRepo l) = true) (h1 : (pTagged l && !tagB (pTag l)) = false) (hp : pPin l = true) (h2 : dgP (pSum l) = none) : parseR l = (20, .zero) := by
  unfold parseR; rw [if_neg (by simp [h]), if_neg (by simp [h1]), if_pos hp, h2]
theorem parse_pin {l d : List UInt8} (h : repoB (pRepo l) = true) (h1 : (pTagged l && !tagB (pTag l)) = false) (hp : pPin l = true) (h2 : dgP (pSum l) = some d) : parseR l = (0, ⟨bs (pRepo l), bs (pTag l), true, d⟩) := by
  unfold parseR; rw [if_neg (by simp [h]), if_neg (by simp [h1]), if_pos hp, h2]
theorem parse_free {l : List UInt8} (h : repoB (pRepo l) = true) (h1 : (pTagged l && !tagB (pTag l)) = false) (hp : pPin l = false) : parseR l = (0, ⟨bs (pRepo l), bs (pTag l), false, zeros⟩) := by
  unfold parseR; rw [if_neg (by simp [h]), if_neg (by simp [h1]), if_neg (by simp [hp])]
theorem parse_32 (l : List UInt8) : (parseR l).2.d.length = 32 := by
  unfold parseR
  have hz : zeros.length = 32 := by simp [zeros]
  split
  · exact hz
  · split
    · exact hz
    · split
      · cases h : dgP (pSum l) with
        | none => exact hz
        | some d => exact dgP_len h
      · exact hz
end Go.Proofs.YtgcoebndhnijgaaDoor
