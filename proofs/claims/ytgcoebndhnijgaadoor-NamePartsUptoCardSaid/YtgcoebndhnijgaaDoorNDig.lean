/-
  Layer 2 in plain words, as far as layer 7 needs it: the text of a sum. No program is named here.
-/
import Derived.Test.YtgcoebndhnijgaaDoorSpec
import Derived.Test.YtgcoebndhnijgaaDoorPlain3
import Derived.Test.YtgcoebndhnijgaaDoorFrP
namespace Go.Proofs.YtgcoebndhnijgaaDoor
open Go.RowKit

def zeros : List UInt8 := List.replicate 32 0
theorem zeros_len : (zeros.map bv).length = 32 := by simp [zeros]
def shaS : ByteArray := ⟨#[115, 104, 97, 50, 53, 54, 58]⟩
def sha7 : List UInt8 := [115, 104, 97, 50, 53, 54, 58]
def dgT (d : List UInt8) : List UInt8 := sha7 ++ hexL d
def dgP (l : List UInt8) : Option (List UInt8) := if l.length = 71 ∧ l.take 7 = sha7 then unhexL (l.drop 7) else none
theorem hexL_len2 : ∀ l : List UInt8, (hexL l).length = 2 * l.length
  | [] => rfl
  | d :: l => by rw [hexL]; simp [hexL_len2 l]; omega
theorem dgP_len {l d : List UInt8} (h : dgP l = some d) : d.length = 32 := by
  unfold dgP at h
  split at h
  · rename_i hh
    have h1 := hex_unhex _ _ h
    have h2 := hexL_len2 d
    rw [h1, List.length_drop, hh.1] at h2
    omega
  · cases h
theorem dgP_getD (l : List UInt8) : ((dgP l).getD zeros).length = 32 := by
  cases h : dgP l with
  | none => simp [zeros]
  | some d => exact dgP_len h
theorem dgP_T {d : List UInt8} (h : d.length = 32) : dgP (dgT d) = some d := by
  unfold dgP dgT
  rw [if_pos ⟨by rw [List.length_append, hexL_len2, h]; rfl, by rw [List.take_append_of_le_length (by simp [sha7])]; rfl⟩, List.drop_append_of_le_length (by simp [sha7])]
  exact unhex_hex d
theorem dgT_P {l d : List UInt8} (h : dgP l = some d) : dgT d = l := by
  unfold dgP at h
  split at h
  · rename_i hh
    have h1 := hex_unhex _ _ h
    unfold dgT
    rw [h1, ← hh.2, List.take_append_drop]
  · cases h
theorem dgP_no1 {l : List UInt8} (h : l.length ≠ 71) : dgP l = none := by unfold dgP; rw [if_neg (fun hh => h hh.1)]
theorem dgP_no2 {l : List UInt8} (h : l.take 7 ≠ sha7) : dgP l = none := by unfold dgP; rw [if_neg (fun hh => h hh.2)]
theorem dgP_yes {l : List UInt8} (h : l.length = 71) (h2 : l.take 7 = sha7) : dgP l = unhexL (l.drop 7) := by unfold dgP; rw [if_pos ⟨h, h2⟩]
end Go.Proofs.YtgcoebndhnijgaaDoor
