/-
  Layer 1: plain laws on digits, numbers and texts. No program is named here.
-/
import Derived.Test.YtgcoebndhnijgaaDoorPlain2
namespace Go.Proofs.YtgcoebndhnijgaaDoor

theorem hexv_hexd (x : UInt8) (h : x.toNat < 16) : hexv (hexd x) = some x := by
  have : ∀ n : Fin 16, hexv (hexd (UInt8.ofNat n.val)) = some (UInt8.ofNat n.val) := by decide +kernel
  have h2 := this ⟨x.toNat, h⟩
  simpa using h2
theorem hexd_hexv (c v : UInt8) (h : hexv c = some v) : hexd v = c ∧ v.toNat < 16 := by
  have : ∀ n : Fin 256, ((hexv (UInt8.ofNat n.val)).map (fun v => decide (hexd v = UInt8.ofNat n.val ∧ v.toNat < 16))).getD true = true := by decide +kernel
  have h2 := this ⟨c.toNat, c.toNat_lt⟩
  simp only [UInt8.ofNat_toNat] at h2
  rw [h] at h2
  exact of_decide_eq_true h2
theorem nib_back (d : UInt8) : 16 * (d / 16) + d % 16 = d := by
  have : ∀ n : Fin 256, 16 * (UInt8.ofNat n.val / 16) + UInt8.ofNat n.val % 16 = UInt8.ofNat n.val := by decide +kernel
  have h2 := this ⟨d.toNat, d.toNat_lt⟩
  simpa using h2
theorem nib_div (x y : UInt8) (hx : x.toNat < 16) (hy : y.toNat < 16) : (16 * x + y) / 16 = x ∧ (16 * x + y) % 16 = y := by
  have : ∀ n m : Fin 16, (16 * UInt8.ofNat n.val + UInt8.ofNat m.val) / 16 = UInt8.ofNat n.val ∧ (16 * UInt8.ofNat n.val + UInt8.ofNat m.val) % 16 = UInt8.ofNat m.val := by decide +kernel
  have h2 := this ⟨x.toNat, hx⟩ ⟨y.toNat, hy⟩
  simpa using h2
theorem unhex_hex : ∀ (l : List UInt8), unhexL (hexL l) = some l
  | [] => rfl
  | d :: l => by
    have h1 : (d / 16).toNat < 16 := by rw [UInt8.toNat_div]; have := d.toNat_lt; show d.toNat / 16 < 16; omega
    have h2 : (d % 16).toNat < 16 := by rw [UInt8.toNat_mod]; show d.toNat % 16 < 16; omega
    rw [hexL, unhexL, hexv_hexd _ h1, hexv_hexd _ h2, unhex_hex l]
    simp only []
    rw [nib_back]
theorem hex_unhex : ∀ (s r : List UInt8), unhexL s = some r → hexL r = s
  | [], r, h => by rw [unhexL] at h; injection h with h; subst h; rfl
  | [a], r, h => by rw [unhexL] at h; cases h
  | a :: b :: s, r, h => by
    rw [unhexL] at h
    cases ha : hexv a with
    | none => rw [ha] at h; cases h
    | some x =>
      cases hb : hexv b with
      | none => rw [ha, hb] at h; cases h
      | some y =>
        cases hs : unhexL s with
        | none => rw [ha, hb, hs] at h; cases h
        | some q =>
          rw [ha, hb, hs] at h
          injection h with h
          subst h
          have h1 := hexd_hexv a x ha
          have h2 := hexd_hexv b y hb
          have h3 := nib_div x y h1.2 h2.2
          rw [hexL, h3.1, h3.2, h1.1, h2.1, hex_unhex s q hs]
theorem unhex_len : ∀ (s r : List UInt8), unhexL s = some r → r.length ≤ s.length := by
  intro s r h
  have h1 := hex_unhex s r h
  rw [← h1]
  have : ∀ l : List UInt8, l.length ≤ (hexL l).length := by
    intro l
    induction l with
    | nil => simp
    | cons c l ih => rw [hexL, List.length_cons, List.length_cons, List.length_cons]; omega
  exact this r
end Go.Proofs.YtgcoebndhnijgaaDoor
