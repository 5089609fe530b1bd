/-
  Layer 6: what the library's functions do: their contracts in the words of the walks.
-/
import Derived.Test.YtdekogmegdhjoaaDoorJ6
import Derived.Test.YtdekogmegdhjoaaDoorJU
import Derived.Test.YtdekogmegdhjoaaDoorShelf
import Derived.Shelf.Spec.DecodeRune
namespace Go.Proofs.YtdekogmegdhjoaaDoor
open Go.RowKit

/-- The library's tables of UTF-8 are laid. -/
def U8Tabs (w : World) : Prop := Lib.Utf8Tabs (Tryd.lays7n32_ren.g 2) (Tryd.lays7n32_ren.g 3) w
theorem rune_ok : RuneOk := by
  intro r w h hs
  have hcells : Lib.runeCells (r : Int) = (jSign r).map bv := by
    unfold Lib.runeCells
    rw [rune_sign h hs, List.map_map]
    rfl
  have ho := (OwnB.nil w w.heap.size 5).own
  refine (Tryd.utf8_AppendRune_plain w.heap.size (.slice none 0 0) 0 [] (r : Int) (by omega) (by omega) w ho (by omega) (Nat.le_refl _)).mono ?_
  rintro e w' ⟨v', rfl, h1, o, h2⟩
  rw [hcells, List.nil_append, List.length_map, Nat.zero_add] at h1
  exact ⟨v', rfl, ⟨h1⟩, (below_of_grown (World.grownBy_alloc w _ none)).trans ((below_of_grown h2).mono (by simp))⟩
/-- unicode/utf8.DecodeRune at bytes. -/
theorem decode_ok (A : Option Addr) (n c : Nat) (l : List UInt8) (w : World) (S : Nat → Prop) (hT : U8Tabs w) (h0 : 0 < n) (hr : Rd w S A 1 n (l.map bv)) :
    Calls Tryd.prog 56 #[.slice A n c] w fun e w' => ∃ (r k : Nat), e = .returned (.tuple #[.int .i32 (r : Int), .int .i64 (k : Int)]) ∧ Below w.heap.size w w' ∧ (r = 65533 ∧ k < 2 ↔ jSize l = 0) ∧ (jSize l ≠ 0 → k = jSize l) := by
  have hl := hr.bytes_len
  have hA := hr.some_ h0
  obtain ⟨ad, hA⟩ : ∃ ad, A = some ad := ⟨_, hA⟩
  subst hA
  obtain ⟨x, t, rfl⟩ : ∃ x t, l = x :: t := by
    cases l with
    | nil => simp at hl; omega
    | cons x t => exact ⟨x, t, rfl⟩
  have hc0 := hr.cell 0 (bv x) rfl
  have hsp := World.cell?_spot hc0
  have hat0 : atp (some ad) 0 = ad := by unfold atp Addr.add; simp
  rw [hat0] at hsp
  obtain ⟨b, off, spot⟩ := ad
  simp only at hsp
  subst hsp
  have hget : ∀ j, (⟨(x :: t).toArray⟩ : ByteArray).get! j = (x :: t).getD j default := fun j => by
    simp [ByteArray.get!, List.getD]
  have hsz : (⟨(x :: t).toArray⟩ : ByteArray).size = n := by rw [str_mk_size]; exact hl
  have hd := @Any7.utf8_DecodeRune _ _ Tryd.lays7n32 ⟨(x :: t).toArray⟩ b off c w hT (fun j hj => by
    rw [hsz] at hj
    have hjl : j < (x :: t).length := by omega
    have := hr.cell j (bv ((x :: t)[j])) (by rw [List.getElem?_map, List.getElem?_eq_getElem hjl]; rfl)
    have hat : atp (some ⟨b, off, none⟩) j = ⟨b, off + j, none⟩ := by
      unfold atp Addr.add
      by_cases h : j = 0 <;> simp [h]
    rw [hat] at this
    rw [this, hget j]
    simp [bv, List.getD, List.getElem?_eq_getElem hjl])
  rw [hsz] at hd
  refine hd.mono ?_
  rintro e w' ⟨rfl, hb⟩
  have key : Lib.decodeGo ⟨(x :: t).toArray⟩ = Lib.decodeN (t.length + 1) x.toNat ((x :: t).getD 1 default).toNat ((x :: t).getD 2 default).toNat ((x :: t).getD 3 default).toNat := by
    unfold Lib.decodeGo
    rw [if_neg (by rw [hsz]; omega), Lib.decode_at, hget, hget, hget, hget, hsz]
    rw [← hl]
    rfl
  obtain ⟨k1, k2⟩ := decodeN_size x t ((x :: t).getD 1 default).toNat ((x :: t).getD 2 default).toNat ((x :: t).getD 3 default).toNat (fun y hy => by simp [List.getD, hy]) (fun y hy => by simp [List.getD, hy]) (fun y hy => by simp [List.getD, hy])
  rw [← key] at k1 k2
  exact ⟨_, _, rfl, hb, k1, k2⟩
end Go.Proofs.YtdekogmegdhjoaaDoor
