/-
  Walks of layer 1: digits as bytes, the document's answer.
-/
import Derived.Test.YtgcoebndhnijgaaDoorHexB
namespace Go.Proofs.YtgcoebndhnijgaaDoor
open Go.RowKit

/-- What the inner loop of the document's answer has come to. -/
def UnhIn (a b : UInt8) (m V : Nat) : Prop := m = 0 ∧ V = 0 ∨ m = 1 ∧ (∃ x, hexv a = some x ∧ V = x.toNat) ∨ m = 2 ∧ ∃ x y, hexv a = some x ∧ hexv b = some y ∧ V = 16 * x.toNat + y.toNat

theorem hexv_num (c : UInt8) (h : 48 ≤ c.toNat) (h' : c.toNat ≤ 57) : ∃ v, hexv c = some v ∧ v.toNat = c.toNat - 48 := by
  refine ⟨c - 48, by unfold hexv; rw [if_pos ⟨by rw [UInt8.le_iff_toNat_le]; exact h, by rw [UInt8.le_iff_toNat_le]; exact h'⟩], ?_⟩
  exact u8sub c 48 h (by decide)
theorem hexv_let (c : UInt8) (h : 97 ≤ c.toNat) (h' : c.toNat ≤ 102) : ∃ v, hexv c = some v ∧ v.toNat = c.toNat - 87 := by
  refine ⟨c - 97 + 10, ?_, ?_⟩
  · unfold hexv
    rw [if_neg (fun hh => by have := hh.2; rw [UInt8.le_iff_toNat_le] at this; simp at this; omega), if_pos ⟨by rw [UInt8.le_iff_toNat_le]; exact h, by rw [UInt8.le_iff_toNat_le]; exact h'⟩]
  · have := u8sub c 97 h (by decide)
    rw [show (97 : UInt8) = UInt8.ofNat 97 from rfl, UInt8.toNat_add, this]; simp; omega
theorem hexv_none (c : UInt8) (h : ¬ (48 ≤ c.toNat ∧ c.toNat ≤ 57)) (h' : ¬ (97 ≤ c.toNat ∧ c.toNat ≤ 102)) : hexv c = none := by
  unfold hexv
  rw [if_neg (fun hh => h ⟨by simpa [UInt8.le_iff_toNat_le] using hh.1, by simpa [UInt8.le_iff_toNat_le] using hh.2⟩), if_neg (fun hh => h' ⟨by simpa [UInt8.le_iff_toNat_le] using hh.1, by simpa [UInt8.le_iff_toNat_le] using hh.2⟩)]
theorem UnhIn.first {a b : UInt8} {v q : Nat} (h : UnhIn a b 0 v) (hx : ∃ x, hexv a = some x ∧ x.toNat = q) : UnhIn a b 1 (16 * v + q) ∧ 16 * v + q ≤ 255 := by
  obtain ⟨x, hx, he⟩ := hx
  have hl := (digN_some hx).2
  rcases h with ⟨_, rfl⟩ | ⟨h, _⟩ | ⟨h, _⟩
  · exact ⟨.inr (.inl ⟨rfl, x, hx, by omega⟩), by omega⟩
  · cases h
  · cases h
theorem UnhIn.second {a b : UInt8} {v q : Nat} (h : UnhIn a b 1 v) (hy : ∃ x, hexv b = some x ∧ x.toNat = q) : UnhIn a b 2 (16 * v + q) ∧ 16 * v + q ≤ 255 := by
  obtain ⟨y, hy, he⟩ := hy
  have hl := (digN_some hy).2
  rcases h with ⟨h, _⟩ | ⟨_, x, hx, hv⟩ | ⟨h, _⟩
  · cases h
  · have hl2 := (digN_some hx).2
    exact ⟨.inr (.inr ⟨rfl, x, y, hx, hy, by omega⟩), by omega⟩
  · cases h
theorem UnhIn.third {a b : UInt8} {v : Nat} (h : UnhIn a b 2 v) : ∃ x y, hexv a = some x ∧ hexv b = some y ∧ v = 16 * x.toNat + y.toNat := by
  rcases h with ⟨h, _⟩ | ⟨h, _⟩ | ⟨_, h⟩
  · cases h
  · cases h
  · exact h
theorem hexv_lt {c v : UInt8} (h : hexv c = some v) : v.toNat ≤ 15 := (digN_some h).2

set_option maxRecDepth 20000 in
set_option maxHeartbeats 1600000 in
theorem runhex_any (s : ByteArray) (w : World) (hm : s.size ≤ 140737488355000) (B : Bool) (R : List UInt8) (hR : Box (R = (unhexL s.data.toList).getD [] ∧ B = (unhexL s.data.toList).isSome)) :
    Calls Tryd.prog 39 #[.string s] w fun e w' => ∃ v, e = .returned (.tuple #[v, .bool B]) ∧ OwnB w' w.heap.size 5 v R ∧ Below w.heap.size w w' := by
  go_enter Tryd.func39, Tryd.ntmps39
  go_wp2
  go_loopw [4, 5] (fun v i wr => ∃ k r, 2 * k ≤ s.size ∧ i = .int .i64 (2 * (k : Nat)) ∧ Box (UnhAt s.data.toList k r) ∧ OwnB wr w.heap.size 5 v r ∧ Below w.heap.size w wr ∧ w.heap.size ≤ wr.heap.size) (fun _ i _ => s.size - (intOf i).toNat)
  case atStart => exact ⟨0, [], by omega, rfl, ⟨rfl, by simp⟩, OwnB.nil _ _ _, Below.refl _ _, Nat.le_refl _⟩
  case round =>
    obtain ⟨k, r, hk, rfl, HU, hown, hb, hB⟩ := hrel
    by_cases hlt : 2 * k + 1 < s.size
    · obtain ⟨a, ha⟩ := str_at (s := s) (j := 2 * k) (by omega)
      obtain ⟨b, hbb⟩ := str_at (s := s) (j := 2 * k + 1) (by omega)
      have hia := fun W => run_strIx (P := Tryd.prog) Tryd.underlying9 ha (i := 2 * (k : Int)) (by omega) .i64 W
      have hib := fun W => run_strIx (P := Tryd.prog) Tryd.underlying9 hbb (i := 2 * (k : Int) + 1) (by omega) .i64 W
      replace ha := box ha
      replace hbb := box hbb
      obtain ⟨wo, rfl⟩ : ∃ wo : World, wo = wr := ⟨_, rfl⟩
      go_wp2
      go_loop [6, 7] (fun V j => ∃ m v : Nat, m ≤ 2 ∧ j = .int .i64 m ∧ V = .int .i64 v ∧ v ≤ 255 ∧ Box (UnhIn a b m v)) (fun _ j => 2 - (intOf j).toNat)
      case atStart => exact ⟨0, 0, by omega, rfl, rfl, by omega, box (.inl ⟨rfl, rfl⟩)⟩
      case round =>
        obtain ⟨m, v, hm2, rfl, rfl, hv, HI⟩ := hrel
        have alt := a.toNat_lt
        have blt := b.toNat_lt
        by_cases h0 : m = 0
        · subst h0
          by_cases h1 : 48 ≤ a.toNat ∧ a.toNat ≤ 57
          · obtain ⟨h1, h2⟩ := h1
            have hin := HI.out.first (hexv_num a h1 h2)
            go_wp2
            refine ⟨⟨_, _, _, _, ⟨0 + 1, by omega, rfl, 16 * v + (a.toNat - 48), rfl, hin.2, box hin.1⟩, rfl, rfl, by go_num, by first | rfl | go_num⟩, by simp [intOf]⟩
          · by_cases h2 : 97 ≤ a.toNat ∧ a.toNat ≤ 102
            · obtain ⟨h2, h3⟩ := h2
              clear h1
              have hin := HI.out.first (hexv_let a h2 h3)
              go_wp2
              refine ⟨⟨_, _, _, _, ⟨0 + 1, by omega, rfl, 16 * v + (a.toNat - 87), rfl, hin.2, box hin.1⟩, rfl, rfl, by go_num, by first | rfl | go_num⟩, by simp [intOf]⟩
            · have hun := HU.out.bad ha.out hbb.out (.inl (hexv_none a h1 h2))
              have hRe := hR.out
              rw [hun] at hRe
              obtain ⟨rfl, rfl⟩ := hRe
              replace hun := box hun
              go_wp2
              all_goals go_ret2
              all_goals exact ⟨_, rfl, OwnB.nil _ _ _, hb⟩
        · by_cases h10 : m = 1
          · subst h10
            by_cases h1 : 48 ≤ b.toNat ∧ b.toNat ≤ 57
            · obtain ⟨h1, h2⟩ := h1
              have hin := HI.out.second (hexv_num b h1 h2)
              go_wp2
              refine ⟨⟨_, _, _, _, ⟨1 + 1, by omega, rfl, 16 * v + (b.toNat - 48), rfl, hin.2, box hin.1⟩, rfl, rfl, by go_num, by first | rfl | go_num⟩, by simp [intOf]⟩
            · by_cases h2 : 97 ≤ b.toNat ∧ b.toNat ≤ 102
              · obtain ⟨h2, h3⟩ := h2
                clear h1
                have hin := HI.out.second (hexv_let b h2 h3)
                go_wp2
                refine ⟨⟨_, _, _, _, ⟨1 + 1, by omega, rfl, 16 * v + (b.toNat - 87), rfl, hin.2, box hin.1⟩, rfl, rfl, by go_num, by first | rfl | go_num⟩, by simp [intOf]⟩
              · have hun := HU.out.bad ha.out hbb.out (.inr (hexv_none b h1 h2))
                have hRe := hR.out
                rw [hun] at hRe
                obtain ⟨rfl, rfl⟩ := hRe
                replace hun := box hun
                go_wp2
                all_goals go_ret2
                all_goals exact ⟨_, rfl, OwnB.nil _ _ _, hb⟩
          · obtain rfl : m = 2 := by omega
            obtain ⟨x, y, hx, hy, hvv⟩ := HI.out.third
            have hU2 := box (HU.out.next ha.out hbb.out hx hy)
            have hx15 := hexv_lt hx
            have hy15 := hexv_lt hy
            have hnat := box (nib_nat x y hx15 hy15)
            replace hx := box hx
            replace hy := box hy
            replace hvv := box hvv
            have hroom : r.length + 1 ≤ 140737488355328 := by have := HU.out.len; omega
            go_wp2_with (first | (at_builtin; go_must (with_reducible refine lst (by with_unfolding_all rfl) (wp_appB1 T_u8 hown hb (by with_unfolding_all exact ⟨_, _, rfl, rfl, rfl⟩) hroom hB ?_ ?_); exact byte_of (by omega) (by omega); intro v' w1 c hc hown1 hb1 hB1)))
            go_roundw
            have e : c = 16 * x + y := UInt8.toNat_inj.1 (by have h1 := hc.out; have h2 := hnat.out; have h3 := hvv.out; omega)
            subst e
            case rel => exact ⟨k + 1, _, by omega, by go_num, hU2, hown1, hb1, hB1⟩
            case measure => simp [intOf]; omega
    · by_cases hodd : s.size = 2 * k
      · have hd := HU.out.done (by rw [str_len]; omega)
        have hRe := hR.out
        rw [hd] at hRe
        obtain ⟨rfl, rfl⟩ := hRe
        replace hd := box hd
        replace hodd := box hodd
        have h3 : ((s.size : Int) % 2 == 1) = false := by have := hodd.out; simp; omega
        go_wp2
        go_ret2
        exact ⟨_, rfl, hown, hb⟩
      · have hun := unh_odd s.data.toList (by rw [str_len]; omega)
        have hRe := hR.out
        rw [hun] at hRe
        obtain ⟨rfl, rfl⟩ := hRe
        replace hun := box hun
        have h3 : ((s.size : Int) % 2 == 1) = true := by simp; omega
        go_wp2
        go_ret2
        exact ⟨_, rfl, OwnB.nil _ _ _, hb⟩
end Go.Proofs.YtgcoebndhnijgaaDoor
