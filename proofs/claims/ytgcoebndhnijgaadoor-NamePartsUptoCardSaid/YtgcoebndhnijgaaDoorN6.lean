/-
  Layer 7: the walks of half and IsMedia.
-/
import Derived.Test.YtgcoebndhnijgaaDoorN4
import Derived.Test.YtgcoebndhnijgaaDoorNRef
namespace Go.Proofs.YtgcoebndhnijgaaDoor
open Go.RowKit

def halfC (j : Nat) (c : UInt8) : Bool := signB c || (decide (0 < j) && moreB c)
theorem half_bad {l : List UInt8} {k : Nat} {c : UInt8} (h : l[k]? = some c) (hc : halfC k c = false) : halfB l = false := by
  cases l with
  | nil => simp at h
  | cons d l =>
    rw [halfB]
    cases k with
    | zero => simp at h; subst h; simp [halfC] at hc; rw [hc]; rfl
    | succ k =>
      rw [all_not (k := k) (c := c) (by simpa using h) (by unfold halfC at hc; rw [decide_eq_true (Nat.succ_pos k), Bool.true_and] at hc; exact hc), Bool.and_false]
theorem half_good {l : List UInt8} (h : ∀ (j : Nat) c, l[j]? = some c → halfC j c = true) : halfB l = !l.isEmpty := by
  cases l with
  | nil => rfl
  | cons d l =>
    have h0 := h 0 d rfl
    simp [halfC] at h0
    rw [halfB, h0, all_at (l := l) (p := restC) fun j c hc => by
      have := h (j + 1) c (by simpa using hc)
      unfold halfC at this
      rw [decide_eq_true (Nat.succ_pos j), Bool.true_and] at this
      exact this]
    rfl
def ixv (d : UInt8) : Int := Lib.indexByte moreS.data.toList d
theorem ixv_more (d : UInt8) : decide (ixv d < 0) = !moreB d := indexByte_any d _
theorem ixb_any (d : UInt8) (w : World) : Calls Tryd.prog 37 #[.string moreS, .int .u8 (d.toNat : Int)] w fun e w' => e = .returned (.int .i64 (ixv d)) ∧ w = w' :=
  (Tryd.strings_IndexByte moreS (d.toNat : Int) w).mono fun _ _ ⟨h1, h2⟩ => ⟨by rw [h1]; unfold ixv; simp, h2.symm⟩
theorem str_empty (s : ByteArray) : s.toList.isEmpty = s.data.toList.isEmpty := by rw [ByteArray.toList_eq]

set_option maxRecDepth 20000 in
set_option maxHeartbeats 1600000 in
theorem half_any (s : ByteArray) (w : World) (hs : s.size ≤ 9223372036854775807) : Calls Tryd.prog 27 #[.string s] w fun e w' => e = .returned (.bool (halfB s.data.toList)) ∧ w = w' := by
  have hlb := box (str_len s)
  generalize hR : halfB s.data.toList = R
  replace hR := box hR
  go_enter Tryd.func27, Tryd.ntmps27
  go_wp2
  go_loop [6] (fun i => ∃ k : Nat, k ≤ s.size ∧ i = .int .i64 k ∧ Box (∀ (j : Nat) c, j < k → s.data.toList[j]? = some c → halfC j c = true)) (fun i => s.size - (intOf i).toNat)
  case atStart => exact ⟨0, by omega, rfl, box fun j c h => absurd h (by omega)⟩
  case round =>
    obtain ⟨k, hk, rfl, hall⟩ := hrel
    by_cases hlt : k < s.size
    · obtain ⟨d, hd⟩ := str_at hlt
      have hix := fun W => run_strIx (P := Tryd.prog) Tryd.underlying9 hd (i := (k : Int)) rfl .i64 W
      have hgo : Box (halfC k d = true → ∀ (j : Nat) c, j < k + 1 → s.data.toList[j]? = some c → halfC j c = true) := box fun hta j c hj hc => by
        rcases Nat.lt_or_ge j k with h | h
        · exact hall.out j c h hc
        · obtain rfl : j = k := by omega
          rw [hd] at hc; injection hc with hc; subst hc; exact hta
      have hst : Box (halfC k d = false → R = false) := box fun h => by rw [← hR.out]; exact half_bad hd h
      clear hall hR
      replace hd := box hd
      cases hsg : signB d with
      | true =>
        have hta : Box (halfC k d = true) := box (by unfold halfC; rw [hsg]; rfl)
        go_wp2_with (go_at_call 24; refine (sign_any d _ rfl _).mono ?_; rintro e w' ⟨rfl, rfl⟩)
        go_round
        case rel => exact ⟨k + 1, by omega, by go_num, box (hgo.out hta.out)⟩
        case measure => simp [intOf]; omega
      | false =>
        rcases Nat.eq_zero_or_pos k with h0 | h0
        · have hta : Box (halfC k d = false) := box (by unfold halfC; rw [hsg, decide_eq_false (by omega)]; rfl)
          have hk0 : ((k : Int) == 0) = true := by rw [beq_iff_eq]; omega
          clear h0
          go_wp2_with (go_at_call 24; refine (sign_any d _ rfl _).mono ?_; rintro e w' ⟨rfl, rfl⟩)
          go_ret
          exact ⟨by rw [hst.out hta.out]; rfl, rfl⟩
        · have hk0 : ((k : Int) == 0) = false := by rw [beq_eq_false_iff_ne]; omega
          have hmx := ixv_more d
          cases hmo : moreB d with
          | true =>
            have hta : Box (halfC k d = true) := box (by unfold halfC; rw [hmo, decide_eq_true h0]; simp)
            have hx : decide (ixv d < 0) = false := by rw [hmx, hmo]; rfl
            clear hmx
            go_wp2_with (first | (go_at_call 24; refine (sign_any d _ rfl _).mono ?_; rintro e w' ⟨rfl, rfl⟩) | (go_at_call 37; refine (ixb_any d _).mono ?_; rintro e w' ⟨rfl, rfl⟩))
            go_round
            case rel => exact ⟨k + 1, by omega, by go_num, box (hgo.out hta.out)⟩
            case measure => simp [intOf]; omega
          | false =>
            have hta : Box (halfC k d = false) := box (by unfold halfC; rw [hmo, hsg]; simp)
            have hx : decide (ixv d < 0) = true := by rw [hmx, hmo]; rfl
            clear hmx
            go_wp2_with (first | (go_at_call 24; refine (sign_any d _ rfl _).mono ?_; rintro e w' ⟨rfl, rfl⟩) | (go_at_call 37; refine (ixb_any d _).mono ?_; rintro e w' ⟨rfl, rfl⟩))
            go_ret
            exact ⟨by rw [hst.out hta.out]; rfl, rfl⟩
    · have hfin : Box (R = !s.toList.isEmpty) := box (by rw [← hR.out, str_empty]; exact half_good fun j c hc => hall.out j c (by have h1 := (List.getElem?_eq_some_iff.1 hc).1; have := hlb.out; omega) hc)
      clear hall hR
      cases hE : s.toList.isEmpty with
      | true =>
        have hfin2 : Box (R = false) := box (by rw [hfin.out, hE]; rfl)
        have hE2 : s.toList = [] := List.isEmpty_iff.1 hE
        go_wp2
        go_ret
        exact ⟨ret1 (by rw [hfin2.out]; first | rfl | (simp; done) | simp [hE2]), rfl⟩
      | false =>
        have hfin2 : Box (R = true) := box (by rw [hfin.out, hE]; rfl)
        go_wp2
        go_ret
        exact ⟨ret1 (by rw [hfin2.out]; first | rfl | (simp; done)), rfl⟩

theorem cut_any (c : UInt8) (s : ByteArray) (w : World) (hM : MaxW w) (hs : s.size < 4294967281) :
    Calls Tryd.prog 26 #[.string s, .string ⟨#[c]⟩] w fun e w' => e = .returned (.tuple #[.string ⟨(cutA c s.data.toList).toArray⟩, .string ⟨(cutZ c s.data.toList).toArray⟩, .bool (cutOk c s.data.toList)]) ∧ Below w.heap.size w w' := by
  obtain ⟨m, hm⟩ := hM
  refine (Tryd.strings_Cut s ⟨#[c]⟩ m w hs hm).mono fun e w' ⟨h1, n, h2⟩ => ⟨?_, ?_⟩
  · rw [h1]
    have hc := cut_find c s.data.toList
    show Ending.returned (.tuple #[.string ⟨(Lib.cut s.data.toList [c]).1.toArray⟩, .string ⟨(Lib.cut s.data.toList [c]).2.1.toArray⟩, .bool (Lib.cut s.data.toList [c]).2.2]) = _
    rw [hc]
    unfold cutA cutZ cutOk
    have hle := findN_le c s.data.toList
    by_cases h : findN c s.data.toList < s.data.toList.length
    · rw [if_pos h, decide_eq_true h]
    · rw [if_neg h, decide_eq_false h, List.take_of_length_le (by omega), List.drop_of_length_le (by omega)]
  · rw [h2]; exact below_drewN (Below.refl _ _) n

set_option maxRecDepth 20000 in
set_option maxHeartbeats 1600000 in
theorem media_any (s : ByteArray) (w : World) (hM : MaxW w) (hs : s.size < 4294967281) : Calls Tryd.prog 15 #[.string s] w fun e w' => e = .returned (.bool (mediaB s.data.toList)) ∧ Below w.heap.size w w' := by
  have hcut := box (cut_any 47 s w hM hs)
  have hla := cutA_len 47 s.data.toList
  have hlz := cutZ_len 47 s.data.toList
  rw [str_len] at hla hlz
  have hMB : Box (mediaB s.data.toList = (cutOk 47 s.data.toList && decide (s.size ≤ 127) && (halfB (cutA 47 s.data.toList) && halfB (cutZ 47 s.data.toList)))) := box (by
    rfl)
  have hhA := box (fun w => half_any ⟨(cutA 47 s.data.toList).toArray⟩ w (by rw [str_mk_size]; omega))
  have hhZ := box (fun w => half_any ⟨(cutZ 47 s.data.toList).toArray⟩ w (by rw [str_mk_size]; omega))
  simp only at hhA hhZ
  generalize mediaB s.data.toList = R at *
  generalize (⟨(cutA 47 s.data.toList).toArray⟩ : ByteArray) = a at *
  generalize (⟨(cutZ 47 s.data.toList).toArray⟩ : ByteArray) = z at *
  generalize halfB (cutA 47 s.data.toList) = ha at *
  generalize halfB (cutZ 47 s.data.toList) = hz at *
  generalize cutOk 47 s.data.toList = ok at *
  clear hla hlz
  cases ok with
  | false =>
    have hfin : Box (R = false) := box (by rw [hMB.out]; rfl)
    go_enter Tryd.func15, Tryd.ntmps15
    go_wp2_with (go_at_call 26; refine hcut.out.mono ?_; rintro e w1 ⟨rfl, hb1⟩)
    go_ret
    exact ⟨by rw [hfin.out]; rfl, hb1⟩
  | true =>
    by_cases h127 : s.size ≤ 127
    · have hd : decide (s.size ≤ 127) = true := decide_eq_true h127
      cases ha with
      | false =>
        have hfin : Box (R = false) := box (by rw [hMB.out]; simp)
        clear hMB hd
        go_enter Tryd.func15, Tryd.ntmps15
        go_wp2_with (first | (go_at_call 26; refine hcut.out.mono ?_; rintro e w1 ⟨rfl, hb1⟩) | (go_at_call 27; refine (hhA.out _).mono ?_; rintro e w' ⟨rfl, rfl⟩))
        go_ret
        exact ⟨by rw [hfin.out]; rfl, hb1⟩
      | true =>
        have hfin : Box (R = hz) := box (by rw [hMB.out, hd]; simp)
        clear hMB hd
        go_enter Tryd.func15, Tryd.ntmps15
        go_wp2_with (go_at_call 26; refine hcut.out.mono ?_; rintro e w1 ⟨rfl, hb1⟩)
        refine (hhA.out _).mono ?_
        rintro e w' ⟨rfl, rfl⟩
        go_wp2_with (fail)
        refine (hhZ.out _).mono ?_
        rintro e w' ⟨rfl, rfl⟩
        go_wp2_with (fail)
        go_ret
        exact ⟨by rw [hfin.out]; rfl, hb1⟩
    · have hfin : Box (R = false) := box (by rw [hMB.out, decide_eq_false h127]; simp)
      clear hMB
      go_enter Tryd.func15, Tryd.ntmps15
      go_wp2_with (go_at_call 26; refine hcut.out.mono ?_; rintro e w1 ⟨rfl, hb1⟩)
      go_ret
      exact ⟨by rw [hfin.out]; rfl, hb1⟩
end Go.Proofs.YtgcoebndhnijgaaDoor
