/-
  Layer 7: the walks of small, sign (both texts).
-/
import Derived.Test.YtgcoebndhnijgaaDoorRows
import Derived.Test.YtgcoebndhnijgaaDoorNSpec
namespace Go.Proofs.YtgcoebndhnijgaaDoor
open Go.RowKit

theorem retB {a b : Bool} (h : a = b) : Ending.returned (.bool a) = .returned (.bool b) := by rw [h]
set_option maxRecDepth 20000 in
set_option maxHeartbeats 400000 in
theorem small_any (c : UInt8) (n : Int) (hn : n = (c.toNat : Int)) (w : World) : Calls Tryd.prog 34 #[.int .u8 n] w fun e w' => e = .returned (.bool (smallB c)) ∧ w = w' := by
  subst hn
  have clt : c.toNat < 256 := c.toNat_lt
  by_cases h1 : 97 ≤ c.toNat
  · by_cases h2 : c.toNat ≤ 122
    · have hr : Box (smallB c = true) := box (by unfold smallB; first | (simp; done) | (simp; omega))
      go_enter Tryd.func34, Tryd.ntmps34
      go_wp2
      go_ret
      exact ⟨retB (by first | exact hr.out.symm | (rw [hr.out]; (simp; done)) | (rw [hr.out]; (simp; omega))), rfl⟩
    · have hr : Box (smallB c = false) := box (by unfold smallB; first | (simp; done) | (simp; omega))
      go_enter Tryd.func34, Tryd.ntmps34
      go_wp2
      go_ret
      exact ⟨retB (by first | exact hr.out.symm | (rw [hr.out]; (simp; done)) | (rw [hr.out]; (simp; omega))), rfl⟩
  · by_cases h2 : 48 ≤ c.toNat
    · by_cases h3 : c.toNat ≤ 57
      · have hr : Box (smallB c = true) := box (by unfold smallB; first | (simp; done) | (simp; omega))
        go_enter Tryd.func34, Tryd.ntmps34
        go_wp2
        go_ret
        exact ⟨retB (by first | exact hr.out.symm | (rw [hr.out]; (simp; done)) | (rw [hr.out]; (simp; omega))), rfl⟩
      · have hr : Box (smallB c = false) := box (by unfold smallB; first | (simp; done) | (simp; omega))
        go_enter Tryd.func34, Tryd.ntmps34
        go_wp2
        go_ret
        exact ⟨retB (by first | exact hr.out.symm | (rw [hr.out]; (simp; done)) | (rw [hr.out]; (simp; omega))), rfl⟩
    · have hr : Box (smallB c = false) := box (by unfold smallB; first | (simp; done) | (simp; omega))
      go_enter Tryd.func34, Tryd.ntmps34
      go_wp2
      go_ret
      exact ⟨retB (by first | exact hr.out.symm | (rw [hr.out]; (simp; done)) | (rw [hr.out]; (simp; omega))), rfl⟩
set_option maxRecDepth 20000 in
set_option maxHeartbeats 400000 in
theorem smallF_any (c : UInt8) (n : Int) (hn : n = (c.toNat : Int)) (w : World) : Calls Tryd.prog 23 #[.int .u8 n] w fun e w' => e = .returned (.bool (smallB c)) ∧ w = w' := by
  subst hn
  have clt : c.toNat < 256 := c.toNat_lt
  by_cases h1 : 97 ≤ c.toNat
  · by_cases h2 : c.toNat ≤ 122
    · have hr : Box (smallB c = true) := box (by unfold smallB; first | (simp; done) | (simp; omega))
      go_enter Tryd.func23, Tryd.ntmps23
      go_wp2
      go_ret
      exact ⟨retB (by first | exact hr.out.symm | (rw [hr.out]; (simp; done)) | (rw [hr.out]; (simp; omega))), rfl⟩
    · have hr : Box (smallB c = false) := box (by unfold smallB; first | (simp; done) | (simp; omega))
      go_enter Tryd.func23, Tryd.ntmps23
      go_wp2
      go_ret
      exact ⟨retB (by first | exact hr.out.symm | (rw [hr.out]; (simp; done)) | (rw [hr.out]; (simp; omega))), rfl⟩
  · by_cases h2 : 48 ≤ c.toNat
    · by_cases h3 : c.toNat ≤ 57
      · have hr : Box (smallB c = true) := box (by unfold smallB; first | (simp; done) | (simp; omega))
        go_enter Tryd.func23, Tryd.ntmps23
        go_wp2
        go_ret
        exact ⟨retB (by first | exact hr.out.symm | (rw [hr.out]; (simp; done)) | (rw [hr.out]; (simp; omega))), rfl⟩
      · have hr : Box (smallB c = false) := box (by unfold smallB; first | (simp; done) | (simp; omega))
        go_enter Tryd.func23, Tryd.ntmps23
        go_wp2
        go_ret
        exact ⟨retB (by first | exact hr.out.symm | (rw [hr.out]; (simp; done)) | (rw [hr.out]; (simp; omega))), rfl⟩
    · have hr : Box (smallB c = false) := box (by unfold smallB; first | (simp; done) | (simp; omega))
      go_enter Tryd.func23, Tryd.ntmps23
      go_wp2
      go_ret
      exact ⟨retB (by first | exact hr.out.symm | (rw [hr.out]; (simp; done)) | (rw [hr.out]; (simp; omega))), rfl⟩
set_option maxRecDepth 20000 in
set_option maxHeartbeats 400000 in
theorem sign_any (c : UInt8) (n : Int) (hn : n = (c.toNat : Int)) (w : World) : Calls Tryd.prog 24 #[.int .u8 n] w fun e w' => e = .returned (.bool (signB c)) ∧ w = w' := by
  subst hn
  have clt : c.toNat < 256 := c.toNat_lt
  cases hs : smallB c with
  | true =>
    have hr : signB c = true := by simp [smallB] at hs; simp [signB]; omega
    rw [hr]
    replace hr := box hr
    go_enter Tryd.func24, Tryd.ntmps24
    go_wp2_with (refine (small_any c _ rfl _).mono ?_; rintro e w' ⟨rfl, rfl⟩)
    go_wp2
    go_ret
    exact ⟨rfl, rfl⟩
  | false =>
    have hs' := box hs
    have hx : Box (signB c = decide (65 ≤ c.toNat ∧ c.toNat ≤ 90)) := box (by simp [smallB] at hs; simp [signB]; omega)
    by_cases h1 : 65 ≤ c.toNat
    · by_cases h2 : c.toNat ≤ 90
      · have hr : Box (signB c = true) := box (by rw [hx.out]; first | (simp; done) | (simp; omega))
        go_enter Tryd.func24, Tryd.ntmps24
        go_wp2_with (refine (small_any c _ rfl _).mono ?_; rintro e w' ⟨rfl, rfl⟩)
        go_wp2
        go_ret
        exact ⟨retB (by first | exact hr.out.symm | (rw [hr.out]; (simp; done)) | (rw [hr.out]; (simp; omega))), rfl⟩
      · have hr : Box (signB c = false) := box (by rw [hx.out]; first | (simp; done) | (simp; omega))
        go_enter Tryd.func24, Tryd.ntmps24
        go_wp2_with (refine (small_any c _ rfl _).mono ?_; rintro e w' ⟨rfl, rfl⟩)
        go_wp2
        go_ret
        exact ⟨retB (by first | exact hr.out.symm | (rw [hr.out]; (simp; done)) | (rw [hr.out]; (simp; omega))), rfl⟩
    · have hr : Box (signB c = false) := box (by rw [hx.out]; first | (simp; done) | (simp; omega))
      go_enter Tryd.func24, Tryd.ntmps24
      go_wp2_with (refine (small_any c _ rfl _).mono ?_; rintro e w' ⟨rfl, rfl⟩)
      go_wp2
      go_ret
      exact ⟨retB (by first | exact hr.out.symm | (rw [hr.out]; (simp; done)) | (rw [hr.out]; (simp; omega))), rfl⟩
set_option maxRecDepth 20000 in
set_option maxHeartbeats 400000 in
theorem signF_any (c : UInt8) (n : Int) (hn : n = (c.toNat : Int)) (w : World) : Calls Tryd.prog 25 #[.int .u8 n] w fun e w' => e = .returned (.bool (signB c)) ∧ w = w' := by
  subst hn
  have clt : c.toNat < 256 := c.toNat_lt
  cases hs : smallB c with
  | true =>
    have hr : signB c = true := by simp [smallB] at hs; simp [signB]; omega
    rw [hr]
    replace hr := box hr
    go_enter Tryd.func25, Tryd.ntmps25
    go_wp2_with (refine (smallF_any c _ rfl _).mono ?_; rintro e w' ⟨rfl, rfl⟩)
    go_wp2
    go_ret
    exact ⟨rfl, rfl⟩
  | false =>
    have hs' := box hs
    have hx : Box (signB c = decide (65 ≤ c.toNat ∧ c.toNat ≤ 90)) := box (by simp [smallB] at hs; simp [signB]; omega)
    by_cases h1 : 65 ≤ c.toNat
    · by_cases h2 : c.toNat ≤ 90
      · have hr : Box (signB c = true) := box (by rw [hx.out]; first | (simp; done) | (simp; omega))
        go_enter Tryd.func25, Tryd.ntmps25
        go_wp2_with (refine (smallF_any c _ rfl _).mono ?_; rintro e w' ⟨rfl, rfl⟩)
        go_wp2
        go_ret
        exact ⟨retB (by first | exact hr.out.symm | (rw [hr.out]; (simp; done)) | (rw [hr.out]; (simp; omega))), rfl⟩
      · have hr : Box (signB c = false) := box (by rw [hx.out]; first | (simp; done) | (simp; omega))
        go_enter Tryd.func25, Tryd.ntmps25
        go_wp2_with (refine (smallF_any c _ rfl _).mono ?_; rintro e w' ⟨rfl, rfl⟩)
        go_wp2
        go_ret
        exact ⟨retB (by first | exact hr.out.symm | (rw [hr.out]; (simp; done)) | (rw [hr.out]; (simp; omega))), rfl⟩
    · have hr : Box (signB c = false) := box (by rw [hx.out]; first | (simp; done) | (simp; omega))
      go_enter Tryd.func25, Tryd.ntmps25
      go_wp2_with (refine (smallF_any c _ rfl _).mono ?_; rintro e w' ⟨rfl, rfl⟩)
      go_wp2
      go_ret
      exact ⟨retB (by first | exact hr.out.symm | (rw [hr.out]; (simp; done)) | (rw [hr.out]; (simp; omega))), rfl⟩
end Go.Proofs.YtgcoebndhnijgaaDoor
