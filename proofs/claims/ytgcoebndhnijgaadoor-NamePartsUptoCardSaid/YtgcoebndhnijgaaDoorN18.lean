/-
  Layer 7: the walk of the law on names with a stroke between.
-/
import Derived.Test.YtgcoebndhnijgaaDoorN12
import Derived.Test.YtgcoebndhnijgaaDoorN9
import Derived.Test.YtgcoebndhnijgaaDoorNParts
namespace Go.Proofs.YtgcoebndhnijgaaDoor
open Go.RowKit

theorem repoS {s : ByteArray} (h : repoB s.data.toList = true) : s.size ≤ 128 := by
  unfold repoB at h
  simp only [Bool.and_eq_true, decide_eq_true_eq] at h
  exact h.2

set_option maxRecDepth 20000 in
set_option maxHeartbeats 6400000 in
theorem nameParts_any (a b : ByteArray) (w : World) (hM : MaxW w) (hsa : a.size ≤ 4000000000) (hsb : b.size ≤ 4000000000) : Calls Tryd.prog 6 #[.string a, .string b] w fun e w' => e = .returned (.bool true) ∧ Below w.heap.size w w' := by
  have hF0 := Fr.nil w
  have hra := box (fun w (hM : MaxW w) => repo_any a w hM (by omega))
  have hrb := box (fun w (hM : MaxW w) => repo_any b w hM (by omega))
  have haz := box (@repoS a)
  have hjo := box (fun (h1 : repoB a.data.toList = true) (h2 : repoB b.data.toList = true) h => repo_join h1 h2 h)
  have hcu := box (fun (h1 : repoB a.data.toList = true) k (hk : a.data.toList[k]? = some 47) => repo_cut h1 hk)
  go_enter Tryd.func6, Tryd.ntmps6
  go_upto_region 1 with (fail)
  go_cut [5] (fun s5 wx => ∃ both : Bool, s5 = .bool both ∧ Box (both = true → repoB a.data.toList = true ∧ repoB b.data.toList = true ∧ a.size + b.size < 128) ∧ Fr [] w wx [])
  case first =>
    clear hjo hcu
    go_wp2_with fail
    refine (hra.out _ hM).mono ?_
    rintro e w1 ⟨rfl, hb1⟩
    have hF1 := hF0.call hb1
    cases hA : repoB a.data.toList with
    | false =>
      go_wp2_with fail
      go_meet
      exact ⟨false, rfl, box fun h => (by cases h), hF1⟩
    | true =>
      go_wp2_with fail
      refine (hrb.out _ (hF1.maxW hM)).mono ?_
      rintro e w2 ⟨rfl, hb2⟩
      have hF2 := hF1.call hb2
      have ha128 := haz.out hA
      cases hB : repoB b.data.toList with
      | false =>
        go_wp2_with fail
        go_meet
        exact ⟨false, rfl, box fun h => (by cases h), hF2⟩
      | true =>
        by_cases h128 : a.size < 128
        · have hw : IntKind.i64.wrap (128 - (a.size : Int)) = 128 - (a.size : Int) := IntWalk.i64_in _ (by omega)
          by_cases hlt : (b.size : Int) < 128 - (a.size : Int)
          · go_wp2_with fail
            go_meet
            exact ⟨true, by first | rfl | simp [hlt], box fun _ => ⟨by first | rfl | exact hA, by first | rfl | exact hB, by omega⟩, hF2⟩
          · go_wp2_with fail
            go_meet
            exact ⟨false, by first | rfl | simp [hlt], box fun h => (by cases h), hF2⟩
        · go_wp2_with fail
          go_meet
          exact ⟨false, rfl, box fun h => (by cases h), hF2⟩
  case rest =>
  obtain ⟨both, rfl, hboth, hF⟩ := hcut
  clear hrb
  go_upto_region 2 with (fail)
  go_cut [38] (fun s38 wx => s38 = .bool false ∧ Fr [] w wx [])
  case first =>
    go_wp2_with fail
    refine (awake_any _ (hF.maxW hM)).mono ?_
    rintro e w1 ⟨rfl, hb1⟩
    have hF1 := hF.call hb1
    cases both with
    | false =>
      go_wp2_with fail
      go_meet
      exact ⟨rfl, hF1⟩
    | true =>
      obtain ⟨hA, hB, hlt⟩ := hboth.out rfl
      have hj := hjo.out hA hB hlt
      have hsz : (a ++ ⟨#[47]⟩ ++ b).size = a.size + 1 + b.size := by
        rw [ByteArray.size_append, ByteArray.size_append]; rfl
      have hjn := box (fun w (hM : MaxW w) => repo_any (a ++ ⟨#[47]⟩ ++ b) w hM (by rw [hsz]; omega))
      have hl : (a ++ ⟨#[47]⟩ ++ b).data.toList = a.data.toList ++ 47 :: b.data.toList := by rw [str_app, str_app]; simp
      rw [hl, hj] at hjn
      clear hl hj hA hB hboth hjo hcu hsz
      go_wp2_with fail
      refine (hjn.out _ (hF1.maxW hM)).mono ?_
      rintro e w2 ⟨rfl, hb2⟩
      have hF2 := hF1.call hb2
      go_wp2_with fail
      go_meet
      exact ⟨rfl, hF2⟩
  case rest =>
  obtain ⟨rfl, hF1⟩ := hcut
  clear hF hF0 hboth hjo
  go_wp2_with fail
  --DBG
  go_loopw [41] (fun i wr => ∃ k : Nat, k ≤ a.size ∧ i = .int .i64 k ∧ Fr [] w wr []) (fun i _ => a.size - (intOf i).toNat)
  case atStart => exact ⟨0, by omega, rfl, hF1⟩
  case round =>
    clear hF1
    obtain ⟨k, hk, rfl, hF⟩ := hrel
    by_cases hlt : k < a.size
    · obtain ⟨d, hd⟩ := str_at hlt
      have hix := fun W => run_strIx (P := Tryd.prog) Tryd.underlying9 hd (i := (k : Int)) rfl .i64 W
      have hcut := box (fun h1 (h47 : d = 47) => hcu.out h1 k (h47 ▸ hd))
      have hal := box (ext_take a k)
      have hel := box (ext_list a (k + 1))
      replace hd := box hd
      clear hcu
      go_wp2_with fail
      refine (hra.out _ (hF.maxW hM)).mono ?_
      rintro e w3 ⟨rfl, hb3⟩
      have hF3 := hF.call hb3
      cases hA : repoB a.data.toList with
      | false =>
        go_wp2_with fail
        go_roundw
        case rel => exact ⟨k + 1, by omega, by go_num, hF3⟩
        case measure => simp [intOf]; omega
      | true =>
        by_cases h47 : d = 47
        · obtain ⟨h1, h2⟩ := hcut.out hA h47
          subst h47
          replace hix : ∀ W, (Instr.index 9 (.string a) (.int .i64 (k : Int))).run Tryd.prog W = .ok (.int .u8 47) W := hix
          have hc1 := box (fun w (hM : MaxW w) => repo_any (a.extract 0 k) w hM (by rw [← str_len, ext_take, List.length_take, str_len]; omega))
          have hc2 := box (fun w (hM : MaxW w) => repo_any (a.extract (k + 1) a.size) w hM (by rw [ext_size]; omega))
          rw [hal.out, h1] at hc1
          rw [hel.out, h2] at hc2
          clear h1 h2 hal hel hcut hA
          go_wp2_with fail
          refine (hc1.out _ (hF3.maxW hM)).mono ?_
          rintro e w4 ⟨rfl, hb4⟩
          have hF4 := hF3.call hb4
          go_wp2_with fail
          refine (hc2.out _ (hF4.maxW hM)).mono ?_
          rintro e w5 ⟨rfl, hb5⟩
          have hF5 := hF4.call hb5
          go_wp2_with fail
          go_roundw
          case rel => exact ⟨k + 1, by omega, by go_num, hF5⟩
          case measure => simp [intOf]; omega
        · have e47 : ((d.toNat : Int) == 47) = false := u8_ne (d := 47) h47
          clear hcut h47 hal hel
          go_wp2_with fail
          go_roundw
          case rel => exact ⟨k + 1, by omega, by go_num, hF3⟩
          case measure => simp [intOf]; omega
    · go_wp2_with fail
      go_ret
      exact ⟨rfl, hF.below⟩
end Go.Proofs.YtgcoebndhnijgaaDoor
