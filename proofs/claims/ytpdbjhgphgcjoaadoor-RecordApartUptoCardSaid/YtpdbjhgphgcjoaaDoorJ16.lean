/-
  Layer 14: heads, plainly; the walks of RightHead and EncodeHead, both texts. Printed by gen_head.py.
-/
import Derived.Test.YtpdbjhgphgcjoaaDoorJ15
import Derived.Test.YtpdbjhgphgcjoaaDoorJ11
import Derived.Test.YtpdbjhgphgcjoaaDoorJ10
namespace Go.Proofs.YtpdbjhgphgcjoaaDoor
open Go.RowKit

structure Hd where
  size : Int
  root : List UInt8
  t : Int
def hdL (s : Value) (dg : List Value) (t : Value) : List Value := s :: (dg ++ [t])
def Hd.cells (h : Hd) : List Value := hdL (.int .i64 h.size) (h.root.map bv) (.int .i64 h.t)
def Hd.zero : Hd := ⟨0, zeros, 0⟩
def hd0 : List Value := hdL (.int .i64 0) (zeros.map bv) (.int .i64 0)
def hdP : List (Nat × Nat) := [(0, 1), (1, 32), (33, 1)]
theorem hd_len {s t : Value} {dg : List Value} (h : dg.length = 32) : (hdL s dg t).length = 34 := by simp [hdL, h]
theorem hd0_len : hd0.length = 34 := hd_len zeros_len
section
variable {s t v : Value} {dg ds : List Value}
theorem hdL_0 : spl (hdL s dg t) 0 [v] = hdL v dg t := rfl
theorem hdL_1 (h : dg.length = ds.length) : spl (hdL s dg t) 1 ds = hdL s ds t := spl_at (p := [s]) (q := dg) (r := [t]) rfl h
theorem hdL_33 (h : dg.length = 32) : spl (hdL s dg t) 33 [v] = hdL s dg v := by
  have := spl_at (p := s :: dg) (q := [t]) (r := []) (ds := [v]) (off := 33) (by simp [h]) rfl
  simpa [hdL] using this
theorem hdL_at (h : dg.length = 32) : (hdL s dg t)[33]? = some t := by
  unfold hdL
  simp only [List.getElem?_cons_succ]
  rw [List.getElem?_append_right (by omega)]
  simp [h]
theorem hdL_dig {n : Nat} (h : dg.length = n) : ((hdL s dg t).drop 1).take n = dg := by
  unfold hdL
  simp [← h]
theorem hdL_byte {l : List UInt8} {i : Nat} {x : UInt8} (h : l[i]? = some x) : (hdL s (l.map bv) t)[1 + i]? = some (bv x) := by
  rw [Nat.add_comm]
  have hi := (List.getElem?_eq_some_iff.1 h).1
  unfold hdL
  rw [List.getElem?_cons_succ, List.getElem?_append_left (by simpa using hi), List.getElem?_map, h]
  rfl
theorem hdL_one (h : ∀ u ∈ dg, u.oneCell' = true) (hs : s.oneCell' = true) (ht : t.oneCell' = true) : ∀ u ∈ hdL s dg t, u.oneCell' = true := by
  intro u hu
  simp only [hdL, List.mem_cons, List.mem_append, List.not_mem_nil, or_false] at hu
  rcases hu with rfl | hu | rfl
  all_goals first | assumption | exact h u hu
end
theorem Hd.one (h : Hd) : ∀ u ∈ h.cells, u.oneCell' = true := hdL_one (bv_one _) rfl rfl
theorem hd0_one : ∀ u ∈ hd0, u.oneCell' = true := hdL_one (bv_one _) rfl rfl
def hdOk (h : Hd) : Bool := decide (0 ≤ h.size) && (decide (h.size ≤ 1048576) && (decide (0 ≤ h.t) && decide (h.t ≤ 1099511627776)))
/-- The bytes of a head. -/
def hdB (h : Hd) : List UInt8 := [7] ++ putL h.size.toNat 8 ++ h.root ++ putL h.t.toNat 8
theorem hdOk_iff {h : Hd} (ho : hdOk h = true) : 0 ≤ h.size ∧ h.size ≤ 1048576 ∧ 0 ≤ h.t ∧ h.t ≤ 1099511627776 := by
  simpa only [hdOk, Bool.and_eq_true, decide_eq_true_eq] using ho

set_option maxRecDepth 20000 in
set_option maxHeartbeats 1600000 in
theorem righth_any (h : Hd) (w : World) (hd : h.root.length = 32) :
    Calls Tryd.prog 21 #[.agg h.cells.toArray] w fun e w' => e = .returned (.bool (hdOk h)) ∧ Below w.heap.size w w' := by
  obtain ⟨s, d, t⟩ := h
  simp only [Hd.cells] at hd ⊢
  have hF0 := Fr.nil w
  have hdm : (d.map bv).length = 32 := by rw [List.length_map]; exact hd
  have h33 := box (hdL_at (s := (Value.int .i64) s) (t := (Value.int .i64) t) hdm)
  replace hdm := box hdm
  replace hd := box hd
  have hR : Box (hdOk ⟨s, d, t⟩ = (decide (0 ≤ s) && (decide (s ≤ 1048576) && (decide (0 ≤ t) && decide (t ≤ 1099511627776))))) := box rfl
  generalize hdOk ⟨s, d, t⟩ = R at *
  by_cases h1 : 0 ≤ s
  · have dh1 : decide (0 ≤ s) = true := decide_eq_true h1
    by_cases h2 : s ≤ 1048576
    · have dh2 : decide (s ≤ 1048576) = true := decide_eq_true h2
      by_cases h3 : 0 ≤ t
      · have dh3 : decide (0 ≤ t) = true := decide_eq_true h3
        have hno : Box (R = decide (t ≤ 1099511627776)) := box (by rw [hR.out]; simp only [dh1, dh2, dh3, Bool.true_and])
        clear hR
        go_enter Tryd.func21, Tryd.ntmps21
        go_wp2_with (first | ((with_reducible refine lst (by with_unfolding_all rfl) (wp_fbox hF0 (cs := (hdL (.int .i64 s) (d.map bv) (.int .i64 t))) rfl (by with_unfolding_all rfl) (by with_unfolding_all rfl) ?_)); intro w1 g1 hF1 hz1) | (with_reducible refine lst (by with_unfolding_all rfl) (wp_fld0 hF1 Tryd.underlying3 rfl (by with_unfolding_all exact ⟨_, rfl, rfl⟩) (by first | with_unfolding_all rfl | exact h33.out) ?_)))
        go_ret
        exact ⟨ret1 (by rw [hno.out]; first | rfl | (simp; done) | (simp; omega)), hF1.below⟩
      · have dh3 : decide (0 ≤ t) = false := decide_eq_false h3
        have hno : Box (R = false) := box (by rw [hR.out, dh3]; simp)
        clear hR
        go_enter Tryd.func21, Tryd.ntmps21
        go_wp2_with (first | ((with_reducible refine lst (by with_unfolding_all rfl) (wp_fbox hF0 (cs := (hdL (.int .i64 s) (d.map bv) (.int .i64 t))) rfl (by with_unfolding_all rfl) (by with_unfolding_all rfl) ?_)); intro w1 g1 hF1 hz1) | (with_reducible refine lst (by with_unfolding_all rfl) (wp_fld0 hF1 Tryd.underlying3 rfl (by with_unfolding_all exact ⟨_, rfl, rfl⟩) (by first | with_unfolding_all rfl | exact h33.out) ?_)))
        go_ret
        exact ⟨ret1 (by rw [hno.out]; first | rfl | (simp; done) | (simp; omega)), hF1.below⟩
    · have dh2 : decide (s ≤ 1048576) = false := decide_eq_false h2
      have hno : Box (R = false) := box (by rw [hR.out, dh2]; simp)
      clear hR
      go_enter Tryd.func21, Tryd.ntmps21
      go_wp2_with (first | ((with_reducible refine lst (by with_unfolding_all rfl) (wp_fbox hF0 (cs := (hdL (.int .i64 s) (d.map bv) (.int .i64 t))) rfl (by with_unfolding_all rfl) (by with_unfolding_all rfl) ?_)); intro w1 g1 hF1 hz1) | (with_reducible refine lst (by with_unfolding_all rfl) (wp_fld0 hF1 Tryd.underlying3 rfl (by with_unfolding_all exact ⟨_, rfl, rfl⟩) (by first | with_unfolding_all rfl | exact h33.out) ?_)))
      go_ret
      exact ⟨ret1 (by rw [hno.out]; first | rfl | (simp; done) | (simp; omega)), hF1.below⟩
  · have dh1 : decide (0 ≤ s) = false := decide_eq_false h1
    have hno : Box (R = false) := box (by rw [hR.out, dh1]; simp)
    clear hR
    go_enter Tryd.func21, Tryd.ntmps21
    go_wp2_with (first | ((with_reducible refine lst (by with_unfolding_all rfl) (wp_fbox hF0 (cs := (hdL (.int .i64 s) (d.map bv) (.int .i64 t))) rfl (by with_unfolding_all rfl) (by with_unfolding_all rfl) ?_)); intro w1 g1 hF1 hz1) | (with_reducible refine lst (by with_unfolding_all rfl) (wp_fld0 hF1 Tryd.underlying3 rfl (by with_unfolding_all exact ⟨_, rfl, rfl⟩) (by first | with_unfolding_all rfl | exact h33.out) ?_)))
    go_ret
    exact ⟨ret1 (by rw [hno.out]; first | rfl | (simp; done) | (simp; omega)), hF1.below⟩

set_option maxRecDepth 20000 in
set_option maxHeartbeats 1600000 in
theorem rrighth_any (h : Hd) (w : World) (hd : h.root.length = 32) :
    Calls Tryd.prog 22 #[.agg h.cells.toArray] w fun e w' => e = .returned (.bool (hdOk h)) ∧ Below w.heap.size w w' := by
  obtain ⟨s, d, t⟩ := h
  simp only [Hd.cells] at hd ⊢
  have hF0 := Fr.nil w
  have hdm : (d.map bv).length = 32 := by rw [List.length_map]; exact hd
  have h33 := box (hdL_at (s := (Value.int .i64) s) (t := (Value.int .i64) t) hdm)
  replace hdm := box hdm
  replace hd := box hd
  have hR : Box (hdOk ⟨s, d, t⟩ = (decide (0 ≤ s) && (decide (s ≤ 1048576) && (decide (0 ≤ t) && decide (t ≤ 1099511627776))))) := box rfl
  generalize hdOk ⟨s, d, t⟩ = R at *
  by_cases h1 : 0 ≤ s
  · have dh1 : decide (0 ≤ s) = true := decide_eq_true h1
    by_cases h2 : s ≤ 1048576
    · have dh2 : decide (s ≤ 1048576) = true := decide_eq_true h2
      by_cases h3 : 0 ≤ t
      · have dh3 : decide (0 ≤ t) = true := decide_eq_true h3
        have hno : Box (R = decide (t ≤ 1099511627776)) := box (by rw [hR.out]; simp only [dh1, dh2, dh3, Bool.true_and])
        clear hR
        go_enter Tryd.func22, Tryd.ntmps22
        go_wp2_with (first | ((with_reducible refine lst (by with_unfolding_all rfl) (wp_fbox hF0 (cs := (hdL (.int .i64 s) (d.map bv) (.int .i64 t))) rfl (by with_unfolding_all rfl) (by with_unfolding_all rfl) ?_)); intro w1 g1 hF1 hz1) | (with_reducible refine lst (by with_unfolding_all rfl) (wp_fld0 hF1 Tryd.underlying3 rfl (by with_unfolding_all exact ⟨_, rfl, rfl⟩) (by first | with_unfolding_all rfl | exact h33.out) ?_)))
        go_ret
        exact ⟨ret1 (by rw [hno.out]; first | rfl | (simp; done) | (simp; omega)), hF1.below⟩
      · have dh3 : decide (0 ≤ t) = false := decide_eq_false h3
        have hno : Box (R = false) := box (by rw [hR.out, dh3]; simp)
        clear hR
        go_enter Tryd.func22, Tryd.ntmps22
        go_wp2_with (first | ((with_reducible refine lst (by with_unfolding_all rfl) (wp_fbox hF0 (cs := (hdL (.int .i64 s) (d.map bv) (.int .i64 t))) rfl (by with_unfolding_all rfl) (by with_unfolding_all rfl) ?_)); intro w1 g1 hF1 hz1) | (with_reducible refine lst (by with_unfolding_all rfl) (wp_fld0 hF1 Tryd.underlying3 rfl (by with_unfolding_all exact ⟨_, rfl, rfl⟩) (by first | with_unfolding_all rfl | exact h33.out) ?_)))
        go_ret
        exact ⟨ret1 (by rw [hno.out]; first | rfl | (simp; done) | (simp; omega)), hF1.below⟩
    · have dh2 : decide (s ≤ 1048576) = false := decide_eq_false h2
      have hno : Box (R = false) := box (by rw [hR.out, dh2]; simp)
      clear hR
      go_enter Tryd.func22, Tryd.ntmps22
      go_wp2_with (first | ((with_reducible refine lst (by with_unfolding_all rfl) (wp_fbox hF0 (cs := (hdL (.int .i64 s) (d.map bv) (.int .i64 t))) rfl (by with_unfolding_all rfl) (by with_unfolding_all rfl) ?_)); intro w1 g1 hF1 hz1) | (with_reducible refine lst (by with_unfolding_all rfl) (wp_fld0 hF1 Tryd.underlying3 rfl (by with_unfolding_all exact ⟨_, rfl, rfl⟩) (by first | with_unfolding_all rfl | exact h33.out) ?_)))
      go_ret
      exact ⟨ret1 (by rw [hno.out]; first | rfl | (simp; done) | (simp; omega)), hF1.below⟩
  · have dh1 : decide (0 ≤ s) = false := decide_eq_false h1
    have hno : Box (R = false) := box (by rw [hR.out, dh1]; simp)
    clear hR
    go_enter Tryd.func22, Tryd.ntmps22
    go_wp2_with (first | ((with_reducible refine lst (by with_unfolding_all rfl) (wp_fbox hF0 (cs := (hdL (.int .i64 s) (d.map bv) (.int .i64 t))) rfl (by with_unfolding_all rfl) (by with_unfolding_all rfl) ?_)); intro w1 g1 hF1 hz1) | (with_reducible refine lst (by with_unfolding_all rfl) (wp_fld0 hF1 Tryd.underlying3 rfl (by with_unfolding_all exact ⟨_, rfl, rfl⟩) (by first | with_unfolding_all rfl | exact h33.out) ?_)))
    go_ret
    exact ⟨ret1 (by rw [hno.out]; first | rfl | (simp; done) | (simp; omega)), hF1.below⟩

set_option maxRecDepth 20000 in
set_option maxHeartbeats 1600000 in
theorem ench_good (n i : Nat) (d : List UInt8) (w : World) (hd : d.length = 32) (hok : hdOk ⟨(n : Int), d, (i : Int)⟩ = true) :
    Calls Tryd.prog 18 #[.agg (hdL (.int .i64 (n : Int)) (d.map bv) (.int .i64 (i : Int))).toArray] w (Told w 5 (hdB ⟨(n : Int), d, (i : Int)⟩) 0) := by
  obtain ⟨_, hn, _, hi⟩ := hdOk_iff hok
  simp only [] at hn hi
  have hri := box (fun w => righth_any ⟨(n : Int), d, (i : Int)⟩ w hd)
  rw [hok] at hri
  simp only [Hd.cells] at hri
  clear hok
  have hdm : (d.map bv).length = 32 := by rw [List.length_map]; exact hd
  have h33 := box (hdL_at (s := (Value.int .i64) (n : Int)) (t := (Value.int .i64) (i : Int)) hdm)
  have hB : Box (hdB ⟨(n : Int), d, (i : Int)⟩ = [7] ++ putL n 8 ++ d ++ putL i 8) := box rfl
  have hpl := putL_len n 8
  have hpl2 := putL_len i 8
  replace hdm := box hdm
  replace hd := box hd
  have hF0 := Fr.nil w
  go_enter Tryd.func18, Tryd.ntmps18
  go_wp2_with (first | ((with_reducible refine lst (by with_unfolding_all rfl) (wp_fbox hF0 (cs := (hdL (.int .i64 (n : Int)) (d.map bv) (.int .i64 (i : Int)))) rfl (by with_unfolding_all rfl) (by with_unfolding_all rfl) ?_)); intro w1 g1 hF1 hz1) | (with_reducible refine lst (by with_unfolding_all rfl) (wp_fldA0 hF1 Tryd.underlying46 rfl (by with_unfolding_all exact ⟨_, rfl, rfl⟩) (ds := (hdL (.int .i64 (n : Int)) (d.map bv) (.int .i64 (i : Int)))) (by rw [hd_len hdm.out]; kernel_rfl) (take_all _) ?_)))
  refine (hri.out _).mono ?_
  rintro e w2 ⟨rfl, hb2⟩
  have hF2 := hF1.call hb2
  clear hri hF0 hF1
  go_wp2_with (first | (with_reducible refine lst (by with_unfolding_all rfl) (wp_fld0 hF2 Tryd.underlying3 rfl (by with_unfolding_all exact ⟨_, rfl, rfl⟩) rfl ?_)) | ((with_reducible refine lst (by with_unfolding_all rfl) (wp_fbsl T_u8 hF2 (vs := [bv 7]) (by with_unfolding_all rfl) (by with_unfolding_all rfl) (by with_unfolding_all rfl) (by decide) (by simp [bv, Value.cells]) ?_)); intro w3 g3 hF3 hz3; have hr3 : Rd w3 (· < w3.heap.size) (some ⟨g3, 0, none⟩) 1 1 ([7].map bv) := hF3.rdOwn0; replace hF3 : Fr _ _ w3 (Ent.bytes _ 5 (.slice (some ⟨g3, 0, none⟩) 1 1) [7] :: _) := hF3) | (with_reducible refine lst (by with_unfolding_all rfl) (wp_fld1 hF3 Tryd.underlying3 rfl (by with_unfolding_all exact ⟨_, rfl, rfl⟩) rfl ?_)))
  refine (put_any n 8 _).mono ?_
  rintro e w5 ⟨v5, rfl, ho5, hb5⟩
  rw [putS_8] at ho5
  obtain ⟨A5, c5, rfl, _, hr5⟩ := ho5.arg
  have hF5 := hF3.call hb5
  clear hF2 hF3 hr3
  have room5 : ([7] : List UInt8).length + (putL n 8).length ≤ 140737488355328 := by simp only [List.length_cons, List.length_nil]; omega
  have room6 : ([7] ++ putL n 8).length + 32 ≤ 140737488355328 := by simp only [List.length_append, List.length_cons, List.length_nil]; omega
  go_wp2_with (first | ((with_reducible refine lst (by with_unfolding_all rfl) (wp_fapp0 T_u8 hF5 (Nat.le_refl _) hr5 (by with_unfolding_all exact ⟨_, _, rfl, rfl, rfl⟩) room5 ?_)); intro v6 w6 hF6 hz6) | ((with_reducible refine lst (by with_unfolding_all rfl) (wp_fapp0 T_u8 hF6 (Nat.le_refl _) (hF6.rdBlk1 (off := 1) (xs := d.map bv) hdm.out (hdL_dig hdm.out)) (by with_unfolding_all exact ⟨_, _, rfl, rfl, rfl⟩) room6 ?_)); intro v7 w7 hF7 hz7) | (with_reducible refine lst (by with_unfolding_all rfl) (wp_fld1 hF7 Tryd.underlying3 rfl (by with_unfolding_all exact ⟨_, rfl, rfl⟩) (by exact h33.out) ?_)))
  have hF7' := hF7
  refine (put_any i 8 _).mono ?_
  rintro e w8 ⟨v8, rfl, ho8, hb8⟩
  rw [putS_8] at ho8
  obtain ⟨A8, c8, rfl, _, hr8⟩ := ho8.arg
  have hF8 := hF7'.call hb8
  have room8 : ([7] ++ putL n 8 ++ d).length + (putL i 8).length ≤ 140737488355328 := by simp only [List.length_append, List.length_cons, List.length_nil]; have := hd.out; omega
  go_wp2_with (first | ((with_reducible refine lst (by with_unfolding_all rfl) (wp_fapp0 T_u8 hF8 (Nat.le_refl _) hr8 (by with_unfolding_all exact ⟨_, _, rfl, rfl, rfl⟩) room8 ?_)); intro v9 w9 hF9 hz9))
  go_ret2
  exact ⟨_, rfl, by rw [hB.out]; exact hF9.bytes0, hF9.below⟩

set_option maxRecDepth 20000 in
set_option maxHeartbeats 1600000 in
theorem ench_bad (h : Hd) (w : World) (hd : h.root.length = 32) (hok : hdOk h = false) :
    Calls Tryd.prog 18 #[.agg h.cells.toArray] w (Told w 5 [] 1) := by
  have hri := box (fun w => righth_any h w hd)
  rw [hok] at hri
  have hL : Box (h.cells.length = 34) := box (hd_len (by simpa using hd))
  have hF0 := Fr.nil w
  clear hok
  go_enter Tryd.func18, Tryd.ntmps18
  go_wp2_with (first | ((with_reducible refine lst (by with_unfolding_all rfl) (wp_fbox hF0 (cs := h.cells) rfl (by with_unfolding_all rfl) (by with_unfolding_all rfl) ?_)); intro w1 g1 hF1 hz1) | (with_reducible refine lst (by with_unfolding_all rfl) (wp_fldA0 hF1 Tryd.underlying46 rfl (by with_unfolding_all exact ⟨_, rfl, rfl⟩) (ds := h.cells) (by rw [hL.out]; kernel_rfl) (take_all _) ?_)))
  refine (hri.out _).mono ?_
  rintro e w2 ⟨rfl, hb2⟩
  have hF2 := hF1.call hb2
  go_wp2_with fail
  go_ret2
  exact ⟨_, rfl, OwnB.nil _ _ _, hF2.below⟩
theorem ench_any (h : Hd) (w : World) (hd : h.root.length = 32) :
    Calls Tryd.prog 18 #[.agg h.cells.toArray] w (Told w 5 (if hdOk h = true then hdB h else []) (if hdOk h = true then 0 else 1)) := by
  by_cases ho : hdOk h = true
  · rw [if_pos ho, if_pos ho]
    obtain ⟨s, d, t⟩ := h
    obtain ⟨h1, _, h3, _⟩ := hdOk_iff ho
    obtain ⟨n, rfl⟩ := Int.eq_ofNat_of_zero_le h1
    obtain ⟨i, rfl⟩ := Int.eq_ofNat_of_zero_le h3
    exact ench_good n i d w hd ho
  · rw [if_neg ho, if_neg ho]; exact ench_bad h w hd (by simpa using ho)

set_option maxRecDepth 20000 in
set_option maxHeartbeats 1600000 in
theorem rench_good (n i : Nat) (d : List UInt8) (w : World) (hd : d.length = 32) (hok : hdOk ⟨(n : Int), d, (i : Int)⟩ = true) :
    Calls Tryd.prog 19 #[.agg (hdL (.int .i64 (n : Int)) (d.map bv) (.int .i64 (i : Int))).toArray] w (Told w 5 (hdB ⟨(n : Int), d, (i : Int)⟩) 0) := by
  obtain ⟨_, hn, _, hi⟩ := hdOk_iff hok
  simp only [] at hn hi
  have hri := box (fun w => rrighth_any ⟨(n : Int), d, (i : Int)⟩ w hd)
  rw [hok] at hri
  simp only [Hd.cells] at hri
  clear hok
  have hdm : (d.map bv).length = 32 := by rw [List.length_map]; exact hd
  have h33 := box (hdL_at (s := (Value.int .i64) (n : Int)) (t := (Value.int .i64) (i : Int)) hdm)
  have hB : Box (hdB ⟨(n : Int), d, (i : Int)⟩ = [7] ++ putL n 8 ++ d ++ putL i 8) := box rfl
  have hpl := putL_len n 8
  have hpl2 := putL_len i 8
  replace hdm := box hdm
  replace hd := box hd
  have hF0 := Fr.nil w
  go_enter Tryd.func19, Tryd.ntmps19
  go_wp2_with (first | ((with_reducible refine lst (by with_unfolding_all rfl) (wp_fbox hF0 (cs := (hdL (.int .i64 (n : Int)) (d.map bv) (.int .i64 (i : Int)))) rfl (by with_unfolding_all rfl) (by with_unfolding_all rfl) ?_)); intro w1 g1 hF1 hz1) | (with_reducible refine lst (by with_unfolding_all rfl) (wp_fldA0 hF1 Tryd.underlying51 rfl (by with_unfolding_all exact ⟨_, rfl, rfl⟩) (ds := (hdL (.int .i64 (n : Int)) (d.map bv) (.int .i64 (i : Int)))) (by rw [hd_len hdm.out]; kernel_rfl) (take_all _) ?_)))
  refine (hri.out _).mono ?_
  rintro e w2 ⟨rfl, hb2⟩
  have hF2 := hF1.call hb2
  clear hri hF0 hF1
  go_wp2_with (first | (with_reducible refine lst (by with_unfolding_all rfl) (wp_fld0 hF2 Tryd.underlying3 rfl (by with_unfolding_all exact ⟨_, rfl, rfl⟩) rfl ?_)) | ((with_reducible refine lst (by with_unfolding_all rfl) (wp_fbsl T_u8 hF2 (vs := [bv 7]) (by with_unfolding_all rfl) (by with_unfolding_all rfl) (by with_unfolding_all rfl) (by decide) (by simp [bv, Value.cells]) ?_)); intro w3 g3 hF3 hz3; have hr3 : Rd w3 (· < w3.heap.size) (some ⟨g3, 0, none⟩) 1 1 ([7].map bv) := hF3.rdOwn0; replace hF3 : Fr _ _ w3 (Ent.bytes _ 5 (.slice (some ⟨g3, 0, none⟩) 1 1) [7] :: _) := hF3) | (with_reducible refine lst (by with_unfolding_all rfl) (wp_fld1 hF3 Tryd.underlying3 rfl (by with_unfolding_all exact ⟨_, rfl, rfl⟩) rfl ?_)))
  refine (rput_any n 8 _).mono ?_
  rintro e w5 ⟨v5, rfl, ho5, hb5⟩
  rw [putS_8] at ho5
  obtain ⟨A5, c5, rfl, _, hr5⟩ := ho5.arg
  have hF5 := hF3.call hb5
  clear hF2 hF3 hr3
  have room5 : ([7] : List UInt8).length + (putL n 8).length ≤ 140737488355328 := by simp only [List.length_cons, List.length_nil]; omega
  go_wp2_with (first | ((with_reducible refine lst (by with_unfolding_all rfl) (wp_fapp0 T_u8 hF5 (Nat.le_refl _) hr5 (by with_unfolding_all exact ⟨_, _, rfl, rfl, rfl⟩) room5 ?_)); intro v6 w6 hF6 hz6))
  clear hF5
  go_loopw [4, 5] (fun q x wr => ∃ (k : Nat) (v' : Value), k ≤ 32 ∧ q = v' ∧ x = .int .i64 k ∧ Fr [] w wr [Ent.bytes w.heap.size 5 v' (([7] ++ putL n 8) ++ d.take k), .blk g1 51 (hdL (.int .i64 (n : Int)) (d.map bv) (.int .i64 (i : Int)))]) (fun _ x _ => 32 - (intOf x).toNat)
  case atStart => exact ⟨0, _, by omega, rfl, rfl, by rw [List.take_zero, List.append_nil]; exact hF6⟩
  case round =>
    clear hF6
    obtain ⟨k, v', hk, rfl, rfl, hF⟩ := hrel
    by_cases hlt : k < 32
    · obtain ⟨x, hx⟩ : ∃ x, d[k]? = some x := ⟨d[k]'(by have := hd.out; omega), by simp⟩
      have hx2 := box (hdL_byte (s := (Value.int .i64) (n : Int)) (t := (Value.int .i64) (i : Int)) hx)
      have hxb := x.toNat_lt
      have hT3 := box (take_snoc hx)
      have hrm : (([7] ++ putL n 8) ++ d.take k).length + 1 ≤ 140737488355328 := by simp only [List.length_append, List.length_cons, List.length_nil]; have : (d.take k).length ≤ k := List.length_take_le _ _; omega
      replace hx := box hx
      go_wp2_with (first | (with_reducible refine lst (by with_unfolding_all rfl) (wp_fld1 hF Tryd.underlying5 rfl (by with_unfolding_all exact ⟨_, rfl, rfl⟩) hx2.out ?_)) | ((with_reducible refine lst (by with_unfolding_all rfl) (wp_fbsl T_u8 hF (vs := [bv x]) (by with_unfolding_all rfl) (by with_unfolding_all rfl) (by with_unfolding_all rfl) (by decide) (by simp [bv, Value.cells]) ?_)); intro w1 g1 hF1 hz1; have hr1 : Rd w1 (· < w1.heap.size) (some ⟨g1, 0, none⟩) 1 1 ([x].map bv) := hF1.rdOwn0; replace hF1 : Fr _ _ w1 (Ent.bytes _ 5 (.slice (some ⟨g1, 0, none⟩) 1 1) [x] :: _) := hF1) | ((with_reducible refine lst (by with_unfolding_all rfl) (wp_fapp1 T_u8 hF1 (Nat.le_refl _) hr1 (by with_unfolding_all exact ⟨_, _, rfl, rfl, rfl⟩) hrm ?_)); intro v2 w2 hF2 hz2))
      go_roundw
      case rel => exact ⟨k + 1, _, by omega, rfl, by go_num, by rw [hT3.out, ← List.append_assoc]; exact hF2.tail⟩
      case measure => simp [intOf]; omega
    · obtain rfl : k = 32 := by omega
      rw [List.take_of_length_le (by have := hd.out; omega)] at hF
      go_wp2_with (first | (with_reducible refine lst (by with_unfolding_all rfl) (wp_fld1 hF Tryd.underlying3 rfl (by with_unfolding_all exact ⟨_, rfl, rfl⟩) (by exact h33.out) ?_)))
      have hF' := hF
      refine (rput_any i 8 _).mono ?_
      rintro e w8 ⟨v8, rfl, ho8, hb8⟩
      rw [putS_8] at ho8
      obtain ⟨A8, c8, rfl, _, hr8⟩ := ho8.arg
      have hF8 := hF'.call hb8
      have room8 : ([7] ++ putL n 8 ++ d).length + (putL i 8).length ≤ 140737488355328 := by simp only [List.length_append, List.length_cons, List.length_nil]; have := hd.out; omega
      go_wp2_with (first | ((with_reducible refine lst (by with_unfolding_all rfl) (wp_fapp0 T_u8 hF8 (Nat.le_refl _) hr8 (by with_unfolding_all exact ⟨_, _, rfl, rfl, rfl⟩) room8 ?_)); intro v9 w9 hF9 hz9))
      go_ret2
      exact ⟨_, rfl, by rw [hB.out]; exact hF9.bytes0, hF9.below⟩

set_option maxRecDepth 20000 in
set_option maxHeartbeats 1600000 in
theorem rench_bad (h : Hd) (w : World) (hd : h.root.length = 32) (hok : hdOk h = false) :
    Calls Tryd.prog 19 #[.agg h.cells.toArray] w (Told w 5 [] 1) := by
  have hri := box (fun w => rrighth_any h w hd)
  rw [hok] at hri
  have hL : Box (h.cells.length = 34) := box (hd_len (by simpa using hd))
  have hF0 := Fr.nil w
  clear hok
  go_enter Tryd.func19, Tryd.ntmps19
  go_wp2_with (first | ((with_reducible refine lst (by with_unfolding_all rfl) (wp_fbox hF0 (cs := h.cells) rfl (by with_unfolding_all rfl) (by with_unfolding_all rfl) ?_)); intro w1 g1 hF1 hz1) | (with_reducible refine lst (by with_unfolding_all rfl) (wp_fldA0 hF1 Tryd.underlying51 rfl (by with_unfolding_all exact ⟨_, rfl, rfl⟩) (ds := h.cells) (by rw [hL.out]; kernel_rfl) (take_all _) ?_)))
  refine (hri.out _).mono ?_
  rintro e w2 ⟨rfl, hb2⟩
  have hF2 := hF1.call hb2
  go_wp2_with fail
  go_ret2
  exact ⟨_, rfl, OwnB.nil _ _ _, hF2.below⟩
theorem rench_any (h : Hd) (w : World) (hd : h.root.length = 32) :
    Calls Tryd.prog 19 #[.agg h.cells.toArray] w (Told w 5 (if hdOk h = true then hdB h else []) (if hdOk h = true then 0 else 1)) := by
  by_cases ho : hdOk h = true
  · rw [if_pos ho, if_pos ho]
    obtain ⟨s, d, t⟩ := h
    obtain ⟨h1, _, h3, _⟩ := hdOk_iff ho
    obtain ⟨n, rfl⟩ := Int.eq_ofNat_of_zero_le h1
    obtain ⟨i, rfl⟩ := Int.eq_ofNat_of_zero_le h3
    exact rench_good n i d w hd ho
  · rw [if_neg ho, if_neg ho]; exact rench_bad h w hd (by simpa using ho)

end Go.Proofs.YtpdbjhgphgcjoaaDoor
