/-
  A number's bytes, plainly.
  Layer 14 in plain words: records. No program is named here.
  Layer 7: the walks of small, sign (both texts).
  Layer 7: the walk of the document's IsRepo.
  The library's contracts that this seat uses, laid by the kit's tools.
-/
import Derived.Test.YtpdbjhgphgcjoaaDoorJ01
import Derived.Test.YtpdbjhgphgcjoaaDoorJ02
import Derived.Test.YtpdbjhgphgcjoaaDoorJ05
import Derived.Test.YtpdbjhgphgcjoaaDoorRows
import Derived.Shelf.Strings.Search1
import Derived.Shelf.Strings.Search2
import Derived.Shelf.Strings.Search3
import Derived.Shelf.Strings.Count
import Derived.Shelf.LaysM
import Derived.Shelf.Strings.Shaped
import Derived.Shelf.Strings.Prefix
import Derived.Shelf.Strings.Split
import Derived.Shelf.Strings.SplitShaped
import Derived.Shelf.Unicode.DecodeSlow
import Derived.Test.YtpdbjhgphgcjoaaDoorProg
namespace Go.Proofs.YtpdbjhgphgcjoaaDoor
open Go.RowKit

def putS (n : Nat) (size : Int) : List UInt8 := if 0 ≤ size ∧ size ≤ 8 then putL n size.toNat else []
theorem putL_len (n : Nat) : ∀ k, (putL n k).length = k
  | 0 => rfl
  | k + 1 => by rw [putL, List.length_cons, putL_len n k]
theorem put_set (n s i : Nat) (d : UInt8) (hi : i < s) (hd : d.toNat = n / 2 ^ (8 * i) % 256) :
    (List.replicate (s - i) 0 ++ putL n i).set (s - 1 - i) d = List.replicate (s - (i + 1)) 0 ++ putL n (i + 1) := by
  have h1 : s - i = (s - (i + 1)) + 1 := by omega
  rw [h1, List.replicate_succ', List.append_assoc, List.set_append_right _ _ (by rw [List.length_replicate]; omega), List.length_replicate, show s - 1 - i - (s - (i + 1)) = 0 by omega]
  have h2 : d = UInt8.ofNat (n / 2 ^ (8 * i) % 256) := by rw [← hd]; simp
  rw [putL, ← h2]
  rfl
end Go.Proofs.YtpdbjhgphgcjoaaDoor

namespace Go.Proofs.YtpdbjhgphgcjoaaDoor
open Go.RowKit

def zeros : List UInt8 := List.replicate 32 0
theorem zeros_len : (zeros.map bv).length = 32 := by simp [zeros]
theorem zeros_32 : zeros.length = 32 := by simp [zeros]
structure Rec where
  kind : Int
  repo : ByteArray
  tag : ByteArray
  d : List UInt8
  t : Int
def rcL (k a b : Value) (dg : List Value) (t : Value) : List Value := k :: a :: b :: (dg ++ [t])
def Rec.cells (r : Rec) : List Value := rcL (.int .i64 r.kind) (.string r.repo) (.string r.tag) (r.d.map bv) (.int .i64 r.t)
def Rec.zero : Rec := ⟨0, ⟨#[]⟩, ⟨#[]⟩, zeros, 0⟩
def rc0 : List Value := rcL (.int .i64 0) (.string ⟨#[]⟩) (.string ⟨#[]⟩) (zeros.map bv) (.int .i64 0)
def rcP : List (Nat × Nat) := [(0, 1), (1, 1), (2, 1), (3, 32), (35, 1)]
theorem rc_len {k a b t : Value} {dg : List Value} (h : dg.length = 32) : (rcL k a b dg t).length = 36 := by simp [rcL, h]
theorem rc0_len : rc0.length = 36 := rc_len zeros_len
theorem Rec.len (r : Rec) (h : r.d.length = 32) : r.cells.length = 36 := rc_len (by simpa using h)
theorem spl_at {p q r ds : List Value} {off : Nat} (ho : p.length = off) (hq : q.length = ds.length) : spl (p ++ (q ++ r)) off ds = p ++ (ds ++ r) := by
  unfold spl
  rw [List.take_left' ho, List.append_assoc]
  congr 2
  rw [← ho, List.drop_append, List.drop_of_length_le (by omega), List.nil_append, Nat.add_sub_cancel_left, List.drop_left' hq]
section
variable {k a b t v : Value} {dg ds : List Value}
theorem rcL_0 : spl (rcL k a b dg t) 0 [v] = rcL v a b dg t := rfl
theorem rcL_1 : spl (rcL k a b dg t) 1 [v] = rcL k v b dg t := rfl
theorem rcL_2 : spl (rcL k a b dg t) 2 [v] = rcL k a v dg t := rfl
theorem rcL_3 (h : dg.length = ds.length) : spl (rcL k a b dg t) 3 ds = rcL k a b ds t := spl_at (p := [k, a, b]) (q := dg) (r := [t]) rfl h
theorem rcL_35 (h : dg.length = 32) : spl (rcL k a b dg t) 35 [v] = rcL k a b dg v := by
  have := spl_at (p := k :: a :: b :: dg) (q := [t]) (r := []) (ds := [v]) (off := 35) (by simp [h]) rfl
  simpa [rcL] using this
theorem rcL_at (h : dg.length = 32) : (rcL k a b dg t)[35]? = some t := by
  unfold rcL
  simp only [List.getElem?_cons_succ]
  rw [List.getElem?_append_right (by omega)]
  simp [h]
theorem rcL_dig {n : Nat} (h : dg.length = n) : ((rcL k a b dg t).drop 3).take n = dg := by
  unfold rcL
  simp [← h]
theorem rcL_one (h : ∀ u ∈ dg, u.oneCell' = true) (hk : k.oneCell' = true) (ha : a.oneCell' = true) (hb : b.oneCell' = true) (ht : t.oneCell' = true) : ∀ u ∈ rcL k a b dg t, u.oneCell' = true := by
  intro u hu
  simp only [rcL, List.mem_cons, List.mem_append, List.not_mem_nil, or_false] at hu
  rcases hu with rfl | rfl | rfl | hu | rfl
  all_goals first | assumption | exact h u hu
end
theorem Rec.one (r : Rec) : ∀ u ∈ r.cells, u.oneCell' = true := rcL_one (bv_one _) rfl rfl rfl rfl
theorem rc0_one : ∀ u ∈ rc0, u.oneCell' = true := rcL_one (bv_one _) rfl rfl rfl rfl
theorem Rec.dig (r : Rec) : (r.cells.drop 3).take (r.d.map bv).length = r.d.map bv := rcL_dig rfl
theorem rc0_fill : Instr.fill (fun i : Nat => rcP[i]?) rc0.toArray [] = some rc0.toArray := rfl
theorem rc0_fill1 {v : Value} (hv : v.cells = #[v]) : Instr.fill (fun i : Nat => rcP[i]?) rc0.toArray [(0, v)] = some (rcL v (.string ⟨#[]⟩) (.string ⟨#[]⟩) (zeros.map bv) (.int .i64 0)).toArray := by
  rw [fill_step (off := 0) (size := 1) rfl (by rw [hv]; rfl) (by rw [rc0_len]; omega), hv]
  rfl
theorem rc_fill {k a b t : Value} {dg : List Value} (hd : dg.length = 32) (hk : k.cells = #[k]) (ha : a.cells = #[a]) (hb : b.cells = #[b]) (ht : t.cells = #[t]) :
    Instr.fill (fun i : Nat => rcP[i]?) rc0.toArray [(0, k), (1, a), (2, b), (3, .agg dg.toArray), (4, t)] = some (rcL k a b dg t).toArray := by
  unfold rc0
  rw [fill_step (off := 0) (size := 1) rfl (by rw [hk]; rfl) (by rw [rc_len zeros_len]; omega), hk, rcL_0,
    fill_step (off := 1) (size := 1) rfl (by rw [ha]; rfl) (by rw [rc_len zeros_len]; omega), ha, rcL_1,
    fill_step (off := 2) (size := 1) rfl (by rw [hb]; rfl) (by rw [rc_len zeros_len]; omega), hb, rcL_2,
    fill_step (off := 3) (size := 32) rfl (by simpa [Value.cells] using hd) (by rw [rc_len zeros_len]; omega), show (Value.agg dg.toArray).cells.toList = dg from rfl, rcL_3 (by rw [zeros_len, hd]),
    fill_step (off := 35) (size := 1) rfl (by rw [ht]; rfl) (by rw [rc_len hd]; omega), ht, rcL_35 hd]
  rfl
theorem rc_fill_nd {k a b t : Value} (hk : k.cells = #[k]) (ha : a.cells = #[a]) (hb : b.cells = #[b]) (ht : t.cells = #[t]) :
    Instr.fill (fun i : Nat => rcP[i]?) rc0.toArray [(0, k), (1, a), (2, b), (4, t)] = some (rcL k a b (zeros.map bv) t).toArray := by
  unfold rc0
  rw [fill_step (off := 0) (size := 1) rfl (by rw [hk]; rfl) (by rw [rc_len zeros_len]; omega), hk, rcL_0,
    fill_step (off := 1) (size := 1) rfl (by rw [ha]; rfl) (by rw [rc_len zeros_len]; omega), ha, rcL_1,
    fill_step (off := 2) (size := 1) rfl (by rw [hb]; rfl) (by rw [rc_len zeros_len]; omega), hb, rcL_2,
    fill_step (off := 35) (size := 1) rfl (by rw [ht]; rfl) (by rw [rc_len zeros_len]; omega), ht, rcL_35 zeros_len]
  rfl
def timeB (t : Int) : Bool := decide (0 ≤ t) && decide (t ≤ 1099511627776)
def kindB (r : Rec) : Bool := r.kind == 1 || (r.kind == 2 && r.d == zeros)
def recOk (r : Rec) : Bool := kindB r && (repoB r.repo.data.toList && (tagB r.tag.data.toList && timeB r.t))
/-- The bytes of a record. -/
def recB (r : Rec) : List UInt8 := [UInt8.ofNat r.kind.toNat] ++ textL r.repo.data.toList ++ textL r.tag.data.toList ++ (if r.kind = 1 then r.d else []) ++ putL r.t.toNat 8
theorem repo_size {s : ByteArray} (h : repoB s.data.toList = true) : s.size ≤ 128 := by
  unfold repoB at h
  simp only [Bool.and_eq_true, decide_eq_true_eq] at h
  exact h.2
theorem tag_size {s : ByteArray} (h : tagB s.data.toList = true) : s.size ≤ 128 := by
  unfold tagB at h
  simp only [Bool.and_eq_true, decide_eq_true_eq] at h
  exact h.1.1.2
theorem recOk_iff {r : Rec} (h : recOk r = true) : kindB r = true ∧ repoB r.repo.data.toList = true ∧ tagB r.tag.data.toList = true ∧ 0 ≤ r.t ∧ r.t ≤ 1099511627776 := by
  simp only [recOk, timeB, Bool.and_eq_true, decide_eq_true_eq] at h
  exact ⟨h.1, h.2.1, h.2.2.1, h.2.2.2.1, h.2.2.2.2⟩
/-- What a call hands back: bytes of its own and an error's number; nothing else has changed. -/
def Told (w : World) (t : TypeId) (l : List UInt8) (er : Int) (e : Ending) (w' : World) : Prop :=
  ∃ v, e = .returned (.tuple #[v, .int .i64 er]) ∧ OwnB w' w.heap.size t v l ∧ Below w.heap.size w w'
theorem putS_8 (n : Nat) : putS n 8 = putL n 8 := by unfold putS; rw [if_pos (by omega)]; rfl
theorem recB_1 (repo tag : ByteArray) (d : List UInt8) (i : Nat) : recB ⟨1, repo, tag, d, (i : Int)⟩ = [1] ++ textL repo.data.toList ++ textL tag.data.toList ++ d ++ putL i 8 := by
  unfold recB
  simp only [if_true, Int.toNat_natCast]
  rfl
theorem recB_2 (repo tag : ByteArray) (d : List UInt8) (i : Nat) : recB ⟨2, repo, tag, d, (i : Int)⟩ = [2] ++ textL repo.data.toList ++ textL tag.data.toList ++ putL i 8 := by
  unfold recB
  have h : ¬ (2 : Int) = 1 := by decide
  simp only [if_neg h, Int.toNat_natCast, List.append_nil]
  rfl
end Go.Proofs.YtpdbjhgphgcjoaaDoor

namespace Go.Proofs.YtpdbjhgphgcjoaaDoor
open Go.RowKit

theorem retB {a b : Bool} (h : a = b) : Ending.returned (.bool a) = .returned (.bool b) := by rw [h]
set_option maxRecDepth 20000 in
set_option maxHeartbeats 400000 in
theorem small_any (c : UInt8) (n : Int) (hn : n = (c.toNat : Int)) (w : World) : Calls Tryd.prog 45 #[.int .u8 n] w fun e w' => e = .returned (.bool (smallB c)) ∧ w = w' := by
  subst hn
  have clt : c.toNat < 256 := c.toNat_lt
  by_cases h1 : 97 ≤ c.toNat
  · by_cases h2 : c.toNat ≤ 122
    · have hr : Box (smallB c = true) := box (by unfold smallB; first | (simp; done) | (simp; omega))
      go_enter Tryd.func45, Tryd.ntmps45
      go_wp2
      go_ret
      exact ⟨retB (by first | exact hr.out.symm | (rw [hr.out]; (simp; done)) | (rw [hr.out]; (simp; omega))), rfl⟩
    · have hr : Box (smallB c = false) := box (by unfold smallB; first | (simp; done) | (simp; omega))
      go_enter Tryd.func45, Tryd.ntmps45
      go_wp2
      go_ret
      exact ⟨retB (by first | exact hr.out.symm | (rw [hr.out]; (simp; done)) | (rw [hr.out]; (simp; omega))), rfl⟩
  · by_cases h2 : 48 ≤ c.toNat
    · by_cases h3 : c.toNat ≤ 57
      · have hr : Box (smallB c = true) := box (by unfold smallB; first | (simp; done) | (simp; omega))
        go_enter Tryd.func45, Tryd.ntmps45
        go_wp2
        go_ret
        exact ⟨retB (by first | exact hr.out.symm | (rw [hr.out]; (simp; done)) | (rw [hr.out]; (simp; omega))), rfl⟩
      · have hr : Box (smallB c = false) := box (by unfold smallB; first | (simp; done) | (simp; omega))
        go_enter Tryd.func45, Tryd.ntmps45
        go_wp2
        go_ret
        exact ⟨retB (by first | exact hr.out.symm | (rw [hr.out]; (simp; done)) | (rw [hr.out]; (simp; omega))), rfl⟩
    · have hr : Box (smallB c = false) := box (by unfold smallB; first | (simp; done) | (simp; omega))
      go_enter Tryd.func45, Tryd.ntmps45
      go_wp2
      go_ret
      exact ⟨retB (by first | exact hr.out.symm | (rw [hr.out]; (simp; done)) | (rw [hr.out]; (simp; omega))), rfl⟩
set_option maxRecDepth 20000 in
set_option maxHeartbeats 400000 in
theorem smallF_any (c : UInt8) (n : Int) (hn : n = (c.toNat : Int)) (w : World) : Calls Tryd.prog 40 #[.int .u8 n] w fun e w' => e = .returned (.bool (smallB c)) ∧ w = w' := by
  subst hn
  have clt : c.toNat < 256 := c.toNat_lt
  by_cases h1 : 97 ≤ c.toNat
  · by_cases h2 : c.toNat ≤ 122
    · have hr : Box (smallB c = true) := box (by unfold smallB; first | (simp; done) | (simp; omega))
      go_enter Tryd.func40, Tryd.ntmps40
      go_wp2
      go_ret
      exact ⟨retB (by first | exact hr.out.symm | (rw [hr.out]; (simp; done)) | (rw [hr.out]; (simp; omega))), rfl⟩
    · have hr : Box (smallB c = false) := box (by unfold smallB; first | (simp; done) | (simp; omega))
      go_enter Tryd.func40, Tryd.ntmps40
      go_wp2
      go_ret
      exact ⟨retB (by first | exact hr.out.symm | (rw [hr.out]; (simp; done)) | (rw [hr.out]; (simp; omega))), rfl⟩
  · by_cases h2 : 48 ≤ c.toNat
    · by_cases h3 : c.toNat ≤ 57
      · have hr : Box (smallB c = true) := box (by unfold smallB; first | (simp; done) | (simp; omega))
        go_enter Tryd.func40, Tryd.ntmps40
        go_wp2
        go_ret
        exact ⟨retB (by first | exact hr.out.symm | (rw [hr.out]; (simp; done)) | (rw [hr.out]; (simp; omega))), rfl⟩
      · have hr : Box (smallB c = false) := box (by unfold smallB; first | (simp; done) | (simp; omega))
        go_enter Tryd.func40, Tryd.ntmps40
        go_wp2
        go_ret
        exact ⟨retB (by first | exact hr.out.symm | (rw [hr.out]; (simp; done)) | (rw [hr.out]; (simp; omega))), rfl⟩
    · have hr : Box (smallB c = false) := box (by unfold smallB; first | (simp; done) | (simp; omega))
      go_enter Tryd.func40, Tryd.ntmps40
      go_wp2
      go_ret
      exact ⟨retB (by first | exact hr.out.symm | (rw [hr.out]; (simp; done)) | (rw [hr.out]; (simp; omega))), rfl⟩
set_option maxRecDepth 20000 in
set_option maxHeartbeats 400000 in
theorem sign_any (c : UInt8) (n : Int) (hn : n = (c.toNat : Int)) (w : World) : Calls Tryd.prog 39 #[.int .u8 n] w fun e w' => e = .returned (.bool (signB c)) ∧ w = w' := by
  subst hn
  have clt : c.toNat < 256 := c.toNat_lt
  cases hs : smallB c with
  | true =>
    have hr : signB c = true := by simp [smallB] at hs; simp [signB]; omega
    rw [hr]
    replace hr := box hr
    go_enter Tryd.func39, Tryd.ntmps39
    go_wp2_with (refine (small_any c _ rfl _).mono ?_; rintro e w' ⟨rfl, rfl⟩)
    go_wp2
    go_ret
    exact ⟨rfl, rfl⟩
  | false =>
    have hs' := box hs
    have hx : Box (signB c = decide (65 ≤ c.toNat ∧ c.toNat ≤ 90)) := box (by simp [smallB] at hs; simp [signB]; omega)
    by_cases h1 : 65 ≤ c.toNat
    · by_cases h2 : c.toNat ≤ 90
      · have hr : Box (signB c = true) := box (by rw [hx.out]; first | (simp; done) | (simp; omega))
        go_enter Tryd.func39, Tryd.ntmps39
        go_wp2_with (refine (small_any c _ rfl _).mono ?_; rintro e w' ⟨rfl, rfl⟩)
        go_wp2
        go_ret
        exact ⟨retB (by first | exact hr.out.symm | (rw [hr.out]; (simp; done)) | (rw [hr.out]; (simp; omega))), rfl⟩
      · have hr : Box (signB c = false) := box (by rw [hx.out]; first | (simp; done) | (simp; omega))
        go_enter Tryd.func39, Tryd.ntmps39
        go_wp2_with (refine (small_any c _ rfl _).mono ?_; rintro e w' ⟨rfl, rfl⟩)
        go_wp2
        go_ret
        exact ⟨retB (by first | exact hr.out.symm | (rw [hr.out]; (simp; done)) | (rw [hr.out]; (simp; omega))), rfl⟩
    · have hr : Box (signB c = false) := box (by rw [hx.out]; first | (simp; done) | (simp; omega))
      go_enter Tryd.func39, Tryd.ntmps39
      go_wp2_with (refine (small_any c _ rfl _).mono ?_; rintro e w' ⟨rfl, rfl⟩)
      go_wp2
      go_ret
      exact ⟨retB (by first | exact hr.out.symm | (rw [hr.out]; (simp; done)) | (rw [hr.out]; (simp; omega))), rfl⟩
set_option maxRecDepth 20000 in
set_option maxHeartbeats 400000 in
theorem signF_any (c : UInt8) (n : Int) (hn : n = (c.toNat : Int)) (w : World) : Calls Tryd.prog 41 #[.int .u8 n] w fun e w' => e = .returned (.bool (signB c)) ∧ w = w' := by
  subst hn
  have clt : c.toNat < 256 := c.toNat_lt
  cases hs : smallB c with
  | true =>
    have hr : signB c = true := by simp [smallB] at hs; simp [signB]; omega
    rw [hr]
    replace hr := box hr
    go_enter Tryd.func41, Tryd.ntmps41
    go_wp2_with (refine (smallF_any c _ rfl _).mono ?_; rintro e w' ⟨rfl, rfl⟩)
    go_wp2
    go_ret
    exact ⟨rfl, rfl⟩
  | false =>
    have hs' := box hs
    have hx : Box (signB c = decide (65 ≤ c.toNat ∧ c.toNat ≤ 90)) := box (by simp [smallB] at hs; simp [signB]; omega)
    by_cases h1 : 65 ≤ c.toNat
    · by_cases h2 : c.toNat ≤ 90
      · have hr : Box (signB c = true) := box (by rw [hx.out]; first | (simp; done) | (simp; omega))
        go_enter Tryd.func41, Tryd.ntmps41
        go_wp2_with (refine (smallF_any c _ rfl _).mono ?_; rintro e w' ⟨rfl, rfl⟩)
        go_wp2
        go_ret
        exact ⟨retB (by first | exact hr.out.symm | (rw [hr.out]; (simp; done)) | (rw [hr.out]; (simp; omega))), rfl⟩
      · have hr : Box (signB c = false) := box (by rw [hx.out]; first | (simp; done) | (simp; omega))
        go_enter Tryd.func41, Tryd.ntmps41
        go_wp2_with (refine (smallF_any c _ rfl _).mono ?_; rintro e w' ⟨rfl, rfl⟩)
        go_wp2
        go_ret
        exact ⟨retB (by first | exact hr.out.symm | (rw [hr.out]; (simp; done)) | (rw [hr.out]; (simp; omega))), rfl⟩
    · have hr : Box (signB c = false) := box (by rw [hx.out]; first | (simp; done) | (simp; omega))
      go_enter Tryd.func41, Tryd.ntmps41
      go_wp2_with (refine (smallF_any c _ rfl _).mono ?_; rintro e w' ⟨rfl, rfl⟩)
      go_wp2
      go_ret
      exact ⟨retB (by first | exact hr.out.symm | (rw [hr.out]; (simp; done)) | (rw [hr.out]; (simp; omega))), rfl⟩
end Go.Proofs.YtpdbjhgphgcjoaaDoor

namespace Go.Proofs.YtpdbjhgphgcjoaaDoor
open Go.RowKit

set_option maxRecDepth 20000 in
set_option maxHeartbeats 6400000 in
theorem repoF_any (s : ByteArray) (w : World) (hs : s.size ≤ 9223372036854775807) : Calls Tryd.prog 29 #[.string s] w fun e w' => e = .returned (.bool (repoB s.data.toList)) ∧ w = w' := by
  have hRB := box (show repoB s.data.toList = (acc 0 s.data.toList && decide (s.size ≤ 128)) from rfl)
  generalize repoB s.data.toList = R at *
  go_enter Tryd.func29, Tryd.ntmps29
  go_wp2
  go_loop [3, 4] (fun st i => ∃ k q : Nat, k ≤ s.size ∧ q ≤ 4 ∧ st = .int .i64 q ∧ i = .int .i64 k ∧ Box (acc 0 s.data.toList = acc q (s.data.toList.drop k))) (fun _ i => s.size - (intOf i).toNat)
  case atStart => exact ⟨0, 0, by omega, by omega, rfl, rfl, box rfl⟩
  case round =>
    obtain ⟨k, q, hk, hq, rfl, rfl, hA⟩ := hrel
    by_cases hlt : k < s.size
    · obtain ⟨c, hc⟩ := str_at hlt
      have hix := fun W => run_strIx (P := Tryd.prog) Tryd.underlying9 hc (i := (k : Int)) rfl .i64 W
      have hstep := box (fun q' (h : step q c = some q') => hA.out.trans (acc_step hc h))
      have hstop := box (fun (h : step q c = none) => hA.out.trans (acc_stop hc h))
      clear hA
      replace hc := box hc
      have hq5 : q = 0 ∨ q = 1 ∨ q = 2 ∨ q = 3 ∨ q = 4 := by omega
      clear hq
      rcases kind c with hsm | rfl | rfl | rfl | rfl | hot
      · have hst := box (fun q => step_small (q := q) hsm)
        go_wp2_with (refine (smallF_any c _ rfl _).mono ?_; rintro e w' ⟨rfl, rfl⟩)
        go_round
        case rel => exact ⟨k + 1, 1, by omega, by omega, rfl, by go_num, box (hstep.out 1 (hst.out q))⟩
        case measure => simp [intOf]; omega
      · have hsm : smallB 47 = false := by decide
        replace hix : ∀ W, (Instr.index 9 (.string s) (.int .i64 (k : Int))).run Tryd.prog W = .ok (.int .u8 47) W := hix
        rcases hq5 with rfl | rfl | rfl | rfl | rfl
        · go_wp2_with (refine (smallF_any 47 _ rfl _).mono ?_; rintro e w' ⟨rfl, rfl⟩)
          go_ret
          exact ⟨retB (by rw [hRB.out, hstop.out rfl]; rfl), rfl⟩
        · go_wp2_with (refine (smallF_any 47 _ rfl _).mono ?_; rintro e w' ⟨rfl, rfl⟩)
          go_round
          case rel => exact ⟨k + 1, 0, by omega, by omega, rfl, by go_num, box (hstep.out 0 rfl)⟩
          case measure => simp [intOf]; omega
        · go_wp2_with (refine (smallF_any 47 _ rfl _).mono ?_; rintro e w' ⟨rfl, rfl⟩)
          go_ret
          exact ⟨retB (by rw [hRB.out, hstop.out rfl]; rfl), rfl⟩
        · go_wp2_with (refine (smallF_any 47 _ rfl _).mono ?_; rintro e w' ⟨rfl, rfl⟩)
          go_ret
          exact ⟨retB (by rw [hRB.out, hstop.out rfl]; rfl), rfl⟩
        · go_wp2_with (refine (smallF_any 47 _ rfl _).mono ?_; rintro e w' ⟨rfl, rfl⟩)
          go_ret
          exact ⟨retB (by rw [hRB.out, hstop.out rfl]; rfl), rfl⟩
      · have hsm : smallB 46 = false := by decide
        replace hix : ∀ W, (Instr.index 9 (.string s) (.int .i64 (k : Int))).run Tryd.prog W = .ok (.int .u8 46) W := hix
        rcases hq5 with rfl | rfl | rfl | rfl | rfl
        · go_wp2_with (refine (smallF_any 46 _ rfl _).mono ?_; rintro e w' ⟨rfl, rfl⟩)
          go_ret
          exact ⟨retB (by rw [hRB.out, hstop.out rfl]; rfl), rfl⟩
        · go_wp2_with (refine (smallF_any 46 _ rfl _).mono ?_; rintro e w' ⟨rfl, rfl⟩)
          go_round
          case rel => exact ⟨k + 1, 2, by omega, by omega, rfl, by go_num, box (hstep.out 2 rfl)⟩
          case measure => simp [intOf]; omega
        · go_wp2_with (refine (smallF_any 46 _ rfl _).mono ?_; rintro e w' ⟨rfl, rfl⟩)
          go_ret
          exact ⟨retB (by rw [hRB.out, hstop.out rfl]; rfl), rfl⟩
        · go_wp2_with (refine (smallF_any 46 _ rfl _).mono ?_; rintro e w' ⟨rfl, rfl⟩)
          go_ret
          exact ⟨retB (by rw [hRB.out, hstop.out rfl]; rfl), rfl⟩
        · go_wp2_with (refine (smallF_any 46 _ rfl _).mono ?_; rintro e w' ⟨rfl, rfl⟩)
          go_ret
          exact ⟨retB (by rw [hRB.out, hstop.out rfl]; rfl), rfl⟩
      · have hsm : smallB 95 = false := by decide
        replace hix : ∀ W, (Instr.index 9 (.string s) (.int .i64 (k : Int))).run Tryd.prog W = .ok (.int .u8 95) W := hix
        rcases hq5 with rfl | rfl | rfl | rfl | rfl
        · go_wp2_with (refine (smallF_any 95 _ rfl _).mono ?_; rintro e w' ⟨rfl, rfl⟩)
          go_ret
          exact ⟨retB (by rw [hRB.out, hstop.out rfl]; rfl), rfl⟩
        · go_wp2_with (refine (smallF_any 95 _ rfl _).mono ?_; rintro e w' ⟨rfl, rfl⟩)
          go_round
          case rel => exact ⟨k + 1, 3, by omega, by omega, rfl, by go_num, box (hstep.out 3 rfl)⟩
          case measure => simp [intOf]; omega
        · go_wp2_with (refine (smallF_any 95 _ rfl _).mono ?_; rintro e w' ⟨rfl, rfl⟩)
          go_ret
          exact ⟨retB (by rw [hRB.out, hstop.out rfl]; rfl), rfl⟩
        · go_wp2_with (refine (smallF_any 95 _ rfl _).mono ?_; rintro e w' ⟨rfl, rfl⟩)
          go_round
          case rel => exact ⟨k + 1, 2, by omega, by omega, rfl, by go_num, box (hstep.out 2 rfl)⟩
          case measure => simp [intOf]; omega
        · go_wp2_with (refine (smallF_any 95 _ rfl _).mono ?_; rintro e w' ⟨rfl, rfl⟩)
          go_ret
          exact ⟨retB (by rw [hRB.out, hstop.out rfl]; rfl), rfl⟩
      · have hsm : smallB 45 = false := by decide
        replace hix : ∀ W, (Instr.index 9 (.string s) (.int .i64 (k : Int))).run Tryd.prog W = .ok (.int .u8 45) W := hix
        rcases hq5 with rfl | rfl | rfl | rfl | rfl
        · go_wp2_with (refine (smallF_any 45 _ rfl _).mono ?_; rintro e w' ⟨rfl, rfl⟩)
          go_ret
          exact ⟨retB (by rw [hRB.out, hstop.out rfl]; rfl), rfl⟩
        · go_wp2_with (refine (smallF_any 45 _ rfl _).mono ?_; rintro e w' ⟨rfl, rfl⟩)
          go_round
          case rel => exact ⟨k + 1, 4, by omega, by omega, rfl, by go_num, box (hstep.out 4 rfl)⟩
          case measure => simp [intOf]; omega
        · go_wp2_with (refine (smallF_any 45 _ rfl _).mono ?_; rintro e w' ⟨rfl, rfl⟩)
          go_ret
          exact ⟨retB (by rw [hRB.out, hstop.out rfl]; rfl), rfl⟩
        · go_wp2_with (refine (smallF_any 45 _ rfl _).mono ?_; rintro e w' ⟨rfl, rfl⟩)
          go_ret
          exact ⟨retB (by rw [hRB.out, hstop.out rfl]; rfl), rfl⟩
        · go_wp2_with (refine (smallF_any 45 _ rfl _).mono ?_; rintro e w' ⟨rfl, rfl⟩)
          go_round
          case rel => exact ⟨k + 1, 4, by omega, by omega, rfl, by go_num, box (hstep.out 4 rfl)⟩
          case measure => simp [intOf]; omega
      · have hsm := hot.1
        have e47 : ((c.toNat : Int) == 47) = false := u8_ne (d := 47) hot.2.1
        have e46 : ((c.toNat : Int) == 46) = false := u8_ne (d := 46) hot.2.2.1
        have e95 : ((c.toNat : Int) == 95) = false := u8_ne (d := 95) hot.2.2.2.1
        have e45 : ((c.toNat : Int) == 45) = false := u8_ne (d := 45) hot.2.2.2.2
        have hst := box (step_other (q := q) hot)
        clear hot
        go_wp2_with (refine (smallF_any c _ rfl _).mono ?_; rintro e w' ⟨rfl, rfl⟩)
        go_ret
        exact ⟨retB (by rw [hRB.out, hstop.out hst.out]; rfl), rfl⟩
    · have hfin : Box (acc 0 s.data.toList = (q == 1)) := box (by rw [hA.out, List.drop_of_length_le (by rw [str_len]; omega)]; rfl)
      clear hA
      cases h1 : (q == 1) with
      | true =>
        obtain rfl : q = 1 := by simpa using h1
        by_cases hle : s.size ≤ 128
        all_goals
          go_wp2
          go_ret
          exact ⟨retB (by rw [hRB.out, hfin.out]; simp; omega), rfl⟩
      | false =>
        have hne : ((q : Int) == 1) = false := by rw [beq_eq_false_iff_ne] at h1 ⊢; omega
        go_wp2
        go_ret
        exact ⟨retB (by rw [hRB.out, hfin.out, h1]; rfl), rfl⟩
end Go.Proofs.YtpdbjhgphgcjoaaDoor

namespace Go.Proofs
open Go.Shelf
def Tryd.lays99_ren : Go.Shelf.Ren := ⟨fun | 99 => 50 | 206 => 55 | n => n, fun | 9 => 9 | 4 => 4 | 3 => 3 | n => n, fun | n => n⟩
theorem Tryd.lays99 : Go.Proofs.Lays.n99 Tryd.prog Tryd.lays99_ren := {
  mixed := by kernel_rfl
  f99 := Tryd.func50.trans (congrArg some (by kernel_rfl))
  f206 := Tryd.func55.trans (congrArg some (by kernel_rfl))
  t3 := Tryd.underlying3
  a3 := Tryd.isAgg3
  z3 := Tryd.sizeOf3
  v3 := Tryd.zeroValue3
  t4 := Tryd.underlying4
  a4 := Tryd.isAgg4
  z4 := Tryd.sizeOf4
  v4 := Tryd.zeroValue4
  t9 := Tryd.underlying9
  a9 := Tryd.isAgg9
  z9 := Tryd.sizeOf9
  v9 := Tryd.zeroValue9 }
open Go.RowKit Go.Lib in
theorem Tryd.strings_HasPrefix (s p : ByteArray) (w : World) :
    Calls Tryd.prog 50 #[.string s, .string p] w fun e w' => e = .returned (.bool (Lib.hasPrefix s.data.toList p.data.toList)) ∧ w' = w := Any.strings_HasPrefix Tryd.lays99 s p w
def Tryd.lays146_ren : Go.Shelf.Ren := ⟨fun | 146 => 37 | 221 => 44 | 268 => 47 | 138 => 48 | 143 => 49 | 195 => 51 | 197 => 52 | 218 => 53 | 219 => 54 | 260 => 56 | 217 => 57 | 225 => 58 | 224 => 59 | 267 => 60 | 266 => 61 | 314 => 62 | n => n, fun | 9 => 9 | 31 => 71 | 3 => 3 | 4 => 4 | 0 => 0 | 105 => 83 | 21 => 21 | 5 => 5 | 46 => 70 | 119 => 87 | 139 => 90 | 138 => 89 | 146 => 92 | 51 => 91 | n => n, fun | 1 => 0 | 3 => 1 | 4 => 2 | n => n⟩
theorem Tryd.lays146 : Go.Proofs.Lays.n146 Tryd.prog Tryd.lays146_ren := {
  mixed := by kernel_rfl
  f138 := Tryd.func48.trans (congrArg some (by kernel_rfl))
  f143 := Tryd.func49.trans (congrArg some (by kernel_rfl))
  f146 := Tryd.func37.trans (congrArg some (by kernel_rfl))
  f195 := Tryd.func51.trans (congrArg some (by kernel_rfl))
  f197 := Tryd.func52.trans (congrArg some (by kernel_rfl))
  f217 := Tryd.func57.trans (congrArg some (by kernel_rfl))
  f218 := Tryd.func53.trans (congrArg some (by kernel_rfl))
  f219 := Tryd.func54.trans (congrArg some (by kernel_rfl))
  f221 := Tryd.func44.trans (congrArg some (by kernel_rfl))
  f224 := Tryd.func59.trans (congrArg some (by kernel_rfl))
  f225 := Tryd.func58.trans (congrArg some (by kernel_rfl))
  f260 := Tryd.func56.trans (congrArg some (by kernel_rfl))
  f266 := Tryd.func61.trans (congrArg some (by kernel_rfl))
  f267 := Tryd.func60.trans (congrArg some (by kernel_rfl))
  f268 := Tryd.func47.trans (congrArg some (by kernel_rfl))
  f314 := Tryd.func62.trans (congrArg some (by kernel_rfl))
  t0 := Tryd.underlying0
  a0 := Tryd.isAgg0
  z0 := Tryd.sizeOf0
  v0 := Tryd.zeroValue0
  t3 := Tryd.underlying3
  a3 := Tryd.isAgg3
  z3 := Tryd.sizeOf3
  v3 := Tryd.zeroValue3
  t4 := Tryd.underlying4
  a4 := Tryd.isAgg4
  z4 := Tryd.sizeOf4
  v4 := Tryd.zeroValue4
  t5 := Tryd.underlying5
  a5 := Tryd.isAgg5
  z5 := Tryd.sizeOf5
  v5 := Tryd.zeroValue5
  t9 := Tryd.underlying9
  a9 := Tryd.isAgg9
  z9 := Tryd.sizeOf9
  v9 := Tryd.zeroValue9
  t21 := Tryd.underlying21
  a21 := Tryd.isAgg21
  z21 := Tryd.sizeOf21
  v21 := Tryd.zeroValue21
  t31 := Tryd.underlying71
  a31 := Tryd.isAgg71
  z31 := Tryd.sizeOf71
  v31 := Tryd.zeroValue71
  t46 := Tryd.underlying70
  a46 := Tryd.isAgg70
  z46 := Tryd.sizeOf70
  v46 := Tryd.zeroValue70
  t51 := Tryd.underlying91
  a51 := Tryd.isAgg91
  z51 := Tryd.sizeOf91
  v51 := Tryd.zeroValue91
  t105 := Tryd.underlying83
  a105 := Tryd.isAgg83
  z105 := Tryd.sizeOf83
  v105 := Tryd.zeroValue83
  t119 := Tryd.underlying87
  a119 := Tryd.isAgg87
  z119 := Tryd.sizeOf87
  t138 := Tryd.underlying89
  a138 := Tryd.isAgg89
  z138 := Tryd.sizeOf89
  v138 := Tryd.zeroValue89
  t139 := Tryd.underlying90
  a139 := Tryd.isAgg90
  z139 := Tryd.sizeOf90
  v139 := Tryd.zeroValue90
  t146 := Tryd.underlying92
  a146 := Tryd.isAgg92
  z146 := Tryd.sizeOf92
  v146 := Tryd.zeroValue92
  g1 := by kernel_rfl
  g3 := by kernel_rfl
  g4 := by kernel_rfl }
open Go.RowKit Go.Lib in
theorem Tryd.strings_Split (s sep : ByteArray) (m : Int) (w : World) (hs : s.size < 4294967281) (hm : w.cell? ⟨0, 0, none⟩ = some (.int .i64 m)) (h1 : 1 ≤ sep.size) :
    Calls Tryd.prog 37 #[.string s, .string sep] w fun e w' =>
      e = .returned (.slice (some ⟨w.heap.size, 0, none⟩) (Lib.countB s sep + 1) (Lib.countB s sep + 1)) ∧ w' = w.alloc (.cells ((Lib.splitB sep 0 (Lib.countB s sep) s).map Value.string).toArray 9) := Any.strings_Split Tryd.lays146 (by kernel_rfl) s sep m w hs hm h1
end Go.Proofs
