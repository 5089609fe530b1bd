/-
  Layer 19 in plain words: the reply that bytes are. No program is named here.
  The walk of octet.ReadCount.
  Layer 19: the walks of the program's reader.
  The walk of octet.ReadText.
-/
import Derived.Test.YtcnjnkkdidpjiaaJ07
import Derived.Test.YtcnjnkkdidpjiaaJ10
import Derived.Test.YtcnjnkkdidpjiaaJ02
import Derived.Test.YtcnjnkkdidpjiaaJ06
namespace Go.Proofs.Ytcnjnkkdidpjiaa
open Go.RowKit

def rWords : Nat → Option (List UInt8) → List ByteArray × Option (List UInt8)
  | 0, s => ([], s)
  | _ + 1, none => ([], none)
  | k + 1, some l => (⟨(rText 128 (some l)).1.toArray⟩ :: (rWords k (rText 128 (some l)).2).1, (rWords k (rText 128 (some l)).2).2)
def rSums : Nat → Option (List UInt8) → List (List UInt8) × Option (List UInt8)
  | 0, s => ([], s)
  | _ + 1, none => ([], none)
  | k + 1, some l => ((rSum (some l)).1 :: (rSums k (rSum (some l)).2).1, (rSums k (rSum (some l)).2).2)
theorem rWords_none (k : Nat) : rWords k none = ([], none) := by cases k <;> rfl
theorem rSums_none (k : Nat) : rSums k none = ([], none) := by cases k <;> rfl
/-- In the loop: k are taken, these are they, and this is left. -/
def WAt (n : Nat) (s0 : Option (List UInt8)) (k : Nat) (ws : List ByteArray) (s : Option (List UInt8)) : Prop :=
  rWords n s0 = (ws ++ (rWords (n - k) s).1, (rWords (n - k) s).2) ∧ ws.length = k
def SAt (n : Nat) (s0 : Option (List UInt8)) (k : Nat) (ws : List (List UInt8)) (s : Option (List UInt8)) : Prop :=
  rSums n s0 = (ws ++ (rSums (n - k) s).1, (rSums (n - k) s).2) ∧ ws.length = k ∧ sums32 ws
theorem WAt.zero (n : Nat) (s : Option (List UInt8)) : WAt n s 0 [] s := ⟨by simp, rfl⟩
theorem SAt.zero (n : Nat) (s : Option (List UInt8)) : SAt n s 0 [] s := ⟨by simp, rfl, fun _ h => by cases h⟩
theorem WAt.step {n k : Nat} {s0 : Option (List UInt8)} {ws : List ByteArray} {l : List UInt8} (h : WAt n s0 k ws (some l)) (hk : k < n) : WAt n s0 (k + 1) (ws ++ [⟨(rText 128 (some l)).1.toArray⟩]) (rText 128 (some l)).2 := by
  obtain ⟨h1, h2⟩ := h
  refine ⟨?_, by simp [h2]⟩
  rw [h1, show n - k = (n - (k + 1)) + 1 by omega, rWords]
  simp
theorem SAt.step {n k : Nat} {s0 : Option (List UInt8)} {ws : List (List UInt8)} {l : List UInt8} (h : SAt n s0 k ws (some l)) (hk : k < n) : SAt n s0 (k + 1) (ws ++ [(rSum (some l)).1]) (rSum (some l)).2 := by
  obtain ⟨h1, h2, h3⟩ := h
  refine ⟨?_, by simp [h2], fun s hs => ?_⟩
  · rw [h1, show n - k = (n - (k + 1)) + 1 by omega, rSums]
    simp
  · rcases List.mem_append.1 hs with hs | hs
    · exact h3 s hs
    · rw [List.mem_singleton] at hs; subst hs; exact rSum_len _
theorem WAt.all {n k : Nat} {s0 s : Option (List UInt8)} {ws : List ByteArray} (h : WAt n s0 k ws s) (hk : n ≤ k) : rWords n s0 = (ws, s) := by
  rw [h.1, Nat.sub_eq_zero_of_le hk]; simp [rWords]
theorem WAt.none_ {n k : Nat} {s0 : Option (List UInt8)} {ws : List ByteArray} (h : WAt n s0 k ws none) : rWords n s0 = (ws, none) := by
  rw [h.1, rWords_none]; simp
theorem SAt.all {n k : Nat} {s0 s : Option (List UInt8)} {ws : List (List UInt8)} (h : SAt n s0 k ws s) (hk : n ≤ k) : rSums n s0 = (ws, s) := by
  rw [h.1, Nat.sub_eq_zero_of_le hk]; simp [rSums]
theorem SAt.none_ {n k : Nat} {s0 : Option (List UInt8)} {ws : List (List UInt8)} (h : SAt n s0 k ws none) : rSums n s0 = (ws, none) := by
  rw [h.1, rSums_none]; simp
theorem rSums_32 : ∀ (n : Nat) (s : Option (List UInt8)), sums32 (rSums n s).1
  | 0, s => fun _ h => by cases h
  | n + 1, none => fun _ h => by cases h
  | n + 1, some l => fun u hu => by
    rcases List.mem_cons.1 hu with rfl | hu
    · exact rSum_len _
    · exact rSums_32 n _ u hu

/-- The reply behind its first byte, as it is taken off. -/
structure TookP where
  d : List UInt8 × Option (List UInt8)
  n : Nat × Option (List UInt8)
  m : Nat × Option (List UInt8)
  b : List UInt8 × Option (List UInt8)
  k : Nat × Option (List UInt8)
  ws : List ByteArray × Option (List UInt8)
  j : Nat × Option (List UInt8)
  ss : List (List UInt8) × Option (List UInt8)
def tookP (l : List UInt8) : TookP :=
  let d := rSum (some l)
  let n := rCount d.2
  let m := rCount n.2
  let b := rText 1048576 m.2
  let k := rCount b.2
  let ws := rWords k.1 k.2
  let j := rCount ws.2
  ⟨d, n, m, b, k, ws, j, rSums j.1 j.2⟩
def TookP.rep (c : UInt8) (t : TookP) : Rep := ⟨c.toNat, t.d.1, t.n.1, t.m.1, t.b.1, t.ws.1, t.ss.1⟩
def decRep : List UInt8 → Option Rep
  | [] => none
  | c :: l => if 100 < (tookP l).k.1 then none else if 4096 < (tookP l).j.1 then none else if (tookP l).ss.2 = some [] then some ((tookP l).rep c) else none
/-- What is known of the memory of a reply of the call's own. -/
def RepEs (b : Nat) (tb ts td : TypeId) (r : Rep) (A B C : Option Addr) (c cb cc : Nat) : List Ent :=
  [.own b tb 1 (.slice A r.body.length c) r.body.length (r.body.map bv), .own b ts 1 (.slice B r.words.length cb) r.words.length (r.words.map Value.string), .own b td 32 (.slice C r.sums.length cc) r.sums.length (sumC r.sums)]
/-- What a call that reads a reply hands back. -/
def ToldRep (w : World) (tb ts td : TypeId) (r : Option Rep) (e : Ending) (w' : World) : Prop :=
  ∃ A B C c cb cc, e = .returned (.tuple #[.agg ((r.getD Rep.zero).cells A B C c cb cc).toArray, .int .i64 (if r.isSome = true then 0 else 10)]) ∧ Fr [] w w' (RepEs w.heap.size tb ts td (r.getD Rep.zero) A B C c cb cc)
theorem told_none {w w' : World} {tb ts td : TypeId} {es : List Ent} (h : Fr [] w w' es) : Fr [] w w' (RepEs w.heap.size tb ts td Rep.zero none none none 0 0 0) := by
  have h0 : Fr [] w w' [] := ⟨h.os, h.tape, h.output, h.size, h.block, fun i e h => by simp at h, fun i e h => by simp at h, fun i j e f h => by simp at h⟩
  exact ((h0.none_ _ _ _).none_ _ _ _).none_ _ _ _
theorem tookP_32 (l : List UInt8) : (tookP l).d.1.length = 32 ∧ sums32 (tookP l).ss.1 := ⟨rSum_len _, rSums_32 _ _⟩
end Go.Proofs.Ytcnjnkkdidpjiaa

namespace Go.Proofs.Ytcnjnkkdidpjiaa
open Go.RowKit

set_option maxRecDepth 20000 in
set_option maxHeartbeats 400000 in
theorem readCount_any (A : Option Addr) (n c : Nat) (l : List UInt8) (w : World) (hm : n ≤ 9223372036854775807) (hr : Rd w (· < w.heap.size) A 1 n (l.map bv)) :
    Calls Try.prog 39 #[.slice A n c] w fun e w' => e = .returned (.tuple #[.int .u64 (rdc 0 0 l).1, .int .i64 (rdc 0 0 l).2.1, .int .i64 (rdc 0 0 l).2.2]) ∧ w = w' := by
  have hl := box hr.bytes_len
  go_enter Try.func39, Try.ntmps39
  go_wp2
  go_loop [5, 10] (fun x i => ∃ k C : Nat, k ≤ 9 ∧ k ≤ n ∧ Box (RdcAt l k C) ∧ i = .int .i64 k ∧ x = .int .u64 (C : Nat)) (fun _ i => n - (intOf i).toNat)
  case atStart => exact ⟨0, 0, by omega, by omega, box ⟨by omega, by simp, by simp⟩, rfl, rfl⟩
  case round =>
    obtain ⟨k, C, hk9, hk, HR, rfl, rfl⟩ := hrel
    by_cases hlt : k < n
    · obtain ⟨d, hd⟩ : ∃ d, l[k]? = some d := ⟨l[k]'(by have := hl.out; omega), by simp⟩
      have hs := rdc_step HR.out hd
      replace hd := box hd
      have dlt : d.toNat < 256 := d.toNat_lt
      have h127 := and127 d
      by_cases hA : (k = 9 ∧ 1 < d.toNat) ∨ (0 < k ∧ d.toNat = 0)
      · rw [if_pos hA] at hs
        have hs' := box hs
        clear hs
        rcases hA with ⟨h1, h2⟩ | ⟨h1, h2⟩
        · go_wp2_with (first | (with_reducible refine lst (by with_unfolding_all rfl) (wp_indexAddr T_u8 hr (by with_unfolding_all exact ⟨_, _, _, _, rfl, rfl, rfl⟩) (by omega) (by omega) ?_)) | (with_reducible refine lst (by with_unfolding_all rfl) (wp_loadC hr hd Try.underlying5 rfl (by with_unfolding_all exact ⟨_, rfl, rfl⟩) (by first | (simp; done) | (simp; omega) | omega) ?_)))
          go_ret3
          exact ⟨by rw [hs'.out]; rfl, rfl⟩
        · by_cases h9 : k = 9
          all_goals
            go_wp2_with (first | (with_reducible refine lst (by with_unfolding_all rfl) (wp_indexAddr T_u8 hr (by with_unfolding_all exact ⟨_, _, _, _, rfl, rfl, rfl⟩) (by omega) (by omega) ?_)) | (with_reducible refine lst (by with_unfolding_all rfl) (wp_loadC hr hd Try.underlying5 rfl (by with_unfolding_all exact ⟨_, rfl, rfl⟩) (by first | (simp; done) | (simp; omega) | omega) ?_)))
            go_ret3
            exact ⟨by rw [hs'.out]; rfl, rfl⟩
      · rw [if_neg hA] at hs
        obtain ⟨T, hT⟩ : ∃ T, T = d.toNat % 128 * 2 ^ (7 * k) := ⟨_, rfl⟩
        rw [← hT] at hs
        have hT1 := rdc_shift d k T hk9 (fun h => by omega) hT
        have hO := rdc_or C T k d HR.out.2.1 hT1.2 hT hk9
        replace hT1 := hT1.1
        replace hT := box hT
        by_cases hd8 : d.toNat < 128
        · rw [if_pos hd8] at hs
          replace hs := box hs
          have hz : ((d.toNat : Int) == 0) = true ∧ ¬ 0 < k ∨ ((d.toNat : Int) == 0) = false := by
            by_cases h0 : d.toNat = 0
            · exact .inl ⟨by simp [h0], by omega⟩
            · exact .inr (by simp; omega)
          have h9 : ((k : Int) == 9) = true ∧ ¬ 1 < (d.toNat : Int) ∨ ((k : Int) == 9) = false := by
            by_cases h0 : k = 9
            · exact .inl ⟨by simp; omega, by omega⟩
            · exact .inr (by simp; omega)
          replace hA := box hA
          rcases hz with ⟨hz, hk0⟩ | hz <;> rcases h9 with ⟨h9, hd1⟩ | h9
          all_goals
            go_wp2_with (first | (with_reducible refine lst (by with_unfolding_all rfl) (wp_indexAddr T_u8 hr (by with_unfolding_all exact ⟨_, _, _, _, rfl, rfl, rfl⟩) (by omega) (by omega) ?_)) | (with_reducible refine lst (by with_unfolding_all rfl) (wp_loadC hr hd Try.underlying5 rfl (by with_unfolding_all exact ⟨_, rfl, rfl⟩) (by first | (simp; done) | (simp; omega) | omega) ?_)))
            go_ret3
            exact ⟨by rw [hs.out]; rfl, rfl⟩
        · rw [if_neg hd8] at hs
          have hkn : k + 1 ≤ 9 := by omega
          have h9 : ((k : Int) == 9) = false := by simp; omega
          replace hs : Box (RdcAt l (k + 1) (C + T)) := box ⟨hkn, rdc_next HR.out.2.1 hT.out, hs⟩
          replace hA := box hA
          go_wp2_with (first | (with_reducible refine lst (by with_unfolding_all rfl) (wp_indexAddr T_u8 hr (by with_unfolding_all exact ⟨_, _, _, _, rfl, rfl, rfl⟩) (by omega) (by omega) ?_)) | (with_reducible refine lst (by with_unfolding_all rfl) (wp_loadC hr hd Try.underlying5 rfl (by with_unfolding_all exact ⟨_, rfl, rfl⟩) (by first | (simp; done) | (simp; omega) | omega) ?_)))
          go_round
          case rel => exact ⟨k + 1, C + T, hkn, by omega, hs, by go_num, rfl⟩
          case measure => simp [intOf]; omega
    · have hs := HR.out.2.2
      rw [List.drop_of_length_le (by have := hl.out; omega), rdc] at hs
      replace hs := box hs
      go_wp2
      go_ret3
      exact ⟨by rw [hs.out]; rfl, rfl⟩
end Go.Proofs.Ytcnjnkkdidpjiaa

namespace Go.Proofs.Ytcnjnkkdidpjiaa
open Go.RowKit

set_option maxRecDepth 20000 in
set_option maxHeartbeats 800000 in
theorem rdCount_any (B g N : Nat) (s : Option (List UInt8)) (cs : List Value) (w0 w : World) (hb : Below B w0 w) (hB : B ≤ w0.heap.size) (hh : w.heap[g]? = some (.cells cs.toArray 72 (0, 0))) (hR : RdrAt w0 B N s cs) (hN : N ≤ 140737488355000) :
    Calls Try.prog 33 #[.pointer (some ⟨g, 0, none⟩)] w (Left w 72 g (.int .i64 (rCount s).1) (RdrAt w0 B N (rCount s).2)) := by
  obtain ⟨A, n, c, l, ok, rfl, hr0, hnc, hn, hs⟩ := hR.ex
  have hF := Fr.one hh
  have hrB := hr0.below hb
  have hBw : B ≤ w.heap.size := Nat.le_trans hB hb.size
  have hr := hrB.wide hBw
  have hrc := box (readCount_any A n c l w (by omega) hr)
  have hl := hr.bytes_len
  cases ok with
  | false =>
    obtain rfl : s = none := hs.out
    go_enter Try.func33, Try.ntmps33
    go_wp2_with (first | (with_reducible refine lst (by with_unfolding_all rfl) (wp_fld0 hF Try.underlying23 rfl (by with_unfolding_all exact ⟨_, rfl, rfl⟩) (by first | with_unfolding_all rfl | assumption) ?_)))
    refine hrc.out.mono ?_
    rintro e w1 ⟨rfl, rfl⟩
    go_wp2_with (first | (with_reducible refine lst (by with_unfolding_all rfl) (wp_fld0 hF Try.underlying23 rfl (by with_unfolding_all exact ⟨_, rfl, rfl⟩) (by first | with_unfolding_all rfl | assumption) ?_)) | (with_reducible refine lst (by with_unfolding_all rfl) (wp_fld0 hF Try.underlying4 rfl (by with_unfolding_all exact ⟨_, rfl, rfl⟩) (by first | with_unfolding_all rfl | assumption) ?_)) | ((with_reducible refine lst (by with_unfolding_all rfl) (wp_fst0 hF (by with_unfolding_all exact ⟨_, _, rfl, rfl, rfl⟩) (by kernel_rfl) rfl rfl (by first | decide | (simp; done) | (simp; omega)) rfl ?_)); intro w1 hF1 hz1))
    go_ret
    exact ⟨_, rfl, hF1.grown, hF1.heap0, ⟨A, n, c, l, false, rfl, hr0, hnc, hn, box rfl⟩⟩
  | true =>
    obtain rfl : s = some l := hs.out
    have hrd : rCount (some l) = if (rdc 0 0 l).2.2 ≠ 0 ∨ 1099511627776 < (rdc 0 0 l).1 then (0, none) else ((rdc 0 0 l).1, some (l.drop (rdc 0 0 l).2.1)) := rfl
    have h64 := box (rdc_lt l)
    have herr := rdc_err l 0 0
    have hu := rdc_used l 0 0
    rw [hl] at hu
    generalize (rdc 0 0 l).1 = x at *
    generalize (rdc 0 0 l).2.1 = u at *
    generalize (rdc 0 0 l).2.2 = er at *
    have herr' : er ≤ 10 := by omega
    clear herr
    by_cases h0 : er = 0
    · subst h0
      have hun : u ≤ n := by have := hu rfl; omega
      clear hu
      by_cases hx : 1099511627776 < x
      · rw [if_pos (.inr hx)] at hrd
        rw [hrd]
        clear hrd
        go_enter Try.func33, Try.ntmps33
        go_wp2_with (first | (with_reducible refine lst (by with_unfolding_all rfl) (wp_fld0 hF Try.underlying23 rfl (by with_unfolding_all exact ⟨_, rfl, rfl⟩) (by first | with_unfolding_all rfl | assumption) ?_)))
        refine hrc.out.mono ?_
        rintro e w1 ⟨rfl, rfl⟩
        go_wp2_with (first | (with_reducible refine lst (by with_unfolding_all rfl) (wp_fld0 hF Try.underlying23 rfl (by with_unfolding_all exact ⟨_, rfl, rfl⟩) (by first | with_unfolding_all rfl | assumption) ?_)) | (with_reducible refine lst (by with_unfolding_all rfl) (wp_fld0 hF Try.underlying4 rfl (by with_unfolding_all exact ⟨_, rfl, rfl⟩) (by first | with_unfolding_all rfl | assumption) ?_)) | ((with_reducible refine lst (by with_unfolding_all rfl) (wp_fst0 hF (by with_unfolding_all exact ⟨_, _, rfl, rfl, rfl⟩) (by kernel_rfl) rfl rfl (by first | decide | (simp; done) | (simp; omega)) rfl ?_)); intro w1 hF1 hz1))
        go_ret
        exact ⟨_, rfl, hF1.grown, hF1.heap0, ⟨A, n, c, l, false, rfl, hr0, hnc, hn, box rfl⟩⟩
      · rw [if_neg (by omega)] at hrd
        rw [hrd]
        clear hrd
        go_enter Try.func33, Try.ntmps33
        go_wp2_with (first | (with_reducible refine lst (by with_unfolding_all rfl) (wp_fld0 hF Try.underlying23 rfl (by with_unfolding_all exact ⟨_, rfl, rfl⟩) (by first | with_unfolding_all rfl | assumption) ?_)))
        refine hrc.out.mono ?_
        rintro e w1 ⟨rfl, rfl⟩
        go_wp2_with (first | (with_reducible refine lst (by with_unfolding_all rfl) (wp_fld0 hF Try.underlying23 rfl (by with_unfolding_all exact ⟨_, rfl, rfl⟩) (by first | with_unfolding_all rfl | assumption) ?_)) | (with_reducible refine lst (by with_unfolding_all rfl) (wp_fld0 hF Try.underlying4 rfl (by with_unfolding_all exact ⟨_, rfl, rfl⟩) (by first | with_unfolding_all rfl | assumption) ?_)) | ((with_reducible refine lst (by with_unfolding_all rfl) (wp_fst0 hF (by with_unfolding_all exact ⟨_, _, rfl, rfl, rfl⟩) (by kernel_rfl) rfl rfl (by first | decide | (simp; done) | (simp; omega)) rfl ?_)); intro w1 hF1 hz1) | ((with_reducible refine lst (by with_unfolding_all rfl) (wp_cutB T_u8 hrB hnc (lo := (some (u:Int))) (hi := none) (mx := none) ?_ (l := u) (h := n) (m := c) (by first | (simp; done) | (simp; omega)) (by first | (simp; done) | (simp; omega)) (by first | (simp; done) | (simp; omega)) (by simp) (by omega) (by omega) (by omega) (by omega) ?_)); exact ⟨_, _, _, _, .i64, .i64, .i64, rfl, rfl, rfl, rfl, rfl⟩; intro A2 c2 hr2 hc2 hc3))
        go_ret
        rw [List.take_of_length_le (by omega)] at hr2
        exact ⟨_, ret1 (int_eq (by omega)), hF1.grown, hF1.heap0, ⟨A2, n - u, c2, l.drop u, true, rfl, hr2.same (fun k hk => (hb.block k hk).symm), hc2, by omega, box rfl⟩⟩
    · have hne : ((er : Int) != 0) = true := by simp; omega
      rw [if_pos (.inl h0)] at hrd
      rw [hrd]
      clear hrd hu
      go_enter Try.func33, Try.ntmps33
      go_wp2_with (first | (with_reducible refine lst (by with_unfolding_all rfl) (wp_fld0 hF Try.underlying23 rfl (by with_unfolding_all exact ⟨_, rfl, rfl⟩) (by first | with_unfolding_all rfl | assumption) ?_)))
      refine hrc.out.mono ?_
      rintro e w1 ⟨rfl, rfl⟩
      go_wp2_with (first | (with_reducible refine lst (by with_unfolding_all rfl) (wp_fld0 hF Try.underlying23 rfl (by with_unfolding_all exact ⟨_, rfl, rfl⟩) (by first | with_unfolding_all rfl | assumption) ?_)) | (with_reducible refine lst (by with_unfolding_all rfl) (wp_fld0 hF Try.underlying4 rfl (by with_unfolding_all exact ⟨_, rfl, rfl⟩) (by first | with_unfolding_all rfl | assumption) ?_)) | ((with_reducible refine lst (by with_unfolding_all rfl) (wp_fst0 hF (by with_unfolding_all exact ⟨_, _, rfl, rfl, rfl⟩) (by kernel_rfl) rfl rfl (by first | decide | (simp; done) | (simp; omega)) rfl ?_)); intro w1 hF1 hz1))
      go_ret
      exact ⟨_, rfl, hF1.grown, hF1.heap0, ⟨A, n, c, l, false, rfl, hr0, hnc, hn, box rfl⟩⟩
end Go.Proofs.Ytcnjnkkdidpjiaa

namespace Go.Proofs.Ytcnjnkkdidpjiaa
open Go.RowKit

set_option maxRecDepth 20000 in
set_option maxHeartbeats 800000 in
theorem readText_any (A : Option Addr) (n c : Nat) (l : List UInt8) (most : Int) (w : World) (hm : n ≤ 140737488355000) (hnc : n ≤ c) (hmo : most ≤ 9223372036854775807) (hr : Rd w (· < w.heap.size) A 1 n (l.map bv)) :
    Calls Try.prog 38 #[.slice A n c, .int .i64 most] w fun e w' => ∃ v, e = .returned (.tuple #[v, .int .i64 (rdt l most).2.1, .int .i64 (rdt l most).2.2]) ∧ OwnB w' w.heap.size 5 v (rdt l most).1 ∧ Below w.heap.size w w' := by
  have hrc := box (readCount_any A n c l w (by omega) hr)
  have hway := rdt_way hr.bytes_len most
  have h64 := box (rdc_lt l)
  have herr := rdc_err l 0 0
  generalize (rdc 0 0 l).1 = x at *
  generalize (rdc 0 0 l).2.1 = u at *
  generalize (rdc 0 0 l).2.2 = er at *
  generalize rdt l most = r at *
  have herr' : er ≤ 10 := by omega
  clear herr
  rcases hway.way with ⟨h0, rfl⟩ | ⟨rfl, hu, ⟨h1, rfl⟩ | ⟨h1, ⟨h2, rfl⟩ | ⟨h2, rfl⟩⟩⟩
  · clear hway
    have hne : ((er : Int) != 0) = true := by simp; omega
    go_enter Try.func38, Try.ntmps38
    go_wp2_with fail
    refine hrc.out.mono ?_
    rintro e w1 ⟨rfl, rfl⟩
    go_wp2
    go_ret3
    exact ⟨_, rfl, OwnB.nil _ _ _, Below.refl _ _⟩
  · clear hway
    by_cases hmn : most < 0
    · go_enter Try.func38, Try.ntmps38
      go_wp2_with fail
      refine hrc.out.mono ?_
      rintro e w1 ⟨rfl, rfl⟩
      go_wp2
      go_ret3
      exact ⟨_, rfl, OwnB.nil _ _ _, Below.refl _ _⟩
    · go_enter Try.func38, Try.ntmps38
      go_wp2_with fail
      refine hrc.out.mono ?_
      rintro e w1 ⟨rfl, rfl⟩
      go_wp2
      go_ret3
      exact ⟨_, rfl, OwnB.nil _ _ _, Below.refl _ _⟩
  · clear hway
    have hmn : ¬ most < 0 := by omega
    go_enter Try.func38, Try.ntmps38
    go_wp2_with fail
    refine hrc.out.mono ?_
    rintro e w1 ⟨rfl, rfl⟩
    go_wp2
    go_ret3
    exact ⟨_, rfl, OwnB.nil _ _ _, Below.refl _ _⟩
  · clear hway
    have hmn : ¬ most < 0 := by omega
    have hr' := hr.mapB (k := u) (j := x) (by omega)
    have hb0 := Below.refl w.heap.size w
    have hB0 := Nat.le_refl w.heap.size
    go_enter Try.func38, Try.ntmps38
    go_wp2_with fail
    refine hrc.out.mono ?_
    rintro e w1 ⟨rfl, rfl⟩
    have hn0 : ([] : List UInt8).length + (u + x - u) ≤ 140737488355328 := by simp; omega
    go_wp2_with (first | ((with_reducible refine lst (by with_unfolding_all rfl) (wp_build0 T_u8 hb0 hB0 (by with_unfolding_all rfl) ?_)); intro v1 w1 hown1 hb1 hB1 hg1) | (at_builtin; go_must (with_reducible refine lst (by with_unfolding_all rfl) (wp_appB T_u8 hown1 hb1 hr2 (by with_unfolding_all exact ⟨_, _, rfl, rfl, rfl⟩) hn0 hB1 ?_); intro v' w1 hown1 hb1 hg1 hB1)) | ((with_reducible refine lst (by with_unfolding_all rfl) (wp_cutB T_u8 (hr.below hb1) hnc (lo := (some (u:Int))) (hi := (some ((u:Int)+(x:Int)))) (mx := (some ((u:Int)+(x:Int)))) ?_ (l := u) (h := (u+x)) (m := (u+x)) (by first | (simp; done) | (simp; omega)) (by first | (simp; done) | (simp; omega)) (by first | (simp; done) | (simp; omega)) (by simp) (by omega) (by omega) (by omega) (by omega) ?_)); exact ⟨_, _, _, _, .i64, .i64, .i64, rfl, rfl, rfl, rfl, rfl⟩; intro A2 c2 hr2 hc2 hc3))
    go_ret3
    rw [List.nil_append, List.drop_take, Nat.add_sub_cancel_left] at hown1
    exact ⟨v', ret3 rfl (int_eq (by simp)) rfl, hown1, hb1⟩
end Go.Proofs.Ytcnjnkkdidpjiaa
