/-
 Layer 6: the walk of the program's Parse: faults are caught.
 Layer 6: Parse within a frame.
 Layer 6: values that are read, short laws.
 Layer 6: the walk of the program's has.
 Layer 6: which values are right, in plain words; the walk of the program's right.
 Layer 6, plain: a member is smaller than the value.
 A text appended to bytes that the call owns, over a frame of known blocks. No program is named here.
 A sign of a text, by its place: the laws of the operation. No program is named here.
 Layer 6: what is written, in plain words; the walk of the program's quoted.
 Layer 6: values as they are written: in plain words; the walk of the program's written.
 Layer 6: the walk of the program's right: lists and objects.
 Layer 6: a value that came in. No program is named here.
 Layer 7 in plain words: names of repositories, tags, media types. No program is named here.
 Layer 7 in plain words, further: where a sign stands first; pieces; tags; media types. No program is named here.
 Layer 1: plain laws on counts. No program is named here.
 Layer 1: plain laws on digits, numbers and texts. No program is named here.
 Layer 2 in plain words, as far as layer 7 needs it: the text of a sum. No program is named here.
-/
import Derived.Test.YtlhicfpmlncomaaGreatDoorQ10
import Derived.Test.YtlhicfpmlncomaaGreatDoorQ03
import Derived.Defers
import Derived.Recover
import Derived.Test.YtlhicfpmlncomaaGreatDoorQ01
import Derived.Test.YtlhicfpmlncomaaGreatDoorQ05
import Derived.Lib.AppendStr
import Derived.Test.YtlhicfpmlncomaaGreatDoorQ08
import Derived.Lib.Split
import Derived.Lib.IndexMore
import Derived.Lib.SplitLaws
import Derived.Test.YtlhicfpmlncomaaGreatDoorQ02
namespace Go.Proofs.YtlhicfpmlncomaaGreatDoor
open Go.RowKit
set_option linter.unusedSimpArgs false
section
variable {P : Program} {X : List Nat} {w0 w : World} {es : List Ent}
theorem run_loadF1 (hF : Fr X w0 w es) {i g : Nat} {t : TypeId} {u : Value} (hi : es[i]? = some (.blk g t [u])) {ty : TypeId} {d : TypeDesc} (hu : P.underlying ty = some d) (hd : aggT d = false) :
  (loadVar ty ⟨g, 0, none⟩).run P w = .ok u w := by
 have hcell : w.cell? ⟨g, 0, none⟩ = some u := by rw [cell_of_row w g 0 _ t (0, 0) (hF.blk hi)]; rfl
 have hagg := run_isAgg hu w
 rw [hd] at hagg
 simp [loadVar, hagg, hcell]
/-- Three results that lie in cells: a struct, two numbers. -/
theorem results_cells3 {fn : Func} {p q r : Tmp} {t1 t2 t3 : TypeId} (h : fn.results = #[.cell p t1, .cell q t2, .cell r t3]) (tmps : Array Value) (hF : Fr X w0 w es) {i j k g1 g2 g3 : Nat} {s1 s2 s3 : TypeId} {cs : List Value} {u v : Value}
  (hi : es[i]? = some (.blk g1 s1 cs)) (hj : es[j]? = some (.blk g2 s2 [u])) (hk : es[k]? = some (.blk g3 s3 [v])) (hp : tmps.getD p undef = .pointer (some ⟨g1, 0, none⟩)) (hq : tmps.getD q undef = .pointer (some ⟨g2, 0, none⟩)) (hr : tmps.getD r undef = .pointer (some ⟨g3, 0, none⟩))
  {d1 d2 d3 : TypeDesc} (hu1 : P.underlying t1 = some d1) (hd1 : aggT d1 = true) (hs : (P.info? t1).map (·.size) = some cs.length) (hu2 : P.underlying t2 = some d2) (hd2 : aggT d2 = false) (hu3 : P.underlying t3 = some d3) (hd3 : aggT d3 = false) :
  (results fn tmps).run P w = .ok (.tuple #[.agg cs.toArray, u, v]) w := by
 have hp' : tmps[p]?.getD undef = .pointer (some ⟨g1, 0, none⟩) := by simpa using hp
 have hq' : tmps[q]?.getD undef = .pointer (some ⟨g2, 0, none⟩) := by simpa using hq
 have hr' : tmps[r]?.getD undef = .pointer (some ⟨g3, 0, none⟩) := by simpa using hr
 simp [results, h, hp', hq', hr', asAddr, run_loadF hF hi hu1 hd1 hs, run_loadF1 hF hj hu2 hd2, run_loadF1 hF hk hu3 hd3]
end
abbrev ft0 : List Value := [.int .i64 0, .int .i64 0]
theorem ft_one (a b : Int) : ∀ u ∈ [Value.int .i64 a, Value.int .i64 b], u.oneCell' = true := by
 intro u hu
 simp only [List.mem_cons, List.not_mem_nil, or_false] at hu
 rcases hu with rfl | rfl <;> rfl
theorem spl1 (u v : Value) : spl [u] 0 [v] = [v] := rfl
theorem ft_fit (a b : Int) : 0 + [Value.int .i64 a, Value.int .i64 b].length ≤ ft0.length := Nat.le_refl 2
theorem ft_spl (a b : Int) : spl ft0 0 [Value.int .i64 a, Value.int .i64 b] = [Value.int .i64 a, Value.int .i64 b] := rfl
/-- The deferred closure, where nothing is wrong. -/
theorem catch_idle (a b c : Value) (w : World) :
  CallsD Tryz.prog 62 #[a, b, c] .returning w fun e u' w' => e = .returned (.tuple #[]) ∧ u' = .returning ∧ w' = w := by
 refine callsD_of_wpS Tryz.func62 rfl fun c₀ cs hu => ?_
 apply wpS_seq
 apply wpS_region
 simp [wpOpsS, go_sem, recoverD, hu, Tryz.ntmps62, Exit.thenS]
 refine wpS_of_wp ?_
 simp only [Array.replicate, List.replicate, List.setIfInBounds_toArray, List.set_cons_zero, List.set_cons_succ, List.append_toArray, List.cons_append, List.nil_append]
 go_wp2
 cases c₀
 simp_all [bodyPostS, results, Tryz.results62]
set_option maxRecDepth 20000 in
set_option maxHeartbeats 3200000 in
/-- .. and where a fault goes up. -/
theorem catch_flt (g1 g2 g3 : Nat) (x : Nat × Nat) (X : List Nat) (w0 w : World) (cs1 : List Value) (u v : Value) (rest : List Ent) (hl : cs1.length = 5)
  (hF : Fr X w0 w (.blk g1 76 cs1 :: .blk g2 3 [u] :: .blk g3 32 [v] :: rest)) :
  CallsD Tryz.prog 62 #[.pointer (some ⟨g1, 0, none⟩), .pointer (some ⟨g2, 0, none⟩), .pointer (some ⟨g3, 0, none⟩)] (.panicking [{ v := .iface 123 (.agg #[.int .i64 (x.1 : Int), .int .i64 (x.2 : Int)]), recovered := false }]) w fun e u' w' =>
   e = .returned (.tuple #[]) ∧ u' = .panicking [{ v := .iface 123 (.agg #[.int .i64 (x.1 : Int), .int .i64 (x.2 : Int)]), recovered := true }] ∧ Fr X w0 w' (.blk g1 76 vl0 :: .blk g2 3 [.int .i64 (x.1 : Int)] :: .blk g3 32 [.int .i64 (x.2 : Int)] :: rest) := by
 refine callsD_of_wpS Tryz.func62 rfl fun c₀ cs hu => ?_
 apply wpS_seq
 apply wpS_region
 simp [wpOpsS, go_sem, recoverD, hu, Tryz.ntmps62, Exit.thenS]
 have hta : ∀ (v : Value) (w : World), (Instr.typeAssert (.iface 123 v) 20 123 true).run Tryz.prog w = .ok (.tuple #[v, .bool true]) w := fun _ _ => rfl
 refine wpS_of_wp ?_
 simp only [Array.replicate, List.replicate, List.setIfInBounds_toArray, List.set_cons_zero, List.set_cons_succ, List.append_toArray, List.cons_append, List.nil_append]
 go_wp2_with (first | ((with_reducible refine lst (by with_unfolding_all rfl) (wp_falloc hF (cs := ft0) (z := .agg (List.toArray (ft0))) rfl (by kernel_rfl) (by with_unfolding_all rfl) ?_)); intro w5 g5 hF5 hz5) | ((with_reducible refine lst (by with_unfolding_all rfl) (wp_fstA0 hF5 (by with_unfolding_all exact ⟨_, _, rfl, rfl, rfl⟩) (by kernel_rfl) (ft_one _ _) (ft_fit _ _) (ft_spl _ _) ?_)); intro w6 hF6 hz6))
 have hsp : spl cs1 0 vl0 = vl0 := spl_all (by rw [hl]; rfl)
 have hFd := hF6.drew
 refine wp_region_held (S := fun w' => w'.heap[g5]? = some (.cells (List.toArray [.int .i64 (x.1 : Int), .int .i64 (x.2 : Int)]) 123 (0, 0))) (by kernel_rfl) ?_
 change wpAnyH _ _ _ _ _ _ _ _ (World.drew _)
 refine tkp 0 (hFd.blk (i := 0) rfl) ?_
 (try simp only [Act.put, List.setIfInBounds_toArray, List.set_cons_zero, List.set_cons_succ])
 refine tkp 1 (hFd.blk (i := 0) rfl) ?_
 (try simp only [Act.put, List.setIfInBounds_toArray, List.set_cons_zero, List.set_cons_succ])
 refine tky 2 (y := yi_fld (by with_unfolding_all rfl) (fun _ h => h) Tryz.underlying3 rfl (by with_unfolding_all exact ⟨_, rfl, rfl⟩) rfl) (s := (hFd.blk (i := 0) rfl)) (h := ?_)
 (try simp only [Act.put, List.setIfInBounds_toArray, List.set_cons_zero, List.set_cons_succ])
 refine tkp 3 (hFd.blk (i := 0) rfl) ?_
 (try simp only [Act.put, List.setIfInBounds_toArray, List.set_cons_zero, List.set_cons_succ])
 refine tky 4 (y := yi_fld (by with_unfolding_all rfl) (fun _ h => h) Tryz.underlying32 rfl (by with_unfolding_all exact ⟨_, rfl, rfl⟩) rfl) (s := (hFd.blk (i := 0) rfl)) (h := ?_)
 (try simp only [Act.put, List.setIfInBounds_toArray, List.set_cons_zero, List.set_cons_succ])
 refine rdy1 5 (fun K hK => ?_)
 refine stp (by with_unfolding_all rfl) (wp_fstA hFd (i := 1) rfl (ds := vl0) (by with_unfolding_all exact ⟨_, _, rfl, rfl, rfl⟩) (by kernel_rfl) vlL_one (by rw [vlL_len, hl]; decide) ?_)
 intro w11 hF11 hz11
 (try simp only [List.set_cons_zero, List.set_cons_succ] at hF11)
 rw [hsp] at hF11
 refine hK.out _ _ ((hF11.blk (i := 0) rfl)) (fun _ => ?_)
 clear hK K
 (try simp only [Act.put, List.setIfInBounds_toArray, List.set_cons_zero, List.set_cons_succ])
 refine rdy1 6 (fun K hK => ?_)
 refine stp (by with_unfolding_all rfl) (wp_fst hF11 (i := 2) rfl (v := .int .i64 (x.1 : Int)) (by with_unfolding_all exact ⟨_, _, rfl, rfl, rfl⟩) (by kernel_rfl) rfl rfl (by simp) ?_)
 intro w12 hF12 hz12
 (try simp only [List.set_cons_zero, List.set_cons_succ] at hF12)
 rw [spl1] at hF12
 refine hK.out _ _ ((hF12.blk (i := 0) rfl)) (fun _ => ?_)
 clear hK K
 (try simp only [Act.put, List.setIfInBounds_toArray, List.set_cons_zero, List.set_cons_succ])
 refine rdy1 7 (fun K hK => ?_)
 refine stp (by with_unfolding_all rfl) (wp_fst hF12 (i := 3) rfl (v := .int .i64 (x.2 : Int)) (by with_unfolding_all exact ⟨_, _, rfl, rfl, rfl⟩) (by kernel_rfl) rfl rfl (by simp) ?_)
 intro w13 hF13 hz13
 (try simp only [List.set_cons_zero, List.set_cons_succ] at hF13)
 rw [spl1] at hF13
 refine hK.out _ _ ((hF13.blk (i := 0) rfl)) (fun _ => ?_)
 clear hK K
 (try simp only [Act.put, List.setIfInBounds_toArray, List.set_cons_zero, List.set_cons_succ])
 refine wpAnyH_done (by kernel_rfl) ?_ _
 go_wp2_with fail
 exact ⟨rfl, _, rfl, _, by simp [results, Tryz.results62], rfl, rfl, hF13.tail⟩
theorem Fr.lost {X : List Nat} {w0 w w' : World} {es : List Ent} {g : Nat} {t : TypeId} {cs : List Value} (hF : Fr X w0 w (.blk g t cs :: es)) (hg : w.grownBy w' (some g)) : Fr X w0 w' es :=
 hF.tail.step hg (fun i e he => by
  rcases hF.apart (i + 1) 0 e _ he rfl (by omega) with h | h
  ·exact .inl h
  ·exact .inr h) (fun k hk => by injection hk with hk; subst hk; exact hF.fresh 0 _ rfl _ rfl)
/-- What Parse tells. -/
def ParseEnd (w : World) (r : JR JV) (e : Ending) (w' : World) : Prop :=
 match r with
 | .ok v => ∃ cs es, e = .returned (.tuple #[.agg cs.toArray, .int .i64 0, .int .i64 0]) ∧ VT v cs es ∧ Fr [] w w' es
 | .error x => e = .returned (.tuple #[.agg vl0.toArray, .int .i64 (x.1 : Int), .int .i64 (x.2 : Int)]) ∧ Below w.heap.size w w'
def rdrP : List (Nat × Nat) := [(0, 1), (1, 1), (2, 1)]
abbrev rdr0 : List Value := [.slice none 0 0, .int .i64 0, .int .i64 0]
set_option maxRecDepth 20000 in
set_option maxHeartbeats 6400000 in
theorem parse_any (A : Option Addr) (n c : Nat) (b : List UInt8) (w : World) (hL : LibsAt w.heap.size w) (hnc : n ≤ c) (hn47 : n ≤ 140737488355328) (hr : Rd w (· < w.heap.size) A 1 n (b.map bv)) :
  Calls Tryz.prog 30 #[.slice A n c] w (ParseEnd w (jParse b)) := by
 have hl := box hr.bytes_len
 have hmf : ∀ (fn : Fn) (first cap : Array Value) (w : World), (Instr.makeFunc fn first cap).run Tryz.prog w = .ok (.func fn first cap) w := fun _ _ _ _ => rfl
 have hF0 := Fr.nil w
 by_cases hbig : 65536 < n
 ·have hend : Box (jParse b = .error (0, 8)) := box (by unfold jParse; rw [if_pos (by rw [hl.out]; exact hbig)])
  have d1 : decide ((65536 : Int) < (n : Int)) = true := decide_eq_true (by omega)
  replace hn47 := box hn47
  replace hbig := box hbig
  go_enter_defers Tryz.func30, Tryz.ntmps30
  go_wp2_with (first | ((with_reducible refine lst (by with_unfolding_all rfl) (wp_falloc hF0 (cs := vl0) (z := .agg (List.toArray (vl0))) rfl (by kernel_rfl) (by with_unfolding_all rfl) ?_)); intro w1 g1 hF1 hz1) | ((with_reducible refine lst (by with_unfolding_all rfl) (wp_falloc hF1 (cs := [(.int .i64 0)]) (z := (.int .i64 0)) rfl (by kernel_rfl) (by with_unfolding_all rfl) ?_)); intro w2 g2 hF2 hz2) | ((with_reducible refine lst (by with_unfolding_all rfl) (wp_falloc hF2 (cs := [(.int .i64 0)]) (z := (.int .i64 0)) rfl (by kernel_rfl) (by with_unfolding_all rfl) ?_)); intro w3 g3 hF3 hz3) | (with_reducible refine lst (by with_unfolding_all rfl) (wp_fbuild Tryz.underlying76 (z := .agg (List.toArray vl0)) (by kernel_rfl) (pl := vlP) (by kernel_rfl) (cs := vl0) rfl (vs := []) (by with_unfolding_all rfl) (by with_unfolding_all rfl) ?_)) | ((with_reducible refine lst (by with_unfolding_all rfl) (wp_fstA2 hF3 (by with_unfolding_all exact ⟨_, _, rfl, rfl, rfl⟩) (by rw [vlL_len]; kernel_rfl) vlL_one vlL_fit vlL_spl ?_)); intro w4 hF4 hz4) | ((with_reducible refine lst (by with_unfolding_all rfl) (wp_fst1 hF4 (by with_unfolding_all exact ⟨_, _, rfl, rfl, rfl⟩) (by kernel_rfl) rfl rfl (by first | decide | (simp; done) | (simp; omega)) (spl1 _ (.int .i64 0)) ?_)); intro w5 hF5 hz5) | ((with_reducible refine lst (by with_unfolding_all rfl) (wp_fst0 hF5 (by with_unfolding_all exact ⟨_, _, rfl, rfl, rfl⟩) (by kernel_rfl) rfl rfl (by first | decide | (simp; done) | (simp; omega)) (spl1 _ (.int .i64 8)) ?_)); intro w6 hF6 hz6))
  exact ⟨_, results_cells3 rfl _ hF6 (i := 2) (j := 1) (k := 0) rfl rfl rfl rfl rfl rfl Tryz.underlying76 rfl (by rw [vlL_len]; kernel_rfl) Tryz.underlying3 rfl Tryz.underlying32 rfl, by
   unfold ParseEnd
   rw [hend.out]
   exact ⟨rfl, hF6.below⟩⟩
 ·have d1 : decide ((65536 : Int) < (n : Int)) = false := decide_eq_false (by omega)
  have hJ : jParse b = match jValue b 16 (jBlanks b 0) 0 with
   | .error x => .error x
   | .ok (v, p, _) => if jBlanks b p < b.length then .error (jBlanks b p, 10) else .ok v := by unfold jParse; rw [if_neg (by rw [hl.out]; exact hbig)]; rfl
  replace hJ := box hJ
  have hn : n ≤ 65536 := by omega
  clear hn47 hbig
  have hb0 : jBlanks b 0 ≤ n := by have := jBlanks_le b (p := 0) (Nat.zero_le _); rw [hl.out] at this; exact this
  go_enter_defers Tryz.func30, Tryz.ntmps30
  go_wp2_with (first | ((with_reducible refine lst (by with_unfolding_all rfl) (wp_falloc hF0 (cs := vl0) (z := .agg (List.toArray (vl0))) rfl (by kernel_rfl) (by with_unfolding_all rfl) ?_)); intro w1 g1 hF1 hz1) | ((with_reducible refine lst (by with_unfolding_all rfl) (wp_falloc hF1 (cs := [(.int .i64 0)]) (z := (.int .i64 0)) rfl (by kernel_rfl) (by with_unfolding_all rfl) ?_)); intro w2 g2 hF2 hz2) | ((with_reducible refine lst (by with_unfolding_all rfl) (wp_falloc hF2 (cs := [(.int .i64 0)]) (z := (.int .i64 0)) rfl (by kernel_rfl) (by with_unfolding_all rfl) ?_)); intro w3 g3 hF3 hz3) | (with_reducible refine lst (by with_unfolding_all rfl) (wp_fbuild Tryz.underlying127 (z := .agg (List.toArray rdr0)) (by kernel_rfl) (pl := rdrP) (by kernel_rfl) (cs := (rdrL A n c 0 0)) rfl (vs := [(0, .slice A n c)]) (by with_unfolding_all rfl) (by with_unfolding_all rfl) ?_)) | ((with_reducible refine lst (by with_unfolding_all rfl) (wp_fbox hF3 (cs := (rdrL A n c 0 0)) rfl (by with_unfolding_all rfl) (by with_unfolding_all rfl) ?_)); intro w4 g4 hF4 hz4))
  clear hF0 hF1 hF2 hF3
  have hg4 : w.heap.size ≤ g4 := by
   rcases hF4.fresh 0 _ rfl _ rfl with h | h
   ·exact h
   ·simp at h
  have hbl := box (blanks_any g4 A n c 0 0 w.heap.size b w4 (hF4.blk (i := 0) rfl) hg4 hF4.size (by omega) (Nat.zero_le _) (hr.below hF4.below))
  refine hbl.out.mono ?_
  rintro e w5 ⟨rfl, h5⟩
  have hF5 := hF4.putF (i := 0) rfl h5
  simp only [List.set_cons_succ, List.set_cons_zero] at hF5
  clear hbl h5 hF4
  have hva := box (value_any 16 0 rfl w5 g4 A n c (jBlanks b 0) 0 w.heap.size b (hL.on hF5.below) (hF5.blk (i := 0) rfl) hg4 hF5.size hn hnc hb0 (by omega) (hr.below hF5.below))
  cases hv : jValue b 16 (jBlanks b 0) 0 with
  | error x =>
   have hend : Box (jParse b = .error x) := box (by rw [hJ.out, hv])
   rw [hv] at hva
   unfold JEndP at hva
   simp only [] at hva
   clear hv hJ
   go_wp2_with fail
   refine hva.out.mono ?_
   rintro e w6 ⟨rfl, hg6⟩
   have hF6 := (hF5.lost hg6).perm (es' := [.blk g1 76 vl0, .blk g2 3 [.int .i64 0], .blk g3 32 [.int .i64 0]]) (List.reverse_perm _).symm
   dsimp only [flt]
   go_wp2
   refine leaves_cons (f := 62) (args := #[.pointer (some ⟨g1, 0, none⟩), .pointer (some ⟨g2, 0, none⟩), .pointer (some ⟨g3, 0, none⟩)]) (by simp) (by simp [go_sem]) ?_
   refine (catch_flt g1 g2 g3 x [] w w6 _ _ _ [] rfl hF6).mono ?_
   rintro e u' w7 ⟨rfl, rfl, hF7⟩
   exact ⟨_, results_cells3 rfl _ hF7 (i := 0) (j := 1) (k := 2) rfl rfl rfl rfl rfl rfl Tryz.underlying76 rfl (by rw [vlL_len]; kernel_rfl) Tryz.underlying3 rfl Tryz.underlying32 rfl, by
    unfold ParseEnd
    rw [hend.out]
    exact ⟨rfl, hF7.below⟩⟩
  | ok y =>
   obtain ⟨v, q, m'⟩ := y
   have hq := (jValue_len 16 _ _ _ _ _ (by omega) hv).2.1
   rw [hl.out] at hq
   have hq1 : jBlanks b q ≤ n := by have := jBlanks_le b (p := q) (by rw [hl.out]; exact hq); rw [hl.out] at this; exact this
   have hJ2 := hJ.out
   rw [hv] at hJ2 hva
   simp only [] at hJ2
   replace hJ2 := box hJ2
   unfold JEndP ToldV at hva
   simp only [] at hva
   clear hv hJ
   go_wp2_with fail
   refine hva.out.mono ?_
   rintro e w6 ⟨cs, es, rfl, hvt, h6⟩
   have hF6 := hF5.putG (i := 0) rfl h6
   simp only [List.set_cons_succ, List.set_cons_zero, List.cons_append, List.nil_append] at hF6
   have hvl := box hvt.len
   have hvo := box hvt.one
   replace hvt := box hvt
   clear hva h6 hF5
   go_wp2_with (first | ((with_reducible refine lst (by with_unfolding_all rfl) (wp_fstA3 hF6 (by with_unfolding_all exact ⟨_, _, rfl, rfl, rfl⟩) (by rw [hvl.out]; kernel_rfl) hvo.out (by rw [hvl.out, vlL_len]; decide) (spl_all (by rw [hvl.out, vlL_len])) ?_)); intro w7 hF7 hz7))
   clear hF6
   have hbl := box (blanks_any g4 A n c q m' w.heap.size b w7 (hF7.blk (i := 0) rfl) hg4 hF7.size (by omega) hq (hr.below hF7.below))
   refine hbl.out.mono ?_
   rintro e w8 ⟨rfl, h8⟩
   have hF8 := hF7.putF (i := 0) rfl h8
   simp only [List.set_cons_succ, List.set_cons_zero] at hF8
   clear hbl h8 hF7
   by_cases hlt : jBlanks b q < n
   ·have hend : Box (jParse b = .error (jBlanks b q, 10)) := box (by rw [hJ2.out, if_pos (by rw [hl.out]; exact hlt)])
    have hfl := box (fun v w => fail_any v (jBlanks b q) 10 w)
    clear hJ2
    go_wp2_with (first | (with_reducible refine lst (by with_unfolding_all rfl) (wp_fld0 hF8 Tryz.underlying3 rfl (by with_unfolding_all exact ⟨_, rfl, rfl⟩) rfl ?_)))
    refine (hfl.out _ _).mono ?_
    rintro e w9 ⟨rfl, rfl⟩
    have hF9 := (hF8.tail.sub (es' := [.blk g3 32 [.int .i64 0], .blk g2 3 [.int .i64 0], .blk g1 76 cs]) (((List.nil_sublist _).cons_cons _).cons_cons _ |>.cons_cons _)).perm (es' := [.blk g1 76 cs, .blk g2 3 [.int .i64 0], .blk g3 32 [.int .i64 0]]) (List.reverse_perm _).symm
    dsimp only [flt]
    go_wp2
    refine leaves_cons (f := 62) (args := #[.pointer (some ⟨g1, 0, none⟩), .pointer (some ⟨g2, 0, none⟩), .pointer (some ⟨g3, 0, none⟩)]) (by simp) (by simp [go_sem]) ?_
    refine (catch_flt g1 g2 g3 (jBlanks b q, 10) [] w _ _ _ _ [] hvl.out hF9).mono ?_
    rintro e u' w10 ⟨rfl, rfl, hF10⟩
    exact ⟨_, results_cells3 rfl _ hF10 (i := 0) (j := 1) (k := 2) rfl rfl rfl rfl rfl rfl Tryz.underlying76 rfl (by rw [vlL_len]; kernel_rfl) Tryz.underlying3 rfl Tryz.underlying32 rfl, by
     unfold ParseEnd
     rw [hend.out]
     exact ⟨rfl, hF10.below⟩⟩
   ·have hend : Box (jParse b = .ok v) := box (by rw [hJ2.out, if_neg (by rw [hl.out]; exact hlt)])
    clear hJ2
    go_wp2_with (first | (with_reducible refine lst (by with_unfolding_all rfl) (wp_fld0 hF8 Tryz.underlying3 rfl (by with_unfolding_all exact ⟨_, rfl, rfl⟩) rfl ?_)) | (with_reducible refine lst (by with_unfolding_all rfl) (wp_fldA3 hF8 Tryz.underlying76 rfl (by with_unfolding_all exact ⟨_, rfl, rfl⟩) (ds := cs) (by rw [hvl.out]; kernel_rfl) (take_all _) ?_)) | ((with_reducible refine lst (by with_unfolding_all rfl) (wp_fstA3 hF8 (by with_unfolding_all exact ⟨_, _, rfl, rfl, rfl⟩) (by rw [hvl.out]; kernel_rfl) hvo.out (by rw [hvl.out]; decide) (spl_all rfl) ?_)); intro w9 hF9 hz9) | ((with_reducible refine lst (by with_unfolding_all rfl) (wp_fst2 hF9 (by with_unfolding_all exact ⟨_, _, rfl, rfl, rfl⟩) (by kernel_rfl) rfl rfl (by first | decide | (simp; done) | (simp; omega)) (spl1 _ (.int .i64 0)) ?_)); intro w10 hF10 hz10) | ((with_reducible refine lst (by with_unfolding_all rfl) (wp_fst1 hF10 (by with_unfolding_all exact ⟨_, _, rfl, rfl, rfl⟩) (by kernel_rfl) rfl rfl (by first | decide | (simp; done) | (simp; omega)) (spl1 _ (.int .i64 0)) ?_)); intro w11 hF11 hz11))
    refine leaves_cons (f := 62) (args := #[.pointer (some ⟨g1, 0, none⟩), .pointer (some ⟨g2, 0, none⟩), .pointer (some ⟨g3, 0, none⟩)]) (by simp) (by simp [go_sem]) ?_
    refine (catch_idle _ _ _ _).mono ?_
    rintro e u' w12 ⟨rfl, rfl, rfl⟩
    exact ⟨_, results_cells3 rfl _ hF11 (i := 3) (j := 2) (k := 1) rfl rfl rfl rfl rfl rfl Tryz.underlying76 rfl (by rw [hvl.out]; kernel_rfl) Tryz.underlying3 rfl Tryz.underlying32 rfl, by
     unfold ParseEnd
     rw [hend.out]
     exact ⟨cs, es, rfl, hvt.out, hF11.tail.tail.tail.tail⟩⟩
end Go.Proofs.YtlhicfpmlncomaaGreatDoor

namespace Go.Proofs.YtlhicfpmlncomaaGreatDoor
open Go.RowKit
set_option linter.unusedSimpArgs false
theorem wp_fmark {P : Program} {o : Oper} {a : Act} {K : Act → World → Prop} {Q : Exit → Act → World → Prop} {X : List Nat} {w0 w : World} {es : List Ent} {t e : TypeId} {size bytes : Nat} {z : Value} (T : SlT P t e size bytes z) (he : P.underlying e = some (.int .u8)) {b g n c : Nat} {el : TypeId} {xs : List Value}
  (hF : Fr X w0 w (.own b el 1 (.slice (some ⟨g, 0, none⟩) n c) n xs :: es)) (ho : IsCv o a t t (.slice (some ⟨g, 0, none⟩) n c))
  (k : ∀ w', Fr X w0 w' (.rd (some ⟨g, 0, none⟩) 1 n xs :: es) → w'.heap.size = w.heap.size → K (a.put o.dst (.slice (some ⟨g, 0, none⟩) n c)) w') : o.wp P a w K Q := by
 obtain ⟨x, ho, hx⟩ := ho
 have hrun : (convert t t (.slice (some ⟨g, 0, none⟩) n c)).run P w = .ok (.slice (some ⟨g, 0, none⟩) n c) (match w.shape? g with | some (_, q) => w.freeze ⟨g, q, none⟩ 1 | none => w) := by
  cases hs : w.shape? g with
  | none => simp [convert, run_underlying T.und, run_underlying he, markStringish, hs]
  | some y => simp [convert, run_underlying T.und, run_underlying he, markStringish, hs]
 have hr := hF.rdOwn (i := 0) rfl
 have hlt : g < w.heap.size := Ent.lt (hF.holds 0 _ rfl) rfl
 unfold Oper.wp execOp
 simp only [ho, hx, hrun, Sem.run_bind, Sem.run_pure, Result.andThen_ok]
 cases hs : w.shape? g with
 | none => exact k w (hF.toRd (i := 0) rfl) rfl
 | some y =>
  refine k _ (hF.put (i := 0) (e' := .rd (some ⟨g, 0, none⟩) 1 n xs) rfl ⟨?_, ?_, ?_, ?_, fun j hj hne => freeze_block _ _ _ _ (fun h => hne (by show some j = some g; rw [h]))⟩ ⟨⟨hr.len, hr.some_, fun _ => ?_, fun j u hu => ?_⟩, fun a ha => ?_⟩ (.inl rfl)) (freeze_size _ _ _)
  ·unfold World.freeze; split <;> rfl
  ·unfold World.freeze; split <;> rfl
  ·unfold World.freeze; split <;> rfl
  ·rw [freeze_size]; exact Nat.le_refl _
  ·rw [freeze_size]; exact hlt
  ·rw [freeze_cell]; exact hr.cell j u hu
  ·injection ha with ha; subst ha; rw [freeze_size]; exact hlt
theorem LibsAt.up {B B' : Nat} {w : World} (h : LibsAt B w) (hb : B ≤ B') : LibsAt B' w :=
 ⟨fun w' h2 => h.u8 w' (h2.mono hb), fun w' h2 => h.pow w' (h2.mono hb), h.syn.imp fun _ h => h.imp fun _ h w' h2 => h w' (h2.mono hb), h.rng.imp fun _ h => h.imp fun _ h w' h2 => h w' (h2.mono hb)⟩
/-- Parse, within a frame; its answer stands ahead of the other entries. -/
def ParseEndF (X : List Nat) (w0 : World) (es : List Ent) (r : JR JV) (e : Ending) (w' : World) : Prop :=
 match r with
 | .ok v => ∃ cs es', e = .returned (.tuple #[.agg cs.toArray, .int .i64 0, .int .i64 0]) ∧ VT v cs es' ∧ Fr X w0 w' (es' ++ es)
 | .error x => e = .returned (.tuple #[.agg vl0.toArray, .int .i64 (x.1 : Int), .int .i64 (x.2 : Int)]) ∧ Fr X w0 w' es
theorem parse_F {X : List Nat} {w0 w : World} {es : List Ent} {B : Nat} (hF : Fr X w0 w es) (hL : LibsAt B w) (hB : B ≤ w.heap.size) {A : Option Addr} {n c : Nat} {b : List UInt8} (hnc : n ≤ c) (hn47 : n ≤ 140737488355328) (hr : Rd w (· < w.heap.size) A 1 n (b.map bv)) :
  Calls Tryz.prog 30 #[.slice A n c] w (ParseEndF X w0 es (jParse b)) := by
 refine (parse_any A n c b w (hL.up hB) hnc hn47 hr).mono ?_
 intro e w' h
 unfold ParseEnd at h
 unfold ParseEndF
 cases hj : jParse b with
 | error x => rw [hj] at h; exact ⟨h.1, hF.call h.2⟩
 | ok v =>
  rw [hj] at h
  obtain ⟨cs, es', rfl, hvt, hF'⟩ := h
  exact ⟨cs, es', rfl, hvt, hF.join hF'⟩
/-- What is known of a value that was read. -/
theorem VT.kids {k n : Int} {t : List UInt8} {ns : List (List UInt8)} {ks : List JV} {cs : List Value} {es' es : List Ent} {X : List Nat} {w0 w : World} (h : VT (.mk k n t ns ks) cs es') (hF : Fr X w0 w (es' ++ es)) :
  ∃ An nn cn Ak ck xs TE, nn ≤ cn ∧ ks.length ≤ ck ∧ cs = vlL k n ⟨t.toArray⟩ (.slice An nn cn) (.slice Ak ks.length ck) ∧ Rd w (· < w.heap.size) An 1 nn (ns.map strv) ∧ Rd w (· < w.heap.size) Ak 5 ks.length xs ∧ VTL ks xs TE := by
 rw [VT] at h
 obtain ⟨An, nn, cn, Ak, nk, ck, xs, TE, h1, h2, rfl, rfl, h3⟩ := h
 have r1 := hF.rd (i := 0) rfl
 have r2 := hF.rd (i := 1) rfl
 have hl := r2.len
 rw [h3.len] at hl
 obtain rfl : ks.length = nk := by omega
 exact ⟨An, nn, cn, Ak, ck, xs, TE, h1, h2, rfl, r1, r2, h3⟩
end Go.Proofs.YtlhicfpmlncomaaGreatDoor

namespace Go.Proofs.YtlhicfpmlncomaaGreatDoor
open Go.RowKit
set_option linter.unusedSimpArgs false
mutual
/-- No list of a value is longer than any machine bears. -/
def JSm : JV → Prop
 | .mk _ _ _ ns ks => ns.length ≤ 1048576 ∧ ks.length ≤ 1048576 ∧ JSmL ks
def JSmL : List JV → Prop
 | [] => True
 | v :: vs => JSm v ∧ JSmL vs
end
theorem JSmL.at : ∀ {ks : List JV} {i : Nat} {v : JV}, JSmL ks → ks[i]? = some v → JSm v
 | [], _, _, _, hv => by cases hv
 | k :: ks, i, v, h, hv => by
  rw [JSmL] at h
  cases i with
  | zero => injection hv with hv; subst hv; exact h.1
  | succ i => exact JSmL.at h.2 (by simpa using hv)
theorem VRd.len {w : World} {S : Nat → Prop} {v : JV} {cs : List Value} (h : VRd w S v cs) : cs.length = 5 := by
 cases v
 rw [VRd] at h
 obtain ⟨_, _, _, _, _, _, _, _, _, rfl, _⟩ := h
 rfl
theorem VRdL.len {w : World} {S : Nat → Prop} : ∀ {ks : List JV} {xs : List Value}, VRdL w S ks xs → xs.length = ks.length * 5
 | [], xs, h => by rw [VRdL] at h; rw [h]; rfl
 | k :: ks, xs, h => by
  rw [VRdL] at h
  obtain ⟨c1, ys, rfl, h1, h2⟩ := h
  rw [List.length_append, h1.len, VRdL.len h2, List.length_cons]
  omega
theorem VRdL.at {w : World} {S : Nat → Prop} : ∀ {ks : List JV} {xs : List Value} {i : Nat} {v : JV}, VRdL w S ks xs → ks[i]? = some v → ∃ cs, (xs.drop (i * 5)).take 5 = cs ∧ VRd w S v cs
 | [], _, _, _, _, hv => by cases hv
 | k :: ks, xs, i, v, h, hv => by
  rw [VRdL] at h
  obtain ⟨c1, ys, rfl, h1, h2⟩ := h
  cases i with
  | zero =>
   injection hv with hv; subst hv
   refine ⟨c1, ?_, h1⟩
   rw [Nat.zero_mul, List.drop_zero, List.take_append_of_le_length (by rw [h1.len]; exact Nat.le_refl _), List.take_of_length_le (by rw [h1.len]; exact Nat.le_refl _)]
  | succ i =>
   obtain ⟨cs, hc, hr⟩ := VRdL.at h2 (i := i) (by simpa using hv)
   refine ⟨cs, ?_, hr⟩
   rw [← hc, List.drop_append, List.drop_of_length_le (by rw [h1.len]; omega), List.nil_append, h1.len, show (i + 1) * 5 - 5 = i * 5 by omega]
theorem Fr.joinR {X : List Nat} {w0 w w' : World} {es es' : List Ent} (h : Fr X w0 w es) (h' : Fr [] w w' es') : Fr X w0 w' (es ++ es') := (h.join h').perm List.perm_append_comm
theorem VRd.on {w w' : World} {v : JV} {cs : List Value} (h : VRd w (· < w.heap.size) v cs) (hb : Below w.heap.size w w') : VRd w' (· < w'.heap.size) v cs :=
 VRd.keep (fun _ hk => Nat.lt_of_lt_of_le hk hb.size) (fun k hk => hb.block k hk) v h
end Go.Proofs.YtlhicfpmlncomaaGreatDoor

namespace Go.Proofs.YtlhicfpmlncomaaGreatDoor
open Go.RowKit
set_option linter.unusedSimpArgs false
end Go.Proofs.YtlhicfpmlncomaaGreatDoor

namespace Go.Proofs.YtlhicfpmlncomaaGreatDoor
open Go.RowKit
set_option linter.unusedSimpArgs false
/-- What no value is right with, as the m-th and one. -/
def jBad (k n : Int) (t : List UInt8) (m : Nat) : Prop := 4096 < m + 1 ∨ k < 0 ∨ 6 < k ∨ Lib.validD t = false ∨ 9007199254740991 < n ∨ n < -9007199254740991
instance (k n : Int) (t : List UInt8) (m : Nat) : Decidable (jBad k n t m) := by unfold jBad; exact inferInstance
end Go.Proofs.YtlhicfpmlncomaaGreatDoor

namespace Go.Proofs.YtlhicfpmlncomaaGreatDoor
end Go.Proofs.YtlhicfpmlncomaaGreatDoor

namespace Go.Proofs.YtlhicfpmlncomaaGreatDoor
open Go.RowKit
section
variable {P : Program} {w : World}
end
end Go.Proofs.YtlhicfpmlncomaaGreatDoor

namespace Go.Proofs.YtlhicfpmlncomaaGreatDoor
open Go.RowKit
set_option linter.unusedSimpArgs false
end Go.Proofs.YtlhicfpmlncomaaGreatDoor

namespace Go.Proofs.YtlhicfpmlncomaaGreatDoor
open Go.RowKit
set_option linter.unusedSimpArgs false
end Go.Proofs.YtlhicfpmlncomaaGreatDoor

namespace Go.Proofs.YtlhicfpmlncomaaGreatDoor
open Go.RowKit
set_option linter.unusedSimpArgs false
mutual
/-- A value that may be written: its kinds, its members' names. -/
def JOk : JV → Prop
 | .mk k n _ ns ks => (k = 0 ∨ k = 1 ∨ k = 2 ∨ (k = 3 ∧ -9223372036854775808 ≤ n ∧ n ≤ 9223372036854775807) ∨ k = 4) ∨ (k = 5 ∧ JOkL ks) ∨ (k = 6 ∧ ns.length = ks.length ∧ JOkL ks)
def JOkL : List JV → Prop
 | [] => True
 | v :: vs => JOk v ∧ JOkL vs
end
theorem JOkL.at : ∀ {ks : List JV} {i : Nat} {v : JV}, JOkL ks → ks[i]? = some v → JOk v
 | [], _, _, _, hv => by cases hv
 | k :: ks, i, v, h, hv => by
  rw [JOkL] at h
  cases i with
  | zero => injection hv with hv; subst hv; exact h.1
  | succ i => exact JOkL.at h.2 (by simpa using hv)
def NotU8 (rest : List Ent) : Prop := ∀ e ∈ rest, ∃ g t cs, t ≠ 5 ∧ e = Ent.blk g t cs
theorem NotU8.cons {rest : List Ent} (h : NotU8 rest) {g : Nat} {t : TypeId} {cs : List Value} (ht : t ≠ 5) : NotU8 (.blk g t cs :: rest) := by
 intro e he
 rcases List.mem_cons.1 he with rfl | he
 ·exact ⟨_, _, _, ht, rfl⟩
 ·exact h e he
theorem VRd.one {w : World} {S : Nat → Prop} {v : JV} {cs : List Value} (h : VRd w S v cs) : ∀ u ∈ cs, u.oneCell' = true := by
 cases v
 rw [VRd] at h
 obtain ⟨_, _, _, _, _, _, _, _, _, rfl, _⟩ := h
 exact vlL_one
end Go.Proofs.YtlhicfpmlncomaaGreatDoor

namespace Go.Proofs.YtlhicfpmlncomaaGreatDoor
open Go.RowKit
set_option linter.unusedSimpArgs false
mutual
/-- No text of a value is longer than any machine bears. -/
def JTx : JV → Prop
 | .mk _ _ t ns ks => t.length ≤ 140737488355328 ∧ (∀ s ∈ ns, s.length ≤ 140737488355328) ∧ JTxL ks
def JTxL : List JV → Prop
 | [] => True
 | v :: vs => JTx v ∧ JTxL vs
end
theorem JTxL.at : ∀ {ks : List JV} {i : Nat} {v : JV}, JTxL ks → ks[i]? = some v → JTx v
 | [], _, _, _, hv => by cases hv
 | k :: ks, i, v, h, hv => by
  rw [JTxL] at h
  cases i with
  | zero => injection hv with hv; subst hv; exact h.1
  | succ i => exact JTxL.at h.2 (by simpa using hv)
end Go.Proofs.YtlhicfpmlncomaaGreatDoor

namespace Go.Proofs.YtlhicfpmlncomaaGreatDoor
open Go.ChangeShapes Go.WideShapes Go.ChangeAt Go.RowKit
theorem sum_le {α : Type} {H : Type} {g : α → Nat} : ∀ (l : List α) (es : List (DataW H × List MemPlace)), l.length = es.length → (∀ (i : Nat) (u : α) (e : DataW H × List MemPlace), l[i]? = some u → es[i]? = some e → g u ≤ Rows.uptoBulk e.1) → (l.map g).sum ≤ Rows.uptoBulkAll (es.map (·.1))
 | [], [], _, _ => by simp [Rows.uptoBulkAll]
 | u :: l, e :: es, hl, h => by
  have h0 := h 0 u e rfl rfl
  have h1 := sum_le (g := g) l es (by simpa using hl) (fun i u e hu he => h (i + 1) u e (by simpa using hu) (by simpa using he))
  simp only [List.map_cons, List.sum_cons, Rows.uptoBulkAll]
  omega
 | [], _ :: _, hl, _ => by simp at hl
 | _ :: _, [], hl, _ => by simp at hl
section
variable {H : Type} {enc : TypeId × Value → H} {P : Program} {W : World} {hd : Bool} {fuel : Nat}
/-- A slice that came in, of elements of which something is known. -/
theorem slR_in {α : Type} {t e : TypeId} {sz : Nat} (ht : P.underlying t = some (.slice e)) (hc : P.cellsOf e = sz) (hpos : 0 < sz) {f : α → List Value} {g : α → Nat} {p : α → Prop} (hel : ∀ m cs x, m < fuel → DataW.trod enc P W 0 (fun _ => true) hd m e cs = some x → ∃ u : α, cs = f u ∧ (f u).length = sz ∧ p u ∧ g u ≤ Rows.uptoBulk x.1)
  {cs : List Value} {x : DataW H × List MemPlace} (h : DataW.trod enc P W 0 (fun _ => true) hd fuel t cs = some x) :
  ∃ (A : Option Addr) (len cap : Nat) (l : List α), cs = [.slice A len cap] ∧ len ≤ cap ∧ l.length = len ∧ Rd W (· < W.heap.size) A sz len (l.flatMap f) ∧ (∀ u ∈ l, (f u).length = sz ∧ p u) ∧ (l.map g).sum + 1 ≤ Rows.uptoBulk x.1 := by
 rcases DataW.trod_slice ht h with ⟨hcs, hx⟩ | ⟨a, len, cap, es, rest, n, hfu, hcs, hx, _, hl, hm, hlen, hat, hsp, _⟩
 ·exact ⟨none, 0, 0, [], hcs, Nat.le_refl _, rfl, Rd.nil _ _ _ _, fun u hu => by simp at hu, by rw [hx]; simp [Rows.uptoBulk]⟩
 ·have key : ∀ i, i < len → ∃ u : α, W.cells? 0 (a.add (i * sz)) sz = some (f u) ∧ (f u).length = sz ∧ p u ∧ ∀ e, es[i]? = some e → g u ≤ Rows.uptoBulk e.1 := fun i hi => by
   have h1 := hat i hi
   rw [hc, List.getElem?_eq_getElem (by omega), Option.bind_eq_some_iff] at h1
   obtain ⟨cs', h2, h3⟩ := h1
   obtain ⟨u, rfl, h4, h5, h6⟩ := hel n _ _ (by omega) h3
   exact ⟨u, h2, h4, h5, fun e he => by
    rw [List.getElem?_eq_getElem (by omega)] at he
    injection he with he
    rw [← he]; exact h6⟩
  obtain ⟨l, hll, hp⟩ := list_of len key
  have hone : ∀ u ∈ l, (f u).length = sz ∧ p u := fun u hu => by
   obtain ⟨i, hi⟩ := List.mem_iff_getElem?.1 hu
   exact ⟨(hp i u hi).2.1, (hp i u hi).2.2.1⟩
  have hcell : ∀ j v, (l.flatMap f)[j]? = some v → W.cell? (a.add j) = some v := fun j v hv => by
   obtain ⟨u, h1, h2⟩ := flat_at hpos (fun u hu => (hone u hu).1) hv
   obtain ⟨h3, _⟩ := hp _ u h1
   obtain ⟨_, _, h5⟩ := World.cells?_some h3
   have h6 := h5 (j % sz) (Nat.mod_lt _ hpos)
   rw [add_add, Nat.mul_comm, Nat.div_add_mod] at h6
   rw [h6]; exact h2
  have hfl : (l.flatMap f).length = len * sz := by rw [flat_len (fun u hu => (hone u hu).1), hll]
  refine ⟨some a, len, cap, l, hcs, hl, hll, ⟨hfl, fun _ => rfl, fun h0 => ?_, hcell⟩, hone, ?_⟩
  ·have hlt : 0 < (l.flatMap f).length := by rw [hfl]; exact Nat.mul_pos h0 hpos
   have := hcell 0 _ (List.getElem?_eq_getElem hlt)
   have hb := World.block_lt_of_cell? W _ this
   have e : (a.add 0).block = a.block := by unfold Addr.add; split <;> rfl
   rw [e] at hb
   exact hb
  ·have := sum_le (g := g) l es (by omega) (fun i u e hu he => (hp i u hu).2.2.2 e he)
   rw [hx]
   show _ ≤ Rows.uptoBulk (DataW.slice _ _)
   simp only [Rows.uptoBulk]
   omega
/-- The fields of a value: where, of which type, how many cells. -/
structure JVT (P : Program) (t : TypeId) (fs : Array Field) (f0 f1 f2 f3 f4 : Field) (us : TypeId) : Prop where
 und : P.underlying t = some (.struct fs)
 size : P.cellsOf t = 5
 at_ : fs = #[f0, f1, f2, f3, f4]
 off : [f0, f1, f2, f3, f4].map (fun f => (f.offset, P.cellsOf f.type)) = [(0, 1), (1, 1), (2, 1), (3, 1), (4, 1)]
 typ : [f0, f1, f2, f3, f4].map (fun f => P.underlying f.type) = [some (.int .i64), some (.int .i64), some .string, some (.slice us), some (.slice t)]
 str : P.underlying us = some .string
 sone : P.cellsOf us = 1
end
end Go.Proofs.YtlhicfpmlncomaaGreatDoor

namespace Go.Proofs.YtlhicfpmlncomaaGreatDoor
open Go.RowKit
def smallB (c : UInt8) : Bool := decide (97 ≤ c.toNat ∧ c.toNat ≤ 122 ∨ 48 ≤ c.toNat ∧ c.toNat ≤ 57)
def signB (c : UInt8) : Bool := decide ((97 ≤ c.toNat ∧ c.toNat ≤ 122 ∨ 48 ≤ c.toNat ∧ c.toNat ≤ 57) ∨ 65 ≤ c.toNat ∧ c.toNat ≤ 90)
/-- The machine of a repository's name: 0 at the beginning of a part, 1 within a run, 2 behind a separator that is whole, 3 behind one _, 4 behind some -. -/
def step (q : Nat) (c : UInt8) : Option Nat :=
 if smallB c = true then some 1 else if c = 47 then (if q = 1 then some 0 else none) else if c = 46 then (if q = 1 then some 2 else none)
 else if c = 95 then (if q = 1 then some 3 else if q = 3 then some 2 else none) else if c = 45 then (if q = 1 ∨ q = 4 then some 4 else none) else none
def acc : Nat → List UInt8 → Bool
 | q, [] => q == 1
 | q, c :: l => match step q c with
  | none => false
  | some q' => acc q' l
/-- What a byte is to the machine. -/
theorem kind (c : UInt8) : smallB c = true ∨ c = 47 ∨ c = 46 ∨ c = 95 ∨ c = 45 ∨ (smallB c = false ∧ c ≠ 47 ∧ c ≠ 46 ∧ c ≠ 95 ∧ c ≠ 45) := by
 by_cases h : smallB c = true
 ·exact .inl h
 ·by_cases h1 : c = 47
  ·exact .inr (.inl h1)
  ·by_cases h2 : c = 46
   ·exact .inr (.inr (.inl h2))
   ·by_cases h3 : c = 95
    ·exact .inr (.inr (.inr (.inl h3)))
    ·by_cases h4 : c = 45
     ·exact .inr (.inr (.inr (.inr (.inl h4))))
     ·exact .inr (.inr (.inr (.inr (.inr ⟨by simpa using h, h1, h2, h3, h4⟩))))
end Go.Proofs.YtlhicfpmlncomaaGreatDoor

namespace Go.Proofs.YtlhicfpmlncomaaGreatDoor
open Go.RowKit
def findN (c : UInt8) : List UInt8 → Nat
 | [] => 0
 | d :: l => if d = c then 0 else findN c l + 1
theorem findN_le (c : UInt8) : ∀ l, findN c l ≤ l.length
 | [] => Nat.le_refl _
 | d :: l => by unfold findN; have := findN_le c l; split <;> simp <;> omega
theorem index_find (c : UInt8) : ∀ l : List UInt8, Lib.index l [c] = if findN c l < l.length then (findN c l : Int) else -1
 | [] => rfl
 | d :: l => by
  have ih := index_find c l
  unfold Lib.index findN
  by_cases h : d = c
  ·subst h
   rw [if_pos (by simp [List.isPrefixOf]), if_pos rfl, if_pos (by simp)]; rfl
  ·rw [if_neg (by simp [List.isPrefixOf]; exact fun e => h e.symm), if_neg h, ih]
   have := findN_le c l
   by_cases h2 : findN c l < l.length
   ·rw [if_pos h2, if_neg (by rw [beq_iff_eq]; omega), if_pos (by simpa using h2)]; simp
   ·rw [if_neg h2, if_pos (by rfl), if_neg (by simpa using h2)]
theorem cut_find (c : UInt8) (l : List UInt8) : Lib.cut l [c] = if findN c l < l.length then (l.take (findN c l), l.drop (findN c l + 1), true) else (l, [], false) := by
 unfold Lib.cut
 rw [index_find]
 by_cases h : findN c l < l.length
 ·rw [if_pos h, if_pos (by omega), if_pos h]; simp
 ·rw [if_neg h, if_neg (by omega), if_neg h]
theorem all_at {p : UInt8 → Bool} {l : List UInt8} (h : ∀ (j : Nat) c, l[j]? = some c → p c = true) : l.all p = true :=
 List.all_eq_true.2 fun c hc => by obtain ⟨j, hj⟩ := List.mem_iff_getElem?.1 hc; exact h j c hj
theorem all_not {p : UInt8 → Bool} {l : List UInt8} {k : Nat} {c : UInt8} (h : l[k]? = some c) (hc : p c = false) : l.all p = false := by
 cases ha : l.all p with
 | false => rfl
 | true => have := List.all_eq_true.1 ha c (List.mem_of_getElem? h); rw [hc] at this; cases this
/-! media types -/
def moreS : ByteArray := ⟨#[33, 35, 36, 38, 45, 94, 95, 46, 43]⟩
def moreB (c : UInt8) : Bool := moreS.data.toList.any (· == c)
theorem indexByte_any (c : UInt8) : ∀ l : List UInt8, decide (Lib.indexByte l c < 0) = !(l.any (· == c))
 | [] => rfl
 | d :: l => by
  have ih := indexByte_any c l
  have hge := Lib.indexByte_ge l c
  unfold Lib.indexByte
  rw [List.any_cons]
  by_cases h : (d == c) = true
  ·rw [if_pos h, h]; rfl
  ·have hf : (d == c) = false := by simpa using h
   rw [if_neg h, hf, Bool.false_or, ← ih]
   by_cases h2 : Lib.indexByte l c = -1
   ·rw [if_pos (beq_iff_eq.2 h2), h2]
   ·rw [if_neg (by rw [beq_iff_eq]; exact h2)]
    have h3 : ¬ Lib.indexByte l c < 0 := by omega
    have h4 : ¬ Lib.indexByte l c + 1 < 0 := by omega
    rw [decide_eq_false h3, decide_eq_false h4]
def restC (c : UInt8) : Bool := signB c || moreB c
def halfB : List UInt8 → Bool
 | [] => false
 | c :: l => signB c && l.all restC
def mediaB (l : List UInt8) : Bool := decide (findN 47 l < l.length) && decide (l.length ≤ 127) && (halfB (l.take (findN 47 l)) && halfB (l.drop (findN 47 l + 1)))
end Go.Proofs.YtlhicfpmlncomaaGreatDoor

namespace Go.Proofs.YtlhicfpmlncomaaGreatDoor
end Go.Proofs.YtlhicfpmlncomaaGreatDoor

namespace Go.Proofs.YtlhicfpmlncomaaGreatDoor
theorem hexd_hexv (c v : UInt8) (h : hexv c = some v) : hexd v = c ∧ v.toNat < 16 := by
 have : ∀ n : Fin 256, ((hexv (UInt8.ofNat n.val)).map (fun v => decide (hexd v = UInt8.ofNat n.val ∧ v.toNat < 16))).getD true = true := by decide +kernel
 have h2 := this ⟨c.toNat, c.toNat_lt⟩
 simp only [UInt8.ofNat_toNat] at h2
 rw [h] at h2
 exact of_decide_eq_true h2
theorem nib_div (x y : UInt8) (hx : x.toNat < 16) (hy : y.toNat < 16) : (16 * x + y) / 16 = x ∧ (16 * x + y) % 16 = y := by
 have : ∀ n m : Fin 16, (16 * UInt8.ofNat n.val + UInt8.ofNat m.val) / 16 = UInt8.ofNat n.val ∧ (16 * UInt8.ofNat n.val + UInt8.ofNat m.val) % 16 = UInt8.ofNat m.val := by decide +kernel
 have h2 := this ⟨x.toNat, hx⟩ ⟨y.toNat, hy⟩
 simpa using h2
theorem hex_unhex : ∀ (s r : List UInt8), unhexL s = some r → hexL r = s
 | [], r, h => by rw [unhexL] at h; injection h with h; subst h; rfl
 | [a], r, h => by rw [unhexL] at h; cases h
 | a :: b :: s, r, h => by
  rw [unhexL] at h
  cases ha : hexv a with
  | none => rw [ha] at h; cases h
  | some x =>
   cases hb : hexv b with
   | none => rw [ha, hb] at h; cases h
   | some y =>
    cases hs : unhexL s with
    | none => rw [ha, hb, hs] at h; cases h
    | some q =>
     rw [ha, hb, hs] at h
     injection h with h
     subst h
     have h1 := hexd_hexv a x ha
     have h2 := hexd_hexv b y hb
     have h3 := nib_div x y h1.2 h2.2
     rw [hexL, h3.1, h3.2, h1.1, h2.1, hex_unhex s q hs]
end Go.Proofs.YtlhicfpmlncomaaGreatDoor

namespace Go.Proofs.YtlhicfpmlncomaaGreatDoor
open Go.RowKit
def zeros : List UInt8 := List.replicate 32 0
theorem zeros_len : (zeros.map bv).length = 32 := by simp [zeros]
def sha7 : List UInt8 := [115, 104, 97, 50, 53, 54, 58]
def dgP (l : List UInt8) : Option (List UInt8) := if l.length = 71 ∧ l.take 7 = sha7 then unhexL (l.drop 7) else none
theorem hexL_len2 : ∀ l : List UInt8, (hexL l).length = 2 * l.length
 | [] => rfl
 | d :: l => by rw [hexL]; simp [hexL_len2 l]; omega
theorem dgP_len {l d : List UInt8} (h : dgP l = some d) : d.length = 32 := by
 unfold dgP at h
 split at h
 ·rename_i hh
  have h1 := hex_unhex _ _ h
  have h2 := hexL_len2 d
  rw [h1, List.length_drop, hh.1] at h2
  omega
 ·cases h
theorem dgP_no1 {l : List UInt8} (h : l.length ≠ 71) : dgP l = none := by unfold dgP; rw [if_neg (fun hh => h hh.1)]
theorem dgP_no2 {l : List UInt8} (h : l.take 7 ≠ sha7) : dgP l = none := by unfold dgP; rw [if_neg (fun hh => h hh.2)]
theorem dgP_yes {l : List UInt8} (h : l.length = 71) (h2 : l.take 7 = sha7) : dgP l = unhexL (l.drop 7) := by unfold dgP; rw [if_pos ⟨h, h2⟩]
end Go.Proofs.YtlhicfpmlncomaaGreatDoor
