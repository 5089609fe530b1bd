/-
  Layer 6: the walk of the program's Parse: faults are caught.
  Layer 6: answers that the document fixes.
  Layer 6, plain law: a fault has a number. No program is named here.
  Layer 6: the document's reader: faults, the next byte, blanks.
  A text appended to bytes that the call owns, over a frame of known blocks. No program is named here.
  A sign of a text, by its place: the laws of the operation. No program is named here.
-/
import Derived.Test.YtdekogmegdhjoaaDoorM10
import Derived.Test.YtdekogmegdhjoaaDoorM04
import Derived.Defers
import Derived.Recover
import Derived.Test.YtdekogmegdhjoaaDoorM01
import Derived.Test.YtdekogmegdhjoaaDoorM06
import Derived.Lib.AppendStr
namespace Go.Proofs.YtdekogmegdhjoaaDoor
open Go.RowKit
set_option linter.unusedSimpArgs false

section
variable {P : Program} {X : List Nat} {w0 w : World} {es : List Ent}
theorem run_loadF1 (hF : Fr X w0 w es) {i g : Nat} {t : TypeId} {u : Value} (hi : es[i]? = some (.blk g t [u])) {ty : TypeId} {d : TypeDesc} (hu : P.underlying ty = some d) (hd : aggT d = false) :
    (loadVar ty ⟨g, 0, none⟩).run P w = .ok u w := by
  have hcell : w.cell? ⟨g, 0, none⟩ = some u := by rw [cell_of_row w g 0 _ t (0, 0) (hF.blk hi)]; rfl
  have hagg := run_isAgg hu w
  rw [hd] at hagg
  simp [loadVar, hagg, hcell]
/-- Three results that lie in cells: a struct, two numbers. -/
theorem results_cells3 {fn : Func} {p q r : Tmp} {t1 t2 t3 : TypeId} (h : fn.results = #[.cell p t1, .cell q t2, .cell r t3]) (tmps : Array Value) (hF : Fr X w0 w es) {i j k g1 g2 g3 : Nat} {s1 s2 s3 : TypeId} {cs : List Value} {u v : Value}
    (hi : es[i]? = some (.blk g1 s1 cs)) (hj : es[j]? = some (.blk g2 s2 [u])) (hk : es[k]? = some (.blk g3 s3 [v])) (hp : tmps.getD p undef = .pointer (some ⟨g1, 0, none⟩)) (hq : tmps.getD q undef = .pointer (some ⟨g2, 0, none⟩)) (hr : tmps.getD r undef = .pointer (some ⟨g3, 0, none⟩))
    {d1 d2 d3 : TypeDesc} (hu1 : P.underlying t1 = some d1) (hd1 : aggT d1 = true) (hs : (P.info? t1).map (·.size) = some cs.length) (hu2 : P.underlying t2 = some d2) (hd2 : aggT d2 = false) (hu3 : P.underlying t3 = some d3) (hd3 : aggT d3 = false) :
    (results fn tmps).run P w = .ok (.tuple #[.agg cs.toArray, u, v]) w := by
  have hp' : tmps[p]?.getD undef = .pointer (some ⟨g1, 0, none⟩) := by simpa using hp
  have hq' : tmps[q]?.getD undef = .pointer (some ⟨g2, 0, none⟩) := by simpa using hq
  have hr' : tmps[r]?.getD undef = .pointer (some ⟨g3, 0, none⟩) := by simpa using hr
  simp [results, h, hp', hq', hr', asAddr, run_loadF hF hi hu1 hd1 hs, run_loadF1 hF hj hu2 hd2, run_loadF1 hF hk hu3 hd3]
end
def ftL (x : Nat × Nat) : List Value := [.int .i64 (x.1 : Int), .int .i64 (x.2 : Int)]
abbrev ft0 : List Value := [.int .i64 0, .int .i64 0]
theorem ft_one (a b : Int) : ∀ u ∈ [Value.int .i64 a, Value.int .i64 b], u.oneCell' = true := by
  intro u hu
  simp only [List.mem_cons, List.not_mem_nil, or_false] at hu
  rcases hu with rfl | rfl <;> rfl
theorem spl1 (u v : Value) : spl [u] 0 [v] = [v] := rfl
theorem ft_fit (a b : Int) : 0 + [Value.int .i64 a, Value.int .i64 b].length ≤ ft0.length := Nat.le_refl 2
theorem ft_spl (a b : Int) : spl ft0 0 [Value.int .i64 a, Value.int .i64 b] = [Value.int .i64 a, Value.int .i64 b] := rfl

/-- The deferred closure, where nothing is wrong. -/
theorem catch_idle (a b c : Value) (w : World) :
    CallsD Tryd.prog 24 #[a, b, c] .returning w fun e u' w' => e = .returned (.tuple #[]) ∧ u' = .returning ∧ w' = w := by
  refine callsD_of_wpS Tryd.func24 rfl fun c₀ cs hu => ?_
  apply wpS_seq
  apply wpS_region
  simp [wpOpsS, go_sem, recoverD, hu, Tryd.ntmps24, Exit.thenS]
  refine wpS_of_wp ?_
  simp only [Array.replicate, List.replicate, List.setIfInBounds_toArray, List.set_cons_zero, List.set_cons_succ, List.append_toArray, List.cons_append, List.nil_append]
  go_wp2
  cases c₀
  simp_all [bodyPostS, results, Tryd.results24]
set_option maxRecDepth 20000 in
set_option maxHeartbeats 3200000 in
/-- .. and where a fault goes up. -/
theorem catch_flt (g1 g2 g3 : Nat) (x : Nat × Nat) (X : List Nat) (w0 w : World) (cs1 : List Value) (u v : Value) (rest : List Ent) (hl : cs1.length = 5)
    (hF : Fr X w0 w (.blk g1 27 cs1 :: .blk g2 3 [u] :: .blk g3 28 [v] :: rest)) :
    CallsD Tryd.prog 24 #[.pointer (some ⟨g1, 0, none⟩), .pointer (some ⟨g2, 0, none⟩), .pointer (some ⟨g3, 0, none⟩)] (.panicking [{ v := .iface 59 (.agg #[.int .i64 (x.1 : Int), .int .i64 (x.2 : Int)]), recovered := false }]) w fun e u' w' =>
      e = .returned (.tuple #[]) ∧ u' = .panicking [{ v := .iface 59 (.agg #[.int .i64 (x.1 : Int), .int .i64 (x.2 : Int)]), recovered := true }] ∧ Fr X w0 w' (.blk g1 27 vl0 :: .blk g2 3 [.int .i64 (x.1 : Int)] :: .blk g3 28 [.int .i64 (x.2 : Int)] :: rest) := by
  refine callsD_of_wpS Tryd.func24 rfl fun c₀ cs hu => ?_
  apply wpS_seq
  apply wpS_region
  simp [wpOpsS, go_sem, recoverD, hu, Tryd.ntmps24, Exit.thenS]
  have hta : ∀ (v : Value) (w : World), (Instr.typeAssert (.iface 59 v) 20 59 true).run Tryd.prog w = .ok (.tuple #[v, .bool true]) w := fun _ _ => rfl
  refine wpS_of_wp ?_
  simp only [Array.replicate, List.replicate, List.setIfInBounds_toArray, List.set_cons_zero, List.set_cons_succ, List.append_toArray, List.cons_append, List.nil_append]
  go_wp2_with (first | ((with_reducible refine lst (by with_unfolding_all rfl) (wp_falloc hF (cs := ft0) (z := .agg (List.toArray (ft0))) rfl (by kernel_rfl) (by with_unfolding_all rfl) ?_)); intro w5 g5 hF5 hz5) | ((with_reducible refine lst (by with_unfolding_all rfl) (wp_fstA0 hF5 (by with_unfolding_all exact ⟨_, _, rfl, rfl, rfl⟩) (by kernel_rfl) (ft_one _ _) (ft_fit _ _) (ft_spl _ _) ?_)); intro w6 hF6 hz6))
  have hsp : spl cs1 0 vl0 = vl0 := spl_all (by rw [hl]; rfl)
  have hFd := hF6.drew
  refine wp_region_held (S := fun w' => w'.heap[g5]? = some (.cells (List.toArray [.int .i64 (x.1 : Int), .int .i64 (x.2 : Int)]) 59 (0, 0))) (by kernel_rfl) ?_
  change wpAnyH _ _ _ _ _ _ _ _ (World.drew _)
  refine tkp 0 (hFd.blk (i := 0) rfl) ?_
  (try simp only [Act.put, List.setIfInBounds_toArray, List.set_cons_zero, List.set_cons_succ])
  refine tkp 1 (hFd.blk (i := 0) rfl) ?_
  (try simp only [Act.put, List.setIfInBounds_toArray, List.set_cons_zero, List.set_cons_succ])
  refine tky 2 (y := yi_fld (by with_unfolding_all rfl) (fun _ h => h) Tryd.underlying3 rfl (by with_unfolding_all exact ⟨_, rfl, rfl⟩) rfl) (s := (hFd.blk (i := 0) rfl)) (h := ?_)
  (try simp only [Act.put, List.setIfInBounds_toArray, List.set_cons_zero, List.set_cons_succ])
  refine tkp 3 (hFd.blk (i := 0) rfl) ?_
  (try simp only [Act.put, List.setIfInBounds_toArray, List.set_cons_zero, List.set_cons_succ])
  refine tky 4 (y := yi_fld (by with_unfolding_all rfl) (fun _ h => h) Tryd.underlying28 rfl (by with_unfolding_all exact ⟨_, rfl, rfl⟩) rfl) (s := (hFd.blk (i := 0) rfl)) (h := ?_)
  (try simp only [Act.put, List.setIfInBounds_toArray, List.set_cons_zero, List.set_cons_succ])
  refine rdy1 5 (fun K hK => ?_)
  refine stp (by with_unfolding_all rfl) (wp_fstA hFd (i := 1) rfl (ds := vl0) (by with_unfolding_all exact ⟨_, _, rfl, rfl, rfl⟩) (by kernel_rfl) vlL_one (by rw [vlL_len, hl]; decide) ?_)
  intro w11 hF11 hz11
  (try simp only [List.set_cons_zero, List.set_cons_succ] at hF11)
  rw [hsp] at hF11
  refine hK.out _ _ ((hF11.blk (i := 0) rfl)) (fun _ => ?_)
  clear hK K
  (try simp only [Act.put, List.setIfInBounds_toArray, List.set_cons_zero, List.set_cons_succ])
  refine rdy1 6 (fun K hK => ?_)
  refine stp (by with_unfolding_all rfl) (wp_fst hF11 (i := 2) rfl (v := .int .i64 (x.1 : Int)) (by with_unfolding_all exact ⟨_, _, rfl, rfl, rfl⟩) (by kernel_rfl) rfl rfl (by simp) ?_)
  intro w12 hF12 hz12
  (try simp only [List.set_cons_zero, List.set_cons_succ] at hF12)
  rw [spl1] at hF12
  refine hK.out _ _ ((hF12.blk (i := 0) rfl)) (fun _ => ?_)
  clear hK K
  (try simp only [Act.put, List.setIfInBounds_toArray, List.set_cons_zero, List.set_cons_succ])
  refine rdy1 7 (fun K hK => ?_)
  refine stp (by with_unfolding_all rfl) (wp_fst hF12 (i := 3) rfl (v := .int .i64 (x.2 : Int)) (by with_unfolding_all exact ⟨_, _, rfl, rfl, rfl⟩) (by kernel_rfl) rfl rfl (by simp) ?_)
  intro w13 hF13 hz13
  (try simp only [List.set_cons_zero, List.set_cons_succ] at hF13)
  rw [spl1] at hF13
  refine hK.out _ _ ((hF13.blk (i := 0) rfl)) (fun _ => ?_)
  clear hK K
  (try simp only [Act.put, List.setIfInBounds_toArray, List.set_cons_zero, List.set_cons_succ])
  refine wpAnyH_done (by kernel_rfl) ?_ _
  go_wp2_with fail
  exact ⟨rfl, _, rfl, _, by simp [results, Tryd.results24], rfl, rfl, hF13.tail⟩

theorem Fr.lost {X : List Nat} {w0 w w' : World} {es : List Ent} {g : Nat} {t : TypeId} {cs : List Value} (hF : Fr X w0 w (.blk g t cs :: es)) (hg : w.grownBy w' (some g)) : Fr X w0 w' es :=
  hF.tail.step hg (fun i e he => by
    rcases hF.apart (i + 1) 0 e _ he rfl (by omega) with h | h
    · exact .inl h
    · exact .inr h) (fun k hk => by injection hk with hk; subst hk; exact hF.fresh 0 _ rfl _ rfl)
/-- What Parse tells. -/
def ParseEnd (w : World) (r : JR JV) (e : Ending) (w' : World) : Prop :=
  match r with
  | .ok v => ∃ cs es, e = .returned (.tuple #[.agg cs.toArray, .int .i64 0, .int .i64 0]) ∧ VT v cs es ∧ Fr [] w w' es
  | .error x => e = .returned (.tuple #[.agg vl0.toArray, .int .i64 (x.1 : Int), .int .i64 (x.2 : Int)]) ∧ Below w.heap.size w w'
def rdrP : List (Nat × Nat) := [(0, 1), (1, 1), (2, 1)]
abbrev rdr0 : List Value := [.slice none 0 0, .int .i64 0, .int .i64 0]
set_option maxRecDepth 20000 in
set_option maxHeartbeats 6400000 in
theorem parse_any (A : Option Addr) (n c : Nat) (b : List UInt8) (w : World) (hL : LibsAt w.heap.size w) (hnc : n ≤ c) (hn47 : n ≤ 140737488355328) (hr : Rd w (· < w.heap.size) A 1 n (b.map bv)) :
    Calls Tryd.prog 11 #[.slice A n c] w (ParseEnd w (jParse b)) := by
  have hl := box hr.bytes_len
  have hmf : ∀ (fn : Fn) (first cap : Array Value) (w : World), (Instr.makeFunc fn first cap).run Tryd.prog w = .ok (.func fn first cap) w := fun _ _ _ _ => rfl
  have hF0 := Fr.nil w
  by_cases hbig : 65536 < n
  · have hend : Box (jParse b = .error (0, 8)) := box (by unfold jParse; rw [if_pos (by rw [hl.out]; exact hbig)])
    have d1 : decide ((65536 : Int) < (n : Int)) = true := decide_eq_true (by omega)
    replace hn47 := box hn47
    replace hbig := box hbig
    go_enter_defers Tryd.func11, Tryd.ntmps11
    go_wp2_with (first | ((with_reducible refine lst (by with_unfolding_all rfl) (wp_falloc hF0 (cs := vl0) (z := .agg (List.toArray (vl0))) rfl (by kernel_rfl) (by with_unfolding_all rfl) ?_)); intro w1 g1 hF1 hz1) | ((with_reducible refine lst (by with_unfolding_all rfl) (wp_falloc hF1 (cs := [(.int .i64 0)]) (z := (.int .i64 0)) rfl (by kernel_rfl) (by with_unfolding_all rfl) ?_)); intro w2 g2 hF2 hz2) | ((with_reducible refine lst (by with_unfolding_all rfl) (wp_falloc hF2 (cs := [(.int .i64 0)]) (z := (.int .i64 0)) rfl (by kernel_rfl) (by with_unfolding_all rfl) ?_)); intro w3 g3 hF3 hz3) | (with_reducible refine lst (by with_unfolding_all rfl) (wp_fbuild Tryd.underlying27 (z := .agg (List.toArray vl0)) (by kernel_rfl) (pl := vlP) (by kernel_rfl) (cs := vl0) rfl (vs := []) (by with_unfolding_all rfl) (by with_unfolding_all rfl) ?_)) | ((with_reducible refine lst (by with_unfolding_all rfl) (wp_fstA2 hF3 (by with_unfolding_all exact ⟨_, _, rfl, rfl, rfl⟩) (by rw [vlL_len]; kernel_rfl) vlL_one vlL_fit vlL_spl ?_)); intro w4 hF4 hz4) | ((with_reducible refine lst (by with_unfolding_all rfl) (wp_fst1 hF4 (by with_unfolding_all exact ⟨_, _, rfl, rfl, rfl⟩) (by kernel_rfl) rfl rfl (by first | decide | (simp; done) | (simp; omega)) (spl1 _ (.int .i64 0)) ?_)); intro w5 hF5 hz5) | ((with_reducible refine lst (by with_unfolding_all rfl) (wp_fst0 hF5 (by with_unfolding_all exact ⟨_, _, rfl, rfl, rfl⟩) (by kernel_rfl) rfl rfl (by first | decide | (simp; done) | (simp; omega)) (spl1 _ (.int .i64 8)) ?_)); intro w6 hF6 hz6))
    exact ⟨_, results_cells3 rfl _ hF6 (i := 2) (j := 1) (k := 0) rfl rfl rfl rfl rfl rfl Tryd.underlying27 rfl (by rw [vlL_len]; kernel_rfl) Tryd.underlying3 rfl Tryd.underlying28 rfl, by
      unfold ParseEnd
      rw [hend.out]
      exact ⟨rfl, hF6.below⟩⟩
  · have d1 : decide ((65536 : Int) < (n : Int)) = false := decide_eq_false (by omega)
    have hJ : jParse b = match jValue b 16 (jBlanks b 0) 0 with
      | .error x => .error x
      | .ok (v, p, _) => if jBlanks b p < b.length then .error (jBlanks b p, 10) else .ok v := by unfold jParse; rw [if_neg (by rw [hl.out]; exact hbig)]; rfl
    replace hJ := box hJ
    have hn : n ≤ 65536 := by omega
    clear hn47 hbig
    have hb0 : jBlanks b 0 ≤ n := by have := jBlanks_le b (p := 0) (Nat.zero_le _); rw [hl.out] at this; exact this
    go_enter_defers Tryd.func11, Tryd.ntmps11
    go_wp2_with (first | ((with_reducible refine lst (by with_unfolding_all rfl) (wp_falloc hF0 (cs := vl0) (z := .agg (List.toArray (vl0))) rfl (by kernel_rfl) (by with_unfolding_all rfl) ?_)); intro w1 g1 hF1 hz1) | ((with_reducible refine lst (by with_unfolding_all rfl) (wp_falloc hF1 (cs := [(.int .i64 0)]) (z := (.int .i64 0)) rfl (by kernel_rfl) (by with_unfolding_all rfl) ?_)); intro w2 g2 hF2 hz2) | ((with_reducible refine lst (by with_unfolding_all rfl) (wp_falloc hF2 (cs := [(.int .i64 0)]) (z := (.int .i64 0)) rfl (by kernel_rfl) (by with_unfolding_all rfl) ?_)); intro w3 g3 hF3 hz3) | (with_reducible refine lst (by with_unfolding_all rfl) (wp_fbuild Tryd.underlying63 (z := .agg (List.toArray rdr0)) (by kernel_rfl) (pl := rdrP) (by kernel_rfl) (cs := (rdrL A n c 0 0)) rfl (vs := [(0, .slice A n c)]) (by with_unfolding_all rfl) (by with_unfolding_all rfl) ?_)) | ((with_reducible refine lst (by with_unfolding_all rfl) (wp_fbox hF3 (cs := (rdrL A n c 0 0)) rfl (by with_unfolding_all rfl) (by with_unfolding_all rfl) ?_)); intro w4 g4 hF4 hz4))
    clear hF0 hF1 hF2 hF3
    have hg4 : w.heap.size ≤ g4 := by
      rcases hF4.fresh 0 _ rfl _ rfl with h | h
      · exact h
      · simp at h
    have hbl := box (blanks_any g4 A n c 0 0 w.heap.size b w4 (hF4.blk (i := 0) rfl) hg4 hF4.size (by omega) (Nat.zero_le _) (hr.below hF4.below))
    refine hbl.out.mono ?_
    rintro e w5 ⟨rfl, h5⟩
    have hF5 := hF4.putF (i := 0) rfl h5
    simp only [List.set_cons_succ, List.set_cons_zero] at hF5
    clear hbl h5 hF4
    have hva := box (value_any 16 0 rfl w5 g4 A n c (jBlanks b 0) 0 w.heap.size b (hL.on hF5.below) (hF5.blk (i := 0) rfl) hg4 hF5.size hn hnc hb0 (by omega) (hr.below hF5.below))
    cases hv : jValue b 16 (jBlanks b 0) 0 with
    | error x =>
      have hend : Box (jParse b = .error x) := box (by rw [hJ.out, hv])
      rw [hv] at hva
      unfold JEndP at hva
      simp only [] at hva
      clear hv hJ
      go_wp2_with fail
      refine hva.out.mono ?_
      rintro e w6 ⟨rfl, hg6⟩
      have hF6 := (hF5.lost hg6).perm (es' := [.blk g1 27 vl0, .blk g2 3 [.int .i64 0], .blk g3 28 [.int .i64 0]]) (List.reverse_perm _).symm
      dsimp only [flt]
      go_wp2
      refine leaves_cons (f := 24) (args := #[.pointer (some ⟨g1, 0, none⟩), .pointer (some ⟨g2, 0, none⟩), .pointer (some ⟨g3, 0, none⟩)]) (by simp) (by simp [go_sem]) ?_
      refine (catch_flt g1 g2 g3 x [] w w6 _ _ _ [] rfl hF6).mono ?_
      rintro e u' w7 ⟨rfl, rfl, hF7⟩
      exact ⟨_, results_cells3 rfl _ hF7 (i := 0) (j := 1) (k := 2) rfl rfl rfl rfl rfl rfl Tryd.underlying27 rfl (by rw [vlL_len]; kernel_rfl) Tryd.underlying3 rfl Tryd.underlying28 rfl, by
        unfold ParseEnd
        rw [hend.out]
        exact ⟨rfl, hF7.below⟩⟩
    | ok y =>
      obtain ⟨v, q, m'⟩ := y
      have hq := (jValue_len 16 _ _ _ _ _ (by omega) hv).2.1
      rw [hl.out] at hq
      have hq1 : jBlanks b q ≤ n := by have := jBlanks_le b (p := q) (by rw [hl.out]; exact hq); rw [hl.out] at this; exact this
      have hJ2 := hJ.out
      rw [hv] at hJ2 hva
      simp only [] at hJ2
      replace hJ2 := box hJ2
      unfold JEndP ToldV at hva
      simp only [] at hva
      clear hv hJ
      go_wp2_with fail
      refine hva.out.mono ?_
      rintro e w6 ⟨cs, es, rfl, hvt, h6⟩
      have hF6 := hF5.putG (i := 0) rfl h6
      simp only [List.set_cons_succ, List.set_cons_zero, List.cons_append, List.nil_append] at hF6
      have hvl := box hvt.len
      have hvo := box hvt.one
      replace hvt := box hvt
      clear hva h6 hF5
      go_wp2_with (first | ((with_reducible refine lst (by with_unfolding_all rfl) (wp_fstA3 hF6 (by with_unfolding_all exact ⟨_, _, rfl, rfl, rfl⟩) (by rw [hvl.out]; kernel_rfl) hvo.out (by rw [hvl.out, vlL_len]; decide) (spl_all (by rw [hvl.out, vlL_len])) ?_)); intro w7 hF7 hz7))
      clear hF6
      have hbl := box (blanks_any g4 A n c q m' w.heap.size b w7 (hF7.blk (i := 0) rfl) hg4 hF7.size (by omega) hq (hr.below hF7.below))
      refine hbl.out.mono ?_
      rintro e w8 ⟨rfl, h8⟩
      have hF8 := hF7.putF (i := 0) rfl h8
      simp only [List.set_cons_succ, List.set_cons_zero] at hF8
      clear hbl h8 hF7
      by_cases hlt : jBlanks b q < n
      · have hend : Box (jParse b = .error (jBlanks b q, 10)) := box (by rw [hJ2.out, if_pos (by rw [hl.out]; exact hlt)])
        have hfl := box (fun v w => fail_any v (jBlanks b q) 10 w)
        clear hJ2
        go_wp2_with (first | (with_reducible refine lst (by with_unfolding_all rfl) (wp_fld0 hF8 Tryd.underlying3 rfl (by with_unfolding_all exact ⟨_, rfl, rfl⟩) rfl ?_)))
        refine (hfl.out _ _).mono ?_
        rintro e w9 ⟨rfl, rfl⟩
        have hF9 := (hF8.tail.sub (es' := [.blk g3 28 [.int .i64 0], .blk g2 3 [.int .i64 0], .blk g1 27 cs]) (((List.nil_sublist _).cons_cons _).cons_cons _ |>.cons_cons _)).perm (es' := [.blk g1 27 cs, .blk g2 3 [.int .i64 0], .blk g3 28 [.int .i64 0]]) (List.reverse_perm _).symm
        dsimp only [flt]
        go_wp2
        refine leaves_cons (f := 24) (args := #[.pointer (some ⟨g1, 0, none⟩), .pointer (some ⟨g2, 0, none⟩), .pointer (some ⟨g3, 0, none⟩)]) (by simp) (by simp [go_sem]) ?_
        refine (catch_flt g1 g2 g3 (jBlanks b q, 10) [] w _ _ _ _ [] hvl.out hF9).mono ?_
        rintro e u' w10 ⟨rfl, rfl, hF10⟩
        exact ⟨_, results_cells3 rfl _ hF10 (i := 0) (j := 1) (k := 2) rfl rfl rfl rfl rfl rfl Tryd.underlying27 rfl (by rw [vlL_len]; kernel_rfl) Tryd.underlying3 rfl Tryd.underlying28 rfl, by
          unfold ParseEnd
          rw [hend.out]
          exact ⟨rfl, hF10.below⟩⟩
      · have hend : Box (jParse b = .ok v) := box (by rw [hJ2.out, if_neg (by rw [hl.out]; exact hlt)])
        clear hJ2
        go_wp2_with (first | (with_reducible refine lst (by with_unfolding_all rfl) (wp_fld0 hF8 Tryd.underlying3 rfl (by with_unfolding_all exact ⟨_, rfl, rfl⟩) rfl ?_)) | (with_reducible refine lst (by with_unfolding_all rfl) (wp_fldA3 hF8 Tryd.underlying27 rfl (by with_unfolding_all exact ⟨_, rfl, rfl⟩) (ds := cs) (by rw [hvl.out]; kernel_rfl) (take_all _) ?_)) | ((with_reducible refine lst (by with_unfolding_all rfl) (wp_fstA3 hF8 (by with_unfolding_all exact ⟨_, _, rfl, rfl, rfl⟩) (by rw [hvl.out]; kernel_rfl) hvo.out (by rw [hvl.out]; decide) (spl_all rfl) ?_)); intro w9 hF9 hz9) | ((with_reducible refine lst (by with_unfolding_all rfl) (wp_fst2 hF9 (by with_unfolding_all exact ⟨_, _, rfl, rfl, rfl⟩) (by kernel_rfl) rfl rfl (by first | decide | (simp; done) | (simp; omega)) (spl1 _ (.int .i64 0)) ?_)); intro w10 hF10 hz10) | ((with_reducible refine lst (by with_unfolding_all rfl) (wp_fst1 hF10 (by with_unfolding_all exact ⟨_, _, rfl, rfl, rfl⟩) (by kernel_rfl) rfl rfl (by first | decide | (simp; done) | (simp; omega)) (spl1 _ (.int .i64 0)) ?_)); intro w11 hF11 hz11))
        refine leaves_cons (f := 24) (args := #[.pointer (some ⟨g1, 0, none⟩), .pointer (some ⟨g2, 0, none⟩), .pointer (some ⟨g3, 0, none⟩)]) (by simp) (by simp [go_sem]) ?_
        refine (catch_idle _ _ _ _).mono ?_
        rintro e u' w12 ⟨rfl, rfl, rfl⟩
        exact ⟨_, results_cells3 rfl _ hF11 (i := 3) (j := 2) (k := 1) rfl rfl rfl rfl rfl rfl Tryd.underlying27 rfl (by rw [hvl.out]; kernel_rfl) Tryd.underlying3 rfl Tryd.underlying28 rfl, by
          unfold ParseEnd
          rw [hend.out]
          exact ⟨cs, es, rfl, hvt.out, hF11.tail.tail.tail.tail⟩⟩
end Go.Proofs.YtdekogmegdhjoaaDoor

namespace Go.Proofs.YtdekogmegdhjoaaDoor
open Go.RowKit
set_option linter.unusedSimpArgs false

theorem wp_fmark {P : Program} {o : Oper} {a : Act} {K : Act → World → Prop} {Q : Exit → Act → World → Prop} {X : List Nat} {w0 w : World} {es : List Ent} {t e : TypeId} {size bytes : Nat} {z : Value} (T : SlT P t e size bytes z) (he : P.underlying e = some (.int .u8)) {b g n c : Nat} {el : TypeId} {xs : List Value}
    (hF : Fr X w0 w (.own b el 1 (.slice (some ⟨g, 0, none⟩) n c) n xs :: es)) (ho : IsCv o a t t (.slice (some ⟨g, 0, none⟩) n c))
    (k : ∀ w', Fr X w0 w' (.rd (some ⟨g, 0, none⟩) 1 n xs :: es) → w'.heap.size = w.heap.size → K (a.put o.dst (.slice (some ⟨g, 0, none⟩) n c)) w') : o.wp P a w K Q := by
  obtain ⟨x, ho, hx⟩ := ho
  have hrun : (convert t t (.slice (some ⟨g, 0, none⟩) n c)).run P w = .ok (.slice (some ⟨g, 0, none⟩) n c) (match w.shape? g with | some (_, q) => w.freeze ⟨g, q, none⟩ 1 | none => w) := by
    cases hs : w.shape? g with
    | none => simp [convert, run_underlying T.und, run_underlying he, markStringish, hs]
    | some y => simp [convert, run_underlying T.und, run_underlying he, markStringish, hs]
  have hr := hF.rdOwn (i := 0) rfl
  have hlt : g < w.heap.size := Ent.lt (hF.holds 0 _ rfl) rfl
  unfold Oper.wp execOp
  simp only [ho, hx, hrun, Sem.run_bind, Sem.run_pure, Result.andThen_ok]
  cases hs : w.shape? g with
  | none => exact k w (hF.toRd (i := 0) rfl) rfl
  | some y =>
    refine k _ (hF.put (i := 0) (e' := .rd (some ⟨g, 0, none⟩) 1 n xs) rfl ⟨?_, ?_, ?_, ?_, fun j hj hne => freeze_block _ _ _ _ (fun h => hne (by show some j = some g; rw [h]))⟩ ⟨⟨hr.len, hr.some_, fun _ => ?_, fun j u hu => ?_⟩, fun a ha => ?_⟩ (.inl rfl)) (freeze_size _ _ _)
    · unfold World.freeze; split <;> rfl
    · unfold World.freeze; split <;> rfl
    · unfold World.freeze; split <;> rfl
    · rw [freeze_size]; exact Nat.le_refl _
    · rw [freeze_size]; exact hlt
    · rw [freeze_cell]; exact hr.cell j u hu
    · injection ha with ha; subst ha; rw [freeze_size]; exact hlt
theorem LibsAt.up {B B' : Nat} {w : World} (h : LibsAt B w) (hb : B ≤ B') : LibsAt B' w :=
  ⟨fun w' h2 => h.u8 w' (h2.mono hb), fun w' h2 => h.pow w' (h2.mono hb), h.syn.imp fun _ h => h.imp fun _ h w' h2 => h w' (h2.mono hb), h.rng.imp fun _ h => h.imp fun _ h w' h2 => h w' (h2.mono hb)⟩
/-- Parse, within a frame; its answer stands ahead of the other entries. -/
def ParseEndF (X : List Nat) (w0 : World) (es : List Ent) (r : JR JV) (e : Ending) (w' : World) : Prop :=
  match r with
  | .ok v => ∃ cs es', e = .returned (.tuple #[.agg cs.toArray, .int .i64 0, .int .i64 0]) ∧ VT v cs es' ∧ Fr X w0 w' (es' ++ es)
  | .error x => e = .returned (.tuple #[.agg vl0.toArray, .int .i64 (x.1 : Int), .int .i64 (x.2 : Int)]) ∧ Fr X w0 w' es
theorem parse_F {X : List Nat} {w0 w : World} {es : List Ent} {B : Nat} (hF : Fr X w0 w es) (hL : LibsAt B w) (hB : B ≤ w.heap.size) {A : Option Addr} {n c : Nat} {b : List UInt8} (hnc : n ≤ c) (hn47 : n ≤ 140737488355328) (hr : Rd w (· < w.heap.size) A 1 n (b.map bv)) :
    Calls Tryd.prog 11 #[.slice A n c] w (ParseEndF X w0 es (jParse b)) := by
  refine (parse_any A n c b w (hL.up hB) hnc hn47 hr).mono ?_
  intro e w' h
  unfold ParseEnd at h
  unfold ParseEndF
  cases hj : jParse b with
  | error x => rw [hj] at h; exact ⟨h.1, hF.call h.2⟩
  | ok v =>
    rw [hj] at h
    obtain ⟨cs, es', rfl, hvt, hF'⟩ := h
    exact ⟨cs, es', rfl, hvt, hF.join hF'⟩
/-- What is known of a value that was read. -/
theorem VT.kids {k n : Int} {t : List UInt8} {ns : List (List UInt8)} {ks : List JV} {cs : List Value} {es' es : List Ent} {X : List Nat} {w0 w : World} (h : VT (.mk k n t ns ks) cs es') (hF : Fr X w0 w (es' ++ es)) :
    ∃ An nn cn Ak ck xs TE, nn ≤ cn ∧ ks.length ≤ ck ∧ cs = vlL k n ⟨t.toArray⟩ (.slice An nn cn) (.slice Ak ks.length ck) ∧ Rd w (· < w.heap.size) An 1 nn (ns.map strv) ∧ Rd w (· < w.heap.size) Ak 5 ks.length xs ∧ VTL ks xs TE := by
  rw [VT] at h
  obtain ⟨An, nn, cn, Ak, nk, ck, xs, TE, h1, h2, rfl, rfl, h3⟩ := h
  have r1 := hF.rd (i := 0) rfl
  have r2 := hF.rd (i := 1) rfl
  have hl := r2.len
  rw [h3.len] at hl
  obtain rfl : ks.length = nk := by omega
  exact ⟨An, nn, cn, Ak, ck, xs, TE, h1, h2, rfl, r1, r2, h3⟩
theorem awk1 : jParse [91, 49, 44, 32, 45, 50, 93] = .ok (.mk 5 0 [] [] [.mk 3 1 [] [] [], .mk 3 (-2) [] [] []]) := by kernel_rfl
theorem awk2 : jParse [91, 49, 44, 93] = .error (3, 10) := by kernel_rfl

set_option maxRecDepth 20000 in
set_option maxHeartbeats 6400000 in
theorem awake_any (w : World) (B : Nat) (hB : B ≤ w.heap.size) (hL : LibsAt B w) :
    Calls Tryd.prog 13 #[] w fun e w' => e = .returned (.bool true) ∧ Below w.heap.size w w' := by
  have hF0 := Fr.nil w
  go_enter Tryd.func13, Tryd.ntmps13
  go_wp2_with (first | ((with_reducible refine lst (by with_unfolding_all rfl) (wp_fbsl T_u8 hF0 (vs := [bv 91, bv 49, bv 44, bv 32, bv 45, bv 50, bv 93]) (by with_unfolding_all rfl) (by with_unfolding_all rfl) (by with_unfolding_all rfl) (by decide) (by simp [bv, Value.cells]) ?_)); intro w1 g1 hF1 hz1; have hr1 : Rd w1 (· < w1.heap.size) (some ⟨g1, 0, none⟩) 1 7 (([91,49,44,32,45,50,93] : List UInt8).map bv) := hF1.rdOwn (i := 0) rfl) | ((with_reducible refine lst (by with_unfolding_all rfl) (wp_fmark T_u8 Tryd.underlying5 hF1 (by with_unfolding_all exact ⟨_, rfl, rfl⟩) ?_)); intro w2 hF2 hz2))
  have hp := parse_F hF2 ((hL.up hB).on hF2.below) hF2.size (Nat.le_refl _) (by decide) (b := [91, 49, 44, 32, 45, 50, 93]) (hF2.rd (i := 0) rfl)
  rw [awk1] at hp
  refine hp.mono ?_
  rintro e w3 ⟨cs, es, rfl, hvt, hF3⟩
  have hvl := box hvt.len
  have hvo := box hvt.one
  clear hp
  go_wp2_with (first | ((with_reducible refine lst (by with_unfolding_all rfl) (wp_falloc hF3 (cs := vl0) (z := .agg (List.toArray (vl0))) rfl (by kernel_rfl) (by with_unfolding_all rfl) ?_)); intro w4 g4 hF4 hz4) | ((with_reducible refine lst (by with_unfolding_all rfl) (wp_fstA0 hF4 (by with_unfolding_all exact ⟨_, _, rfl, rfl, rfl⟩) (by rw [hvl.out]; kernel_rfl) hvo.out (by rw [hvl.out]; decide) (spl_all (by rw [hvl.out, vlL_len])) ?_)); intro w5 hF5 hz5) | ((with_reducible refine lst (by with_unfolding_all rfl) (wp_fbsl T_u8 hF5 (vs := [bv 91, bv 49, bv 44, bv 93]) (by with_unfolding_all rfl) (by with_unfolding_all rfl) (by with_unfolding_all rfl) (by decide) (by simp [bv, Value.cells]) ?_)); intro w6 g6 hF6 hz6; have hr6 : Rd w6 (· < w6.heap.size) (some ⟨g6, 0, none⟩) 1 4 (([91,49,44,93] : List UInt8).map bv) := hF6.rdOwn (i := 0) rfl) | ((with_reducible refine lst (by with_unfolding_all rfl) (wp_fmark T_u8 Tryd.underlying5 hF6 (by with_unfolding_all exact ⟨_, rfl, rfl⟩) ?_)); intro w7 hF7 hz7))
  have hp := parse_F hF7 ((hL.up hB).on hF7.below) hF7.size (Nat.le_refl _) (by decide) (b := [91, 49, 44, 93]) (hF7.rd (i := 0) rfl)
  rw [awk2] at hp
  refine hp.mono ?_
  rintro e w8 ⟨rfl, hF8⟩
  clear hp
  have hp3 : ((3 : Nat) : Int) = 3 := rfl
  have hp10 : ((10 : Nat) : Int) = 10 := rfl
  go_upto_region 3 with (first | ((with_reducible refine lst (by with_unfolding_all rfl) (wp_falloc hF8 (cs := vl0) (z := .agg (List.toArray (vl0))) rfl (by kernel_rfl) (by with_unfolding_all rfl) ?_)); intro w9 g9 hF9 hz9) | ((with_reducible refine lst (by with_unfolding_all rfl) (wp_fstA0 hF9 (by with_unfolding_all exact ⟨_, _, rfl, rfl, rfl⟩) (by rw [vlL_len]; kernel_rfl) vlL_one vlL_fit vlL_spl ?_)); intro w10 hF10 hz10))
  have hF10' := hF10.perm (es' := es ++ [.blk g9 27 vl0, .rd (some ⟨g6, 0, none⟩) 1 4 [bv 91, bv 49, bv 44, bv 93], .blk g4 27 cs, .rd (some ⟨g1, 0, none⟩) 1 7 [bv 91, bv 49, bv 44, bv 32, bv 45, bv 50, bv 93]]) (by
    refine List.Perm.trans ?_ List.perm_append_comm
    simp only [List.cons_append, List.nil_append]
    exact (((List.perm_append_comm (l₁ := es) (l₂ := [_])).cons _).cons _).cons _)
  obtain ⟨An, nn, cn, Ak, ck, xs, TE, hcn, hck, rfl, hrn, hrk, hvtl⟩ := hvt.kids hF10'
  simp only [VTL] at hvtl
  obtain ⟨c1, y1, E1, E2, rfl, rfl, hv1, c2, y2, E3, E4, rfl, rfl, hv2, rfl, rfl⟩ := hvtl
  have hl1 := hv1.len
  rw [VT] at hv2
  obtain ⟨A2, n2, k2, A3, n3, k3, x3, T3, _, _, rfl, _⟩ := hv2
  rw [show ([JV.mk 3 1 [] [] [], JV.mk 3 (-2) [] [] []] : List JV).length = 2 from rfl] at hF10 hrk
  have hcx : w10.cell? ⟨(atp Ak 5).block, (atp Ak 5).off + 1, none⟩ = some (.int .i64 (-2)) := by
    have hc := hrk.cell 6 (.int .i64 (-2)) (by rw [List.getElem?_append_right (by omega), hl1]; rfl)
    obtain ⟨⟨bk, of, sp⟩, rfl⟩ : ∃ ad, Ak = some ad := ⟨_, hrk.some_ (by decide)⟩
    simpa [atp, Addr.add] using hc
  clear hvl hvo hv1 hF10' hF9 hF8 hF7 hF6 hF5 hF4 hF3 hF2 hF1 hF0 hl1
  go_wp2_with (first | (with_reducible refine lst (by with_unfolding_all rfl) (wp_fld2 hF10 Tryd.underlying3 rfl (by with_unfolding_all exact ⟨_, rfl, rfl⟩) rfl ?_)) | (with_reducible refine lst (by with_unfolding_all rfl) (wp_fld2 hF10 Tryd.underlying25 rfl (by with_unfolding_all exact ⟨_, rfl, rfl⟩) rfl ?_)) | (with_reducible refine lst (by with_unfolding_all rfl) (wp_indexAddr T_vals hrk (by with_unfolding_all exact ⟨_, _, _, _, rfl, rfl, rfl⟩) (by omega) (by omega) ?_)))
  go_ret
  exact ⟨rfl, hF10.below⟩
end Go.Proofs.YtdekogmegdhjoaaDoor

namespace Go.Proofs.YtdekogmegdhjoaaDoor
set_option linter.unusedSimpArgs false
set_option linter.unusedVariables false

/-- A fault has a number. -/
def JEr {α : Type} (r : JR α) : Prop := ∀ x, r = .error x → x.2 ≠ 0
theorem JEr.ok {α : Type} {v : α} : JEr (.ok v) := fun _ h => by cases h
theorem JEr.err {α : Type} {p e : Nat} (h : e ≠ 0) : JEr (.error (p, e) : JR α) := fun _ h' => by injection h' with h'; subst h'; exact h
theorem JEr.up {α β : Type} {r : JR α} {x : Nat × Nat} (h : JEr r) (hx : r = .error x) : JEr (.error x : JR β) := fun y h' => by injection h' with h'; subst h'; exact h _ hx
theorem jNext_er (b : List UInt8) (p : Nat) : JEr (jNext b p) := by
  unfold jNext
  split
  · exact .err (by decide)
  · exact .ok
theorem jWord_er (b : List UInt8) : ∀ (w : List UInt8) (p : Nat), JEr (jWord b w p)
  | [], p => .ok
  | c :: w, p => by
    rw [jWord]
    split
    · exact .err (by decide)
    · split
      · exact jWord_er b w _
      · exact .err (by decide)
theorem jNumber_er (b : List UInt8) (p : Nat) : JEr (jNumber b p) := by
  unfold jNumber
  simp only []
  split
  · exact .err (by decide)
  · exact .ok
theorem jUnit_er (b : List UInt8) (s : Nat) : ∀ (k n p : Nat), JEr (jUnit b s k n p)
  | 0, _, _ => .ok
  | k + 1, n, p => by
    rw [jUnit]
    split
    · exact .err (by decide)
    · split
      · exact .err (by decide)
      · exact jUnit_er b s k _ _
theorem jEscape_er (b : List UInt8) (p : Nat) : JEr (jEscape b p) := by
  unfold jEscape
  split
  · exact .err (by decide)
  rename_i c _
  by_cases h1 : c = 34 ∨ c = 92 ∨ c = 47
  · rw [if_pos h1]; exact .ok
  rw [if_neg h1]
  by_cases h2 : c = 98
  · rw [if_pos h2]; exact .ok
  rw [if_neg h2]
  by_cases h2 : c = 102
  · rw [if_pos h2]; exact .ok
  rw [if_neg h2]
  by_cases h2 : c = 110
  · rw [if_pos h2]; exact .ok
  rw [if_neg h2]
  by_cases h2 : c = 114
  · rw [if_pos h2]; exact .ok
  rw [if_neg h2]
  by_cases h2 : c = 116
  · rw [if_pos h2]; exact .ok
  rw [if_neg h2]
  by_cases h2 : c = 117
  · rw [if_pos h2]
    split
    · rename_i h; exact (jUnit_er _ _ _ _ _).up h
    split
    · split
      · exact .err (by decide)
      split
      · exact .err (by decide)
      split
      · exact .err (by decide)
      split
      · exact .err (by decide)
      split
      · rename_i h; exact (jUnit_er _ _ _ _ _).up h
      split
      · exact .ok
      · exact .err (by decide)
    · split
      · exact .err (by decide)
      · exact .ok
  · rw [if_neg h2]; exact .err (by decide)
theorem jTextL_er (b : List UInt8) : ∀ (f p : Nat) (out : List UInt8), JEr (jTextL b f p out)
  | 0, _, _ => .err (by decide)
  | f + 1, p, out => by
    rw [jTextL]
    repeat' split
    all_goals first
      | exact .ok
      | exact .err (by decide)
      | exact (jEscape_er _ _).up (by assumption)
      | exact jTextL_er b f _ _
theorem jText_er (b : List UInt8) (p : Nat) : JEr (jText b p) := by
  unfold jText
  split
  · exact (jWord_er _ _ _).up (by assumption)
  · exact jTextL_er _ _ _ _
theorem jName_er (b : List UInt8) (ns : List (List UInt8)) (p : Nat) : JEr (jName b ns p) := by
  unfold jName
  repeat' split
  all_goals first
    | exact .ok
    | exact .err (by decide)
    | exact (jText_er _ _).up (by assumption)
    | exact (jWord_er _ _ _).up (by assumption)
theorem jManyL_er (b : List UInt8) (kind : Int) (fin : UInt8) {val : Nat → Nat → JR (JV × Nat × Nat)} (hv : ∀ p m, JEr (val p m)) : ∀ (f p m : Nat) (ns : List (List UInt8)) (ks : List JV), JEr (jManyL b kind fin val f p m ns ks)
  | 0, _, _, _, _ => .err (by decide)
  | f + 1, p, m, ns, ks => by
    rw [jManyL]
    have hn : JEr (if kind = 6 then jName b ns p else .ok ([], p)) := by
      split
      · exact jName_er _ _ _
      · exact .ok
    split
    · exact hn.up (by assumption)
    split
    · exact (hv _ _).up (by assumption)
    split
    · exact (jNext_er _ _).up (by assumption)
    split
    · exact .ok
    split
    · exact (jWord_er _ _ _).up (by assumption)
    · exact jManyL_er b kind fin hv f _ _ _ _
theorem jMany_er (b : List UInt8) (kind : Int) (fin : UInt8) {val : Option (Nat → Nat → JR (JV × Nat × Nat))} (hv : ∀ f, val = some f → ∀ p m, JEr (f p m)) (p m : Nat) : JEr (jMany b kind fin val p m) := by
  unfold jMany
  split
  · exact .err (by decide)
  · split
    · exact (jNext_er _ _).up (by assumption)
    · split
      · exact .ok
      · exact jManyL_er b kind fin (hv _ rfl) _ _ _ _ _
theorem jLit_er (b w : List UInt8) (v : JV) (p m : Nat) : JEr (jLit b w v p m) := by
  unfold jLit
  split
  · exact (jWord_er _ _ _).up (by assumption)
  · exact .ok
theorem jValueW_er (b : List UInt8) {val : Option (Nat → Nat → JR (JV × Nat × Nat))} (hv : ∀ f, val = some f → ∀ p m, JEr (f p m)) (p m : Nat) : JEr (jValueW b val p m) := by
  unfold jValueW
  split
  · exact .err (by decide)
  repeat' split
  all_goals first
    | exact .ok
    | exact .err (by decide)
    | exact jLit_er _ _ _ _ _
    | exact (jNumber_er _ _).up (by assumption)
    | exact (jText_er _ _).up (by assumption)
    | exact jMany_er _ _ _ hv _ _
theorem jValue_er (b : List UInt8) : ∀ (d p m : Nat), JEr (jValue b d p m)
  | 0, p, m => by rw [jValue]; exact jValueW_er b (fun f h => by cases h) p m
  | d + 1, p, m => by rw [jValue]; exact jValueW_er b (fun f h => by injection h with h; subst h; exact jValue_er b d) p m
theorem jParse_er (b : List UInt8) : JEr (jParse b) := by
  unfold jParse
  split
  · exact .err (by decide)
  · split
    · exact (jValue_er _ _ _ _).up (by assumption)
    · split
      · exact .err (by decide)
      · exact .ok
end Go.Proofs.YtdekogmegdhjoaaDoor

namespace Go.Proofs.YtdekogmegdhjoaaDoor
open Go.RowKit
set_option linter.unusedSimpArgs false

/-- The reader's cells: the bytes, the place, the fault, where it is, how many values. -/
def rrL (A : Option Addr) (n c p f wh m : Nat) : List Value := [.slice A n c, .int .i64 (p : Int), .int .i64 (f : Int), .int .i64 (wh : Int), .int .i64 (m : Int)]
section
variable {w w' : World} {g B : Nat} {A : Option Addr} {n c p f wh m : Nat} {b : List UInt8}
theorem rr_b (hh : w.heap[g]? = some (.cells (rrL A n c p f wh m).toArray 68 (0, 0))) : w.cell? ⟨g, 0, none⟩ = some (.slice A n c) := by rw [cell_of_row w g 0 _ _ (0, 0) hh]; rfl
theorem rr_p (hh : w.heap[g]? = some (.cells (rrL A n c p f wh m).toArray 68 (0, 0))) : w.cell? ⟨g, 1, none⟩ = some (.int .i64 (p : Int)) := by rw [cell_of_row w g 1 _ _ (0, 0) hh]; rfl
theorem rr_f (hh : w.heap[g]? = some (.cells (rrL A n c p f wh m).toArray 68 (0, 0))) : w.cell? ⟨g, 2, none⟩ = some (.int .i64 (f : Int)) := by rw [cell_of_row w g 2 _ _ (0, 0) hh]; rfl
theorem rr_m (hh : w.heap[g]? = some (.cells (rrL A n c p f wh m).toArray 68 (0, 0))) : w.cell? ⟨g, 4, none⟩ = some (.int .i64 (m : Int)) := by rw [cell_of_row w g 4 _ _ (0, 0) hh]; rfl
theorem rrL_len : (rrL A n c p f wh m).length = 5 := rfl
theorem rrL_at {v : Int} {q : Nat} (h : v = (q : Int)) : spl (rrL A n c p f wh m) 1 [.int .i64 v] = rrL A n c q f wh m := by subst h; rfl
theorem rrL_ft {v : Int} {q : Nat} (h : v = (q : Int)) : spl (rrL A n c p f wh m) 2 [.int .i64 v] = rrL A n c p q wh m := by subst h; rfl
theorem rrL_wh {v : Int} {q : Nat} (h : v = (q : Int)) : spl (rrL A n c p f wh m) 3 [.int .i64 v] = rrL A n c p f q m := by subst h; rfl
theorem rrL_it {v : Int} {q : Nat} (h : v = (q : Int)) : spl (rrL A n c p f wh m) 4 [.int .i64 v] = rrL A n c p f wh q := by subst h; rfl
/-- Where the reader is behind a reading: at a place; or a fault stands in it. -/
def RSt (w : World) (g : Nat) (A : Option Addr) (n c m : Nat) (r : JR Nat) (w' : World) : Prop :=
  match r with
  | .ok q => Fr [g] w w' [.blk g 68 (rrL A n c q 0 0 m)]
  | .error x => ∃ p' m', Fr [g] w w' [.blk g 68 (rrL A n c p' x.2 x.1 m')]
end

set_option maxRecDepth 20000 in
set_option maxHeartbeats 800000 in
theorem rfail_ok (g : Nat) (A : Option Addr) (n c p m : Nat) (x : Nat × Nat) (w : World) (hh : w.heap[g]? = some (.cells (rrL A n c p 0 0 m).toArray 68 (0, 0))) :
    Calls Tryd.prog 30 #[.pointer (some ⟨g, 0, none⟩), .int .i64 (x.1 : Int), .int .i64 (x.2 : Int)] w fun e w' => e = .returned (.tuple #[]) ∧ Fr [g] w w' [.blk g 68 (rrL A n c p x.2 x.1 m)] := by
  have hF0 := Fr.one hh
  clear hh
  go_enter Tryd.func30, Tryd.ntmps30
  go_wp2_with (first | (with_reducible refine lst (by with_unfolding_all rfl) (wp_fld0 hF0 Tryd.underlying3 rfl (by with_unfolding_all exact ⟨_, rfl, rfl⟩) rfl ?_)) | (with_reducible refine lst (by with_unfolding_all rfl) (wp_fld0 hF0 Tryd.underlying22 rfl (by with_unfolding_all exact ⟨_, rfl, rfl⟩) rfl ?_)) | ((with_reducible refine lst (by with_unfolding_all rfl) (wp_fst0 hF0 (by with_unfolding_all exact ⟨_, _, rfl, rfl, rfl⟩) (by kernel_rfl) rfl rfl (by rw [rrL_len]; decide) (rrL_ft (q := x.2) rfl) ?_)); intro w1 hF1 hz1) | ((with_reducible refine lst (by with_unfolding_all rfl) (wp_fst0 hF1 (by with_unfolding_all exact ⟨_, _, rfl, rfl, rfl⟩) (by kernel_rfl) rfl rfl (by rw [rrL_len]; decide) (rrL_wh (q := x.1) rfl) ?_)); intro w2 hF2 hz2))
  go_end0
  exact ⟨rfl, hF2⟩
set_option maxRecDepth 20000 in
set_option maxHeartbeats 800000 in
theorem rfail_bad (g : Nat) (A : Option Addr) (n c p f wh m : Nat) (y z : Int) (w : World) (hf : f ≠ 0) (hh : w.heap[g]? = some (.cells (rrL A n c p f wh m).toArray 68 (0, 0))) :
    Calls Tryd.prog 30 #[.pointer (some ⟨g, 0, none⟩), .int .i64 y, .int .i64 z] w fun e w' => e = .returned (.tuple #[]) ∧ Fr [g] w w' [.blk g 68 (rrL A n c p f wh m)] := by
  have hF0 := Fr.one hh
  have hf0 : ((f : Int) == 0) = false := by rw [beq_eq_false_iff_ne]; omega
  clear hh
  replace hf := box hf
  go_enter Tryd.func30, Tryd.ntmps30
  go_wp2_with (first | (with_reducible refine lst (by with_unfolding_all rfl) (wp_fld0 hF0 Tryd.underlying3 rfl (by with_unfolding_all exact ⟨_, rfl, rfl⟩) rfl ?_)) | (with_reducible refine lst (by with_unfolding_all rfl) (wp_fld0 hF0 Tryd.underlying22 rfl (by with_unfolding_all exact ⟨_, rfl, rfl⟩) rfl ?_)))
  go_end0
  exact ⟨rfl, hF0⟩
/-- What the next byte is. -/
def jLook (b : List UInt8) (p f : Nat) : Nat := if f ≠ 0 then 256 else match b[p]? with | none => 256 | some c => c.toNat
set_option maxRecDepth 20000 in
set_option maxHeartbeats 800000 in
theorem rlook_any (g : Nat) (A : Option Addr) (n c p f wh m : Nat) (b : List UInt8) (w : World) (S : Nat → Prop) (hh : w.heap[g]? = some (.cells (rrL A n c p f wh m).toArray 68 (0, 0))) (hr : Rd w S A 1 n (b.map bv)) :
    Calls Tryd.prog 41 #[.pointer (some ⟨g, 0, none⟩)] w fun e w' => e = .returned (.int .i64 (jLook b p f : Int)) ∧ ∃ k, w' = w.drewN k := by
  have hl := hr.bytes_len
  have h0 := rr_b hh
  have h1 := rr_p hh
  have h2 := rr_f hh
  clear hh
  by_cases hf : f = 0
  · subst hf
    by_cases hlt : p < n
    · obtain ⟨ad, x, hA, hx, hcx⟩ := hr.atB hlt
      have hj : Box (jLook b p 0 = x.toNat) := box (by unfold jLook; rw [if_neg (by simp), hx])
      have hwx : wrap64 (x.toNat : Int) = (x.toNat : Int) := by have := x.toNat_lt; unfold wrap64; omega
      replace hx := box hx
      replace hl := box hl
      clear hr
      subst hA
      go_enter Tryd.func41, Tryd.ntmps41
      go_wp2
      go_quiet (fail)
      go_wp2
      go_quiet (fail)
      go_wp2
      go_ret
      exact ⟨(show _ = Ending.returned (Value.int .i64 (wrap64 (x.toNat : Int))) from rfl).trans (by rw [hwx, hj.out]), _, World.drewN_drewN _ _ _⟩
    · have hj : Box (jLook b p 0 = 256) := box (by unfold jLook; rw [if_neg (by simp), List.getElem?_eq_none (by omega)])
      replace hl := box hl
      clear hr
      go_enter Tryd.func41, Tryd.ntmps41
      go_wp2
      go_quiet (fail)
      go_wp2
      go_ret
      exact ⟨by rw [hj.out]; rfl, _, rfl⟩
  · have hj : Box (jLook b p f = 256) := box (by unfold jLook; rw [if_pos hf])
    have hf0 : ((f : Int) != 0) = true := by rw [bne_iff_ne]; omega
    replace hl := box hl
    replace hf := box hf
    clear hr
    go_enter Tryd.func41, Tryd.ntmps41
    go_wp2
    go_quiet (fail)
    go_wp2
    go_ret
    exact ⟨by rw [hj.out]; rfl, _, rfl⟩
section
variable {g : Nat} {A : Option Addr} {n c p f wh m B : Nat} {b : List UInt8} {w : World}
set_option maxRecDepth 20000 in
set_option maxHeartbeats 800000 in
theorem rwant_in {x : UInt8} (hx : b[p]? = some x) (hh : w.heap[g]? = some (.cells (rrL A n c p 0 wh m).toArray 68 (0, 0))) (hr : Rd w (· < B) A 1 n (b.map bv)) :
    Calls Tryd.prog 42 #[.pointer (some ⟨g, 0, none⟩)] w fun e w' => e = .returned (.int .i64 (x.toNat : Int)) ∧ Fr [g] w w' [.blk g 68 (rrL A n c p 0 wh m)] := by
  have hF0 := Fr.one hh
  have hlk := rlook_any g A n c p 0 wh m b w _ hh hr
  have hj : jLook b p 0 = x.toNat := by unfold jLook; rw [if_neg (by simp), hx]
  rw [hj] at hlk
  have hxl := x.toNat_lt
  have hne : ((x.toNat : Int) == 256) = false := by rw [beq_eq_false_iff_ne]; omega
  clear hh hr hx hj
  go_enter Tryd.func42, Tryd.ntmps42
  go_wp2_with fail
  refine hlk.mono ?_
  rintro e w1 ⟨rfl, k, rfl⟩
  go_wp2_with fail
  go_ret
  exact ⟨rfl, hF0.drewN k⟩
set_option maxRecDepth 20000 in
set_option maxHeartbeats 800000 in
theorem rwant_end (hx : b[p]? = none) (hh : w.heap[g]? = some (.cells (rrL A n c p 0 0 m).toArray 68 (0, 0))) (hr : Rd w (· < B) A 1 n (b.map bv)) :
    Calls Tryd.prog 42 #[.pointer (some ⟨g, 0, none⟩)] w fun e w' => e = .returned (.int .i64 256) ∧ Fr [g] w w' [.blk g 68 (rrL A n c p 9 n m)] := by
  have hF0 := Fr.one hh
  have hlk := rlook_any g A n c p 0 0 m b w _ hh hr
  have hj : jLook b p 0 = 256 := by unfold jLook; rw [if_neg (by simp), hx]
  rw [hj] at hlk
  clear hh hr hx hj
  go_enter Tryd.func42, Tryd.ntmps42
  go_wp2_with fail
  refine hlk.mono ?_
  rintro e w1 ⟨rfl, k, rfl⟩
  have hF1 := hF0.drewN k
  go_wp2_with (first | (with_reducible refine lst (by with_unfolding_all rfl) (wp_fld0 hF1 Tryd.underlying3 rfl (by with_unfolding_all exact ⟨_, rfl, rfl⟩) rfl ?_)) | (with_reducible refine lst (by with_unfolding_all rfl) (wp_fld0 hF1 Tryd.underlying22 rfl (by with_unfolding_all exact ⟨_, rfl, rfl⟩) rfl ?_)))
  refine (rfail_ok g A n c p m (n, 9) _ (hF1.blk (i := 0) rfl)).mono ?_
  rintro e w2 ⟨rfl, h2⟩
  have hF2 := hF1.putF (i := 0) rfl h2
  simp only [List.set_cons_zero] at hF2
  go_wp2_with fail
  go_ret
  exact ⟨rfl, hF2⟩
set_option maxRecDepth 20000 in
set_option maxHeartbeats 800000 in
theorem rwant_bad (hf : f ≠ 0) (hh : w.heap[g]? = some (.cells (rrL A n c p f wh m).toArray 68 (0, 0))) (hr : Rd w (· < B) A 1 n (b.map bv)) :
    Calls Tryd.prog 42 #[.pointer (some ⟨g, 0, none⟩)] w fun e w' => e = .returned (.int .i64 256) ∧ Fr [g] w w' [.blk g 68 (rrL A n c p f wh m)] := by
  have hF0 := Fr.one hh
  have hlk := rlook_any g A n c p f wh m b w _ hh hr
  have hj : jLook b p f = 256 := by unfold jLook; rw [if_pos hf]
  rw [hj] at hlk
  have hfa := box hf
  clear hh hr hf hj
  go_enter Tryd.func42, Tryd.ntmps42
  go_wp2_with fail
  refine hlk.mono ?_
  rintro e w1 ⟨rfl, k, rfl⟩
  have hF1 := hF0.drewN k
  go_wp2_with (first | (with_reducible refine lst (by with_unfolding_all rfl) (wp_fld0 hF1 Tryd.underlying3 rfl (by with_unfolding_all exact ⟨_, rfl, rfl⟩) rfl ?_)) | (with_reducible refine lst (by with_unfolding_all rfl) (wp_fld0 hF1 Tryd.underlying22 rfl (by with_unfolding_all exact ⟨_, rfl, rfl⟩) rfl ?_)))
  refine (rfail_bad g A n c p f wh m _ _ _ hfa.out (hF1.blk (i := 0) rfl)).mono ?_
  rintro e w2 ⟨rfl, h2⟩
  have hF2 := hF1.putF (i := 0) rfl h2
  simp only [List.set_cons_zero] at hF2
  go_wp2_with fail
  go_ret
  exact ⟨rfl, hF2⟩
end

end Go.Proofs.YtdekogmegdhjoaaDoor

namespace Go.Proofs.YtdekogmegdhjoaaDoor
open Go.RowKit

section
variable {P : Program} {w : World}
theorem run_appS {t u e ty : TypeId} (T : SlT P t e 1 1 (.int .u8 0)) (hu : P.underlying u = some .string) {base : Nat} {v : Value} {l : List UInt8} (hown : w.ownsRow base e 1 v l.length (l.map bv)) (s : ByteArray)
    (hroom : l.length + s.size ≤ 140737488355328) (hbase : base ≤ w.heap.size) :
    ∃ v' w', (Builtin.append_ #[t, u] ty #[v, .string s]).run P w = .ok v' w' ∧ w'.ownsRow base e 1 v' (l ++ s.data.toList).length ((l ++ s.data.toList).map bv) ∧ w.grownBy w' v.ownBlock ∧ (v'.ownBlock = v.ownBlock ∨ v'.ownBlock = some w.heap.size) := by
  obtain ⟨i, hi, hz, hs, hb⟩ := info_parts T.info
  have hsl : s.data.toList.length = s.size := str_len s
  obtain ⟨v', w', hrun, h2, h3, h4⟩ := Lib.run_append_own_string (P := P) (w := w) base t u ty e i T.und hu hi hz hs hb v l.length (l.map bv) hown s (by unfold maxLen; omega) hroom hbase
  have e1 : l.map bv ++ Lib.strCells s = (l ++ s.data.toList).map bv := by rw [List.map_append]; rfl
  have e2 : l.length + s.size = (l ++ s.data.toList).length := by rw [List.length_append, hsl]
  rw [e1, e2] at h2
  refine ⟨v', w', hrun, h2, h3, ?_⟩
  rcases hown.2 with ⟨rfl, hn⟩ | ⟨g, cap, cur, rfl, hbg, hg, hnc, hcm, hcs, htake⟩
  · by_cases hm : s.size = 0
    · rw [h4.2 ⟨rfl, hm⟩]; exact .inl rfl
    · have hr := run_append_nil_string (P := P) (w := w) t u ty e i (.int .u8 0) T.und hu hi hz s (by omega) (by omega) (by rw [hb]; omega)
      rw [hr] at hrun
      injection hrun with hv _
      rw [← hv]; exact .inr rfl
  · by_cases hro : l.length + s.size ≤ cap
    · have hr := Lib.run_append_room_string (P := P) (w := w) t u ty e i T.und hu hi hs g l.length cap cur hg s hro (by rw [hcs]; omega)
      rw [hr] at hrun
      injection hrun with hv _
      rw [← hv]; exact .inl rfl
    · have holds : ∀ j u, (l.map bv)[j]? = some u → w.cell? ((⟨g, 0, none⟩ : Addr).add j) = some u := hown.cells (g := g) rfl
      have hr := Lib.run_append_grow_string (P := P) (w := w) t u ty e i (.int .u8 0) T.und hu hi hz ⟨g, 0, none⟩ l.length cap (l.map bv) (by rw [hs]; simp) holds s (by omega) (by omega) (by rw [hb]; exact growslice_fits (by omega) (by omega))
      rw [hr] at hrun
      injection hrun with hv _
      rw [← hv]; exact .inr rfl
/-- The operation is 'append(.., s...)', s a text. -/
def IsAppS (o : Oper) (a : Act) (t u : TypeId) (v xv : Value) : Prop := ∃ s x, o.op = .call { callee := .builtin .append, args := #[s, x], argTypes := #[t, u] } ∧ a.eval s = v ∧ a.eval x = xv
theorem wp_fappS {o : Oper} {a : Act} {X : List Nat} {w0 : World} {es : List Ent} {K : Act → World → Prop} {Q : Exit → Act → World → Prop} {sl u e : TypeId} (T : SlT P sl e 1 1 (.int .u8 0)) (hu : P.underlying u = some .string) (hF : Fr X w0 w es) {i b : Nat} {v : Value} {l : List UInt8} (hi : es[i]? = some (.bytes b e v l)) (hb : b ≤ w0.heap.size)
    {s : ByteArray} (ho : IsAppS o a sl u v (.string s)) (hroom : l.length + s.size ≤ 140737488355328)
    (k : ∀ v' w', Fr X w0 w' (es.set i (.bytes b e v' (l ++ s.data.toList))) → w.heap.size ≤ w'.heap.size → K (a.put o.dst v') w') : o.wp P a w K Q := by
  have hown := hF.own hi
  have hbw : b ≤ w.heap.size := Nat.le_trans hb hF.size
  obtain ⟨p, x, ho, hp, hx⟩ := ho
  obtain ⟨v', w', hrun, h2, h3, h4⟩ := run_appS (ty := o.type) T hu hown.own s hroom hbw
  unfold Oper.wp execOp
  simp only [ho, resolve, invoke, builtin, Sem.run_bind, Sem.run_pure, Result.andThen_ok, List.map_toArray, List.map_cons, List.map_nil, hp, hx, hrun]
  refine k v' w' (hF.put hi h3 h2 (h4.imp id fun h b hb => ?_)) h3.size
  have hb : v'.ownBlock = some b := hb
  rw [h] at hb; injection hb with hb; omega
end
end Go.Proofs.YtdekogmegdhjoaaDoor

namespace Go.Proofs.YtdekogmegdhjoaaDoor
open Go.RowKit
set_option linter.unusedSimpArgs false

/-- A sign of a text, by its place. -/
theorem run_sidx {P : Program} {t : TypeId} (ht : P.underlying t = some .string) {s : ByteArray} {kd : IntKind} {j : Int} {k : Nat} {c : UInt8} (hj : j = (k : Int)) (hc : s.data.toList[k]? = some c) (w : World) : (Instr.index t (.string s) (.int kd j)).run P w = .ok (.int .u8 (c.toNat : Int)) w := by
  subst hj
  have hk : k < s.data.toList.length := (List.getElem?_eq_some_iff.1 hc).1
  have hk2 : k < s.size := by rw [← str_len s]; exact hk
  have he : s[k]'hk2 = c := by
    have := (List.getElem?_eq_some_iff.1 hc).2
    rw [← this]
    rfl
  rw [run_index_string w t s kd _ ht, dif_pos ⟨by omega, by omega⟩]
  simp only [Int.toNat_natCast, he]
theorem wp_sidx {P : Program} {o : Oper} {a : Act} {w : World} {K : Act → World → Prop} {Q : Exit → Act → World → Prop} {t : TypeId} (ht : P.underlying t = some .string) {s : ByteArray} {j : Int} {k : Nat} {c : UInt8} (hj : j = (k : Int)) (hc : s.data.toList[k]? = some c)
    (ho : ∃ x i kd, o.op = .index t x i ∧ a.eval x = .string s ∧ a.eval i = .int kd j) (hK : K (a.put o.dst (.int .u8 (c.toNat : Int))) w) : o.wp P a w K Q := by
  obtain ⟨x, i, kd, ho, hx, hi⟩ := ho
  refine wp_run (v := .int .u8 (c.toNat : Int)) (w' := w) ?_ hK
  unfold execOp
  simp [ho, hx, hi, run_sidx ht hj hc]
theorem yi_sidx {P : Program} {S : World → Prop} {ops : Array Oper} {o : Oper} {a : Act} (hw : Region.wanted o (yielded ops a.tmps) = true) {t : TypeId} (ht : P.underlying t = some .string) {s : ByteArray} {j : Int} {k : Nat} {c : UInt8} (hj : j = (k : Int)) (hc : s.data.toList[k]? = some c)
    (ho : ∃ x i kd, o.op = .index t x i ∧ a.eval x = .string s ∧ a.eval i = .int kd j) : YieldsIf P ops S o (.int .u8 (c.toNat : Int)) a := by
  obtain ⟨x, i, kd, ho, hx, hi⟩ := ho
  refine .inl ⟨hw, fun w _ => ?_⟩
  unfold execOp
  simp [ho, hx, hi, run_sidx ht hj hc]
end Go.Proofs.YtdekogmegdhjoaaDoor
