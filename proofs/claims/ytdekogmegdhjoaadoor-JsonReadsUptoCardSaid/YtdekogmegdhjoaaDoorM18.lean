/-
  Layer 6: the laws' from and to: a value laid anew, as deep as it may be.
-/
import Derived.Test.YtdekogmegdhjoaaDoorM11
import Derived.Test.YtdekogmegdhjoaaDoorM04
namespace Go.Proofs.YtdekogmegdhjoaaDoor
open Go.RowKit
set_option linter.unusedSimpArgs false

/-- A value, so deep. -/
def jCut : Nat → JV → JV
  | 0, .mk k n t ns _ => .mk k n t ns []
  | d + 1, .mk k n t ns ks => .mk k n t ns (ks.map (jCut d))
mutual
/-- No list of a value is longer than any machine bears. -/
def JSm : JV → Prop
  | .mk _ _ _ ns ks => ns.length ≤ 1048576 ∧ ks.length ≤ 1048576 ∧ JSmL ks
def JSmL : List JV → Prop
  | [] => True
  | v :: vs => JSm v ∧ JSmL vs
end
theorem JSmL.at : ∀ {ks : List JV} {i : Nat} {v : JV}, JSmL ks → ks[i]? = some v → JSm v
  | [], _, _, _, hv => by cases hv
  | k :: ks, i, v, h, hv => by
    rw [JSmL] at h
    cases i with
    | zero => injection hv with hv; subst hv; exact h.1
    | succ i => exact JSmL.at h.2 (by simpa using hv)
theorem VRd.len {w : World} {S : Nat → Prop} {v : JV} {cs : List Value} (h : VRd w S v cs) : cs.length = 5 := by
  cases v
  rw [VRd] at h
  obtain ⟨_, _, _, _, _, _, _, _, _, rfl, _⟩ := h
  rfl
theorem VRdL.len {w : World} {S : Nat → Prop} : ∀ {ks : List JV} {xs : List Value}, VRdL w S ks xs → xs.length = ks.length * 5
  | [], xs, h => by rw [VRdL] at h; rw [h]; rfl
  | k :: ks, xs, h => by
    rw [VRdL] at h
    obtain ⟨c1, ys, rfl, h1, h2⟩ := h
    rw [List.length_append, h1.len, VRdL.len h2, List.length_cons]
    omega
theorem VRdL.at {w : World} {S : Nat → Prop} : ∀ {ks : List JV} {xs : List Value} {i : Nat} {v : JV}, VRdL w S ks xs → ks[i]? = some v → ∃ cs, (xs.drop (i * 5)).take 5 = cs ∧ VRd w S v cs
  | [], _, _, _, _, hv => by cases hv
  | k :: ks, xs, i, v, h, hv => by
    rw [VRdL] at h
    obtain ⟨c1, ys, rfl, h1, h2⟩ := h
    cases i with
    | zero =>
      injection hv with hv; subst hv
      refine ⟨c1, ?_, h1⟩
      rw [Nat.zero_mul, List.drop_zero, List.take_append_of_le_length (by rw [h1.len]; exact Nat.le_refl _), List.take_of_length_le (by rw [h1.len]; exact Nat.le_refl _)]
    | succ i =>
      obtain ⟨cs, hc, hr⟩ := VRdL.at h2 (i := i) (by simpa using hv)
      refine ⟨cs, ?_, hr⟩
      rw [← hc, List.drop_append, List.drop_of_length_le (by rw [h1.len]; omega), List.nil_append, h1.len, show (i + 1) * 5 - 5 = i * 5 by omega]
theorem Fr.joinR {X : List Nat} {w0 w w' : World} {es es' : List Ent} (h : Fr X w0 w es) (h' : Fr [] w w' es') : Fr X w0 w' (es ++ es') := (h.join h').perm List.perm_append_comm
theorem VRd.on {w w' : World} {v : JV} {cs : List Value} (h : VRd w (· < w.heap.size) v cs) (hb : Below w.heap.size w w') : VRd w' (· < w'.heap.size) v cs :=
  VRd.keep (fun _ hk => Nat.lt_of_lt_of_le hk hb.size) (fun k hk => hb.block k hk) v h
theorem wrap64_pred {d : Nat} (h : d ≤ 1000) : IntKind.i64.wrap (d : Int) = (d : Int) := by
  simp [IntKind.wrap, IntKind.bits, IntKind.signed]
  split <;> omega
theorem T_rvals : SlT Tryd.prog 31 33 5 80 (.agg vl0.toArray) := ⟨Tryd.underlying31, by kernel_rfl, rfl, by decide⟩

set_option maxRecDepth 20000 in
set_option maxHeartbeats 12800000 in
theorem from_any (d : Nat) : ∀ (v : JV) (cs : List Value) (w : World), d ≤ 1000 → VRd w (· < w.heap.size) v cs → JSm v →
    Calls Tryd.prog 15 #[.agg cs.toArray, .int .i64 (d : Int)] w fun e w' => ∃ cs' es', e = .returned (.agg cs'.toArray) ∧ VT (jCut d v) cs' es' ∧ Fr [] w w' es' := by
  induction d with
  | zero =>
    intro v cs w hd hv hsm
    obtain ⟨k, n, t, ns, ks⟩ := v
    rw [VRd] at hv
    obtain ⟨An, nn, cn, Ak, nk, ck, xk, hcn, hck, rfl, hrn, hrk, hvk⟩ := hv
    rw [JSm] at hsm
    obtain ⟨hs1, hs2, hs3⟩ := hsm
    have hnn : ns.length = nn := by have := hrn.len; simpa using this
    have hnk : ks.length = nk := by have := hrk.len; rw [hvk.len] at this; omega
    rw [hnn] at hs1
    rw [hnk] at hs2
    replace hnn := box hnn
    replace hnk := box hnk
    replace hvk := box hvk
    have hF0 := Fr.nil w
    obtain ⟨cs, hcs⟩ : ∃ cs, cs = (vlL k n ⟨t.toArray⟩ (.slice An nn cn) (.slice Ak nk ck)) := ⟨_, rfl⟩
    replace hcs := box hcs
    go_enter Tryd.func15, Tryd.ntmps15
    go_upto_region 1 with (first | ((with_reducible refine lst (by with_unfolding_all rfl) (wp_fbox hF0 (cs := (vlL k n ⟨t.toArray⟩ (.slice An nn cn) (.slice Ak nk ck))) rfl (by with_unfolding_all rfl) (by with_unfolding_all rfl) ?_)); intro w1 g1 hF1 hz1) | ((with_reducible refine lst (by with_unfolding_all rfl) (wp_falloc hF1 (cs := vl0) (z := .agg (List.toArray (vl0))) rfl (by kernel_rfl) (by with_unfolding_all rfl) ?_)); intro w2 g2 hF2 hz2))
    simp only [Act.put, List.setIfInBounds_toArray, List.set_cons_zero, List.set_cons_succ]
    clear hF0 hF1
    go_cut [5] (fun s5 wx => ∃ (g5 : Nat) (A0 : Option Addr) (c0 : Nat), s5 = .pointer (some ⟨g5, 0, none⟩) ∧ nn ≤ c0 ∧ Fr [] w wx [.blk g5 33 (vlL k n ⟨t.toArray⟩ (.slice A0 nn c0) (.slice none 0 0)), .own w.heap.size 9 1 (.slice A0 nn c0) nn (ns.map strv), .blk g2 33 vl0, .blk g1 27 (vlL k n ⟨t.toArray⟩ (.slice An nn cn) (.slice Ak nk ck))])
    case first =>
      have hFd := hF2.drew
      refine wp_region_held (S := fun w' => w'.heap[g1]? = some (.cells (List.toArray (vlL k n ⟨t.toArray⟩ (.slice An nn cn) (.slice Ak nk ck))) 27 (0, 0))) (by kernel_rfl) ?_
      change wpAnyH _ _ _ _ _ _ _ _ (World.drew _)
      refine tkp 0 (hFd.blk (i := 1) rfl) ?_
      (try simp only [Act.put, List.setIfInBounds_toArray, List.set_cons_zero, List.set_cons_succ])
      refine tky 1 (y := yi_fld (by with_unfolding_all rfl) (fun _ h => h) Tryd.underlying3 rfl (by with_unfolding_all exact ⟨_, rfl, rfl⟩) rfl) (s := (hFd.blk (i := 1) rfl)) (h := ?_)
      (try simp only [Act.put, List.setIfInBounds_toArray, List.set_cons_zero, List.set_cons_succ])
      refine tkp 2 (hFd.blk (i := 1) rfl) ?_
      (try simp only [Act.put, List.setIfInBounds_toArray, List.set_cons_zero, List.set_cons_succ])
      refine tky 3 (y := yi_fld (by with_unfolding_all rfl) (fun _ h => h) Tryd.underlying3 rfl (by with_unfolding_all exact ⟨_, rfl, rfl⟩) rfl) (s := (hFd.blk (i := 1) rfl)) (h := ?_)
      (try simp only [Act.put, List.setIfInBounds_toArray, List.set_cons_zero, List.set_cons_succ])
      refine tkp 4 (hFd.blk (i := 1) rfl) ?_
      (try simp only [Act.put, List.setIfInBounds_toArray, List.set_cons_zero, List.set_cons_succ])
      refine tky 5 (y := yi_fld (by with_unfolding_all rfl) (fun _ h => h) Tryd.underlying9 rfl (by with_unfolding_all exact ⟨_, rfl, rfl⟩) rfl) (s := (hFd.blk (i := 1) rfl)) (h := ?_)
      (try simp only [Act.put, List.setIfInBounds_toArray, List.set_cons_zero, List.set_cons_succ])
      refine tkp 7 (hFd.blk (i := 1) rfl) ?_
      (try simp only [Act.put, List.setIfInBounds_toArray, List.set_cons_zero, List.set_cons_succ])
      refine tky 8 (y := yi_fld (by with_unfolding_all rfl) (fun _ h => h) Tryd.underlying24 rfl (by with_unfolding_all exact ⟨_, rfl, rfl⟩) rfl) (s := (hFd.blk (i := 1) rfl)) (h := ?_)
      (try simp only [Act.put, List.setIfInBounds_toArray, List.set_cons_zero, List.set_cons_succ])
      refine wpAnyH_ready (rs := [6, 11]) (by kernel_rfl) (by simp) ?_
      refine AllReadyH.cons (by simp only [List.getElem?_toArray, List.getElem?_cons_zero, List.getElem?_cons_succ]; rfl) (fun K hK => ?_) ?_
      · refine stp (by with_unfolding_all rfl) (wp_fbsl T_strs hFd (vs := []) (by with_unfolding_all rfl) (by with_unfolding_all rfl) (by with_unfolding_all rfl) (by decide) (by simp) ?_)
        intro w21 g21 hF21 hz21
        refine hK.out _ _ ((hF21.blk (i := 2) rfl)) (fun _ => ?_)
        clear hK K
        (try simp only [Act.put, List.setIfInBounds_toArray, List.set_cons_zero, List.set_cons_succ])
        refine wpAnyH_ready (rs := [9, 11]) (by kernel_rfl) (by simp) ?_
        refine AllReadyH.cons (by simp only [List.getElem?_toArray, List.getElem?_cons_zero, List.getElem?_cons_succ]; rfl) (fun K hK => ?_) ?_
        · refine stp (by with_unfolding_all rfl) (wp_fappG T_strs hF21 (i := 0) rfl (Nat.le_refl _) (hF21.rdOld hrn) (strv_one _) (by with_unfolding_all exact ⟨_, _, rfl, rfl, rfl⟩) (by unfold maxLen; omega) (by omega) ?_)
          intro v22 w22 hF22 hz22
          (try simp only [List.set_cons_zero, List.set_cons_succ] at hF22)
          obtain ⟨A22, c22, rfl, hc22⟩ := hF22.ownParts (i := 0) rfl
          rw [Nat.zero_add nn, List.nil_append] at hF22
          rw [Nat.zero_add nn] at hc22
          rw [Nat.zero_add nn]
          refine hK.out _ _ ((hF22.blk (i := 2) rfl)) (fun _ => ?_)
          clear hK K
          (try simp only [Act.put, List.setIfInBounds_toArray, List.set_cons_zero, List.set_cons_succ])
          refine wpAnyH_ready (rs := [10, 11]) (by kernel_rfl) (by simp) ?_
          refine AllReadyH.cons (by simp only [List.getElem?_toArray, List.getElem?_cons_zero, List.getElem?_cons_succ]; rfl) (fun K hK => ?_) ?_
          · refine stp (by with_unfolding_all rfl) (wp_fbuild Tryd.underlying33 (z := .agg (List.toArray vl0)) (by kernel_rfl) (pl := vlP) (by kernel_rfl) (cs := vlL k n ⟨t.toArray⟩ (.slice A22 nn c22) (.slice none 0 0)) rfl (vs := [(0, .int .i64 k), (1, .int .i64 n), (2, .string ⟨t.toArray⟩), (3, .slice A22 nn c22)]) (by with_unfolding_all rfl) (by with_unfolding_all rfl) ?_)
            refine hK.out _ _ ((hF22.blk (i := 2) rfl)) (fun _ => ?_)
            clear hK K
            (try simp only [Act.put, List.setIfInBounds_toArray, List.set_cons_zero, List.set_cons_succ])
            refine rdy1 11 (fun K hK => ?_)
            refine stp (by with_unfolding_all rfl) (wp_falloc hF22 (cs := vl0) (z := .agg (List.toArray (vl0))) rfl (by kernel_rfl) (by with_unfolding_all rfl) ?_)
            intro w23 g23 hF23 hz23
            refine hK.out _ _ ((hF23.blk (i := 3) rfl)) (fun _ => ?_)
            clear hK K
            (try simp only [Act.put, List.setIfInBounds_toArray, List.set_cons_zero, List.set_cons_succ])
            refine rdy1 12 (fun K hK => ?_)
            refine stp (by with_unfolding_all rfl) (wp_fstA hF23 (i := 0) rfl (by with_unfolding_all exact ⟨_, _, rfl, rfl, rfl⟩) (by rw [vlL_len]; kernel_rfl) vlL_one vlL_fit ?_)
            intro w24 hF24 hz24
            (try simp only [List.set_cons_zero, List.set_cons_succ] at hF24)
            rw [vlL_spl] at hF24
            refine hK.out _ _ ((hF24.blk (i := 3) rfl)) (fun _ => ?_)
            clear hK K
            (try simp only [Act.put, List.setIfInBounds_toArray, List.set_cons_zero, List.set_cons_succ])
            refine wpAnyH_done (by kernel_rfl) ?_ _
            go_wp2_with fail
            go_meet
            exact ⟨g23, A22, c22, rfl, hc22, hF24.picks [0, 1, 2, 3] rfl (by decide)⟩
          refine AllReadyH.cons (by simp only [List.getElem?_toArray, List.getElem?_cons_zero, List.getElem?_cons_succ]; rfl) (fun K hK => ?_) ?_
          · refine stp (by with_unfolding_all rfl) (wp_falloc hF22 (cs := vl0) (z := .agg (List.toArray (vl0))) rfl (by kernel_rfl) (by with_unfolding_all rfl) ?_)
            intro w23 g23 hF23 hz23
            refine hK.out _ _ ((hF23.blk (i := 3) rfl)) (fun _ => ?_)
            clear hK K
            (try simp only [Act.put, List.setIfInBounds_toArray, List.set_cons_zero, List.set_cons_succ])
            refine rdy1 10 (fun K hK => ?_)
            refine stp (by with_unfolding_all rfl) (wp_fbuild Tryd.underlying33 (z := .agg (List.toArray vl0)) (by kernel_rfl) (pl := vlP) (by kernel_rfl) (cs := vlL k n ⟨t.toArray⟩ (.slice A22 nn c22) (.slice none 0 0)) rfl (vs := [(0, .int .i64 k), (1, .int .i64 n), (2, .string ⟨t.toArray⟩), (3, .slice A22 nn c22)]) (by with_unfolding_all rfl) (by with_unfolding_all rfl) ?_)
            refine hK.out _ _ ((hF23.blk (i := 3) rfl)) (fun _ => ?_)
            clear hK K
            (try simp only [Act.put, List.setIfInBounds_toArray, List.set_cons_zero, List.set_cons_succ])
            refine rdy1 12 (fun K hK => ?_)
            refine stp (by with_unfolding_all rfl) (wp_fstA hF23 (i := 0) rfl (by with_unfolding_all exact ⟨_, _, rfl, rfl, rfl⟩) (by rw [vlL_len]; kernel_rfl) vlL_one vlL_fit ?_)
            intro w24 hF24 hz24
            (try simp only [List.set_cons_zero, List.set_cons_succ] at hF24)
            rw [vlL_spl] at hF24
            refine hK.out _ _ ((hF24.blk (i := 3) rfl)) (fun _ => ?_)
            clear hK K
            (try simp only [Act.put, List.setIfInBounds_toArray, List.set_cons_zero, List.set_cons_succ])
            refine wpAnyH_done (by kernel_rfl) ?_ _
            go_wp2_with fail
            go_meet
            exact ⟨g23, A22, c22, rfl, hc22, hF24.picks [0, 1, 2, 3] rfl (by decide)⟩
          exact AllReadyH.nil
        refine AllReadyH.cons (by simp only [List.getElem?_toArray, List.getElem?_cons_zero, List.getElem?_cons_succ]; rfl) (fun K hK => ?_) ?_
        · refine stp (by with_unfolding_all rfl) (wp_falloc hF21 (cs := vl0) (z := .agg (List.toArray (vl0))) rfl (by kernel_rfl) (by with_unfolding_all rfl) ?_)
          intro w22 g22 hF22 hz22
          refine hK.out _ _ ((hF22.blk (i := 3) rfl)) (fun _ => ?_)
          clear hK K
          (try simp only [Act.put, List.setIfInBounds_toArray, List.set_cons_zero, List.set_cons_succ])
          refine rdy1 9 (fun K hK => ?_)
          refine stp (by with_unfolding_all rfl) (wp_fappG T_strs hF22 (i := 1) rfl (Nat.le_refl _) (hF22.rdOld hrn) (strv_one _) (by with_unfolding_all exact ⟨_, _, rfl, rfl, rfl⟩) (by unfold maxLen; omega) (by omega) ?_)
          intro v23 w23 hF23 hz23
          (try simp only [List.set_cons_zero, List.set_cons_succ] at hF23)
          obtain ⟨A23, c23, rfl, hc23⟩ := hF23.ownParts (i := 1) rfl
          rw [Nat.zero_add nn, List.nil_append] at hF23
          rw [Nat.zero_add nn] at hc23
          rw [Nat.zero_add nn]
          refine hK.out _ _ ((hF23.blk (i := 3) rfl)) (fun _ => ?_)
          clear hK K
          (try simp only [Act.put, List.setIfInBounds_toArray, List.set_cons_zero, List.set_cons_succ])
          refine rdy1 10 (fun K hK => ?_)
          refine stp (by with_unfolding_all rfl) (wp_fbuild Tryd.underlying33 (z := .agg (List.toArray vl0)) (by kernel_rfl) (pl := vlP) (by kernel_rfl) (cs := vlL k n ⟨t.toArray⟩ (.slice A23 nn c23) (.slice none 0 0)) rfl (vs := [(0, .int .i64 k), (1, .int .i64 n), (2, .string ⟨t.toArray⟩), (3, .slice A23 nn c23)]) (by with_unfolding_all rfl) (by with_unfolding_all rfl) ?_)
          refine hK.out _ _ ((hF23.blk (i := 3) rfl)) (fun _ => ?_)
          clear hK K
          (try simp only [Act.put, List.setIfInBounds_toArray, List.set_cons_zero, List.set_cons_succ])
          refine rdy1 12 (fun K hK => ?_)
          refine stp (by with_unfolding_all rfl) (wp_fstA hF23 (i := 0) rfl (by with_unfolding_all exact ⟨_, _, rfl, rfl, rfl⟩) (by rw [vlL_len]; kernel_rfl) vlL_one vlL_fit ?_)
          intro w24 hF24 hz24
          (try simp only [List.set_cons_zero, List.set_cons_succ] at hF24)
          rw [vlL_spl] at hF24
          refine hK.out _ _ ((hF24.blk (i := 3) rfl)) (fun _ => ?_)
          clear hK K
          (try simp only [Act.put, List.setIfInBounds_toArray, List.set_cons_zero, List.set_cons_succ])
          refine wpAnyH_done (by kernel_rfl) ?_ _
          go_wp2_with fail
          go_meet
          exact ⟨g22, A23, c23, rfl, hc23, hF24.picks [0, 1, 2, 3] rfl (by decide)⟩
        exact AllReadyH.nil
      refine AllReadyH.cons (by simp only [List.getElem?_toArray, List.getElem?_cons_zero, List.getElem?_cons_succ]; rfl) (fun K hK => ?_) ?_
      · refine stp (by with_unfolding_all rfl) (wp_falloc hFd (cs := vl0) (z := .agg (List.toArray (vl0))) rfl (by kernel_rfl) (by with_unfolding_all rfl) ?_)
        intro w21 g21 hF21 hz21
        refine hK.out _ _ ((hF21.blk (i := 2) rfl)) (fun _ => ?_)
        clear hK K
        (try simp only [Act.put, List.setIfInBounds_toArray, List.set_cons_zero, List.set_cons_succ])
        refine rdy1 6 (fun K hK => ?_)
        refine stp (by with_unfolding_all rfl) (wp_fbsl T_strs hF21 (vs := []) (by with_unfolding_all rfl) (by with_unfolding_all rfl) (by with_unfolding_all rfl) (by decide) (by simp) ?_)
        intro w22 g22 hF22 hz22
        refine hK.out _ _ ((hF22.blk (i := 3) rfl)) (fun _ => ?_)
        clear hK K
        (try simp only [Act.put, List.setIfInBounds_toArray, List.set_cons_zero, List.set_cons_succ])
        refine rdy1 9 (fun K hK => ?_)
        refine stp (by with_unfolding_all rfl) (wp_fappG T_strs hF22 (i := 0) rfl (Nat.le_refl _) (hF22.rdOld hrn) (strv_one _) (by with_unfolding_all exact ⟨_, _, rfl, rfl, rfl⟩) (by unfold maxLen; omega) (by omega) ?_)
        intro v23 w23 hF23 hz23
        (try simp only [List.set_cons_zero, List.set_cons_succ] at hF23)
        obtain ⟨A23, c23, rfl, hc23⟩ := hF23.ownParts (i := 0) rfl
        rw [Nat.zero_add nn, List.nil_append] at hF23
        rw [Nat.zero_add nn] at hc23
        rw [Nat.zero_add nn]
        refine hK.out _ _ ((hF23.blk (i := 3) rfl)) (fun _ => ?_)
        clear hK K
        (try simp only [Act.put, List.setIfInBounds_toArray, List.set_cons_zero, List.set_cons_succ])
        refine rdy1 10 (fun K hK => ?_)
        refine stp (by with_unfolding_all rfl) (wp_fbuild Tryd.underlying33 (z := .agg (List.toArray vl0)) (by kernel_rfl) (pl := vlP) (by kernel_rfl) (cs := vlL k n ⟨t.toArray⟩ (.slice A23 nn c23) (.slice none 0 0)) rfl (vs := [(0, .int .i64 k), (1, .int .i64 n), (2, .string ⟨t.toArray⟩), (3, .slice A23 nn c23)]) (by with_unfolding_all rfl) (by with_unfolding_all rfl) ?_)
        refine hK.out _ _ ((hF23.blk (i := 3) rfl)) (fun _ => ?_)
        clear hK K
        (try simp only [Act.put, List.setIfInBounds_toArray, List.set_cons_zero, List.set_cons_succ])
        refine rdy1 12 (fun K hK => ?_)
        refine stp (by with_unfolding_all rfl) (wp_fstA hF23 (i := 1) rfl (by with_unfolding_all exact ⟨_, _, rfl, rfl, rfl⟩) (by rw [vlL_len]; kernel_rfl) vlL_one vlL_fit ?_)
        intro w24 hF24 hz24
        (try simp only [List.set_cons_zero, List.set_cons_succ] at hF24)
        rw [vlL_spl] at hF24
        refine hK.out _ _ ((hF24.blk (i := 3) rfl)) (fun _ => ?_)
        clear hK K
        (try simp only [Act.put, List.setIfInBounds_toArray, List.set_cons_zero, List.set_cons_succ])
        refine wpAnyH_done (by kernel_rfl) ?_ _
        go_wp2_with fail
        go_meet
        exact ⟨g21, A23, c23, rfl, hc23, hF24.picks [1, 0, 2, 3] rfl (by decide)⟩
      exact AllReadyH.nil
    case rest =>
      obtain ⟨g5, A0, c0, rfl, hc0, hF3⟩ := hcut
      clear hF2
      have hF4 := (hF3.none_ w.heap.size 33 5).picks [1, 0, 2, 3, 4] (fs := (.blk g5 33 (vlL k n ⟨t.toArray⟩ (.slice A0 nn c0) (.slice none 0 0)) :: .own w.heap.size 33 5 (.slice none 0 0) 0 [] :: .own w.heap.size 9 1 (.slice A0 nn c0) nn (ns.map strv) :: .blk g2 33 vl0 :: .blk g1 27 (vlL k n ⟨t.toArray⟩ (.slice An nn cn) (.slice Ak nk ck)) :: [])) rfl (by decide)
      clear hF3
      go_wp2
      go_loopg [6] nk (fun gk s wr => ∃ (i : Nat) (Ai : Option Addr) (ci' : Nat) (xs : List Value) (TE : List Ent), i ≤ nk ∧ Box (gk = nk - i) ∧ s = .int .i64 (i : Int) ∧ i ≤ ci' ∧ i = 0 ∧ Box (VTL [] xs TE) ∧ Fr [] w wr (.blk g5 33 (vlL k n ⟨t.toArray⟩ (.slice A0 nn c0) (.slice Ai i ci')) :: .own w.heap.size 33 5 (.slice Ai i ci') i xs :: .own w.heap.size 9 1 (.slice A0 nn c0) nn (ns.map strv) :: .blk g2 33 vl0 :: .blk g1 27 (vlL k n ⟨t.toArray⟩ (.slice An nn cn) (.slice Ak nk ck)) :: TE))
      case atStart => exact ⟨0, none, 0, [], [], by omega, box rfl, rfl, by omega, rfl, box VTL.nil, hF4⟩
      case round =>
        clear hF4
        obtain ⟨i, Ai, ci', xs, TE, hi, hk, rfl, hci', h0, hT, hF⟩ := hrel
        have hkf : Box (gk = nk - i) := hk
        clear hk
        subst h0
        by_cases hz0 : 0 < nk
        · go_wp2_with (first | (with_reducible refine lst (by with_unfolding_all rfl) (wp_fld4 hF Tryd.underlying25 rfl (by with_unfolding_all exact ⟨_, rfl, rfl⟩) rfl ?_)) | (with_reducible refine lst (by with_unfolding_all rfl) (wp_fldA0 hF Tryd.underlying33 rfl (by with_unfolding_all exact ⟨_, rfl, rfl⟩) (ds := (vlL k n ⟨t.toArray⟩ (.slice A0 nn c0) (.slice Ai 0 ci'))) (by rw [vlL_len]; kernel_rfl) (take_all _) ?_)) | ((with_reducible refine lst (by with_unfolding_all rfl) (wp_fstA3 hF (by with_unfolding_all exact ⟨_, _, rfl, rfl, rfl⟩) (by rw [vlL_len]; kernel_rfl) vlL_one vlL_fit vlL_spl ?_)); intro w9 hF9 hz9))
          exact bodyPost_ret (results_cellF rfl _ hF9 (i := 3) rfl rfl Tryd.underlying33 rfl (by rw [vlL_len]; kernel_rfl)) rfl (by
            refine ⟨_, _, rfl, VT.mk_ hc0 hci' hT.out, ?_⟩
            have h1 := hF9.toRd (i := 1) rfl
            simp only [List.set_cons_succ, List.set_cons_zero] at h1
            have h2 := h1.toRd (i := 2) rfl
            simp only [List.set_cons_succ, List.set_cons_zero] at h2
            refine (h2.sub (es' := .rd Ai 5 0 xs :: .rd A0 1 nn (ns.map strv) :: TE) ?_).perm (List.Perm.swap _ _ _)
            exact (((((List.Sublist.refl _).cons _).cons _).cons_cons _).cons_cons _).cons _)
        · go_wp2_with (first | (with_reducible refine lst (by with_unfolding_all rfl) (wp_fld4 hF Tryd.underlying25 rfl (by with_unfolding_all exact ⟨_, rfl, rfl⟩) rfl ?_)) | (with_reducible refine lst (by with_unfolding_all rfl) (wp_fldA0 hF Tryd.underlying33 rfl (by with_unfolding_all exact ⟨_, rfl, rfl⟩) (ds := (vlL k n ⟨t.toArray⟩ (.slice A0 nn c0) (.slice Ai 0 ci'))) (by rw [vlL_len]; kernel_rfl) (take_all _) ?_)) | ((with_reducible refine lst (by with_unfolding_all rfl) (wp_fstA3 hF (by with_unfolding_all exact ⟨_, _, rfl, rfl, rfl⟩) (by rw [vlL_len]; kernel_rfl) vlL_one vlL_fit vlL_spl ?_)); intro w9 hF9 hz9))
          exact bodyPost_ret (results_cellF rfl _ hF9 (i := 3) rfl rfl Tryd.underlying33 rfl (by rw [vlL_len]; kernel_rfl)) rfl (by
            refine ⟨_, _, rfl, VT.mk_ hc0 hci' hT.out, ?_⟩
            have h1 := hF9.toRd (i := 1) rfl
            simp only [List.set_cons_succ, List.set_cons_zero] at h1
            have h2 := h1.toRd (i := 2) rfl
            simp only [List.set_cons_succ, List.set_cons_zero] at h2
            refine (h2.sub (es' := .rd Ai 5 0 xs :: .rd A0 1 nn (ns.map strv) :: TE) ?_).perm (List.Perm.swap _ _ _)
            exact (((((List.Sublist.refl _).cons _).cons _).cons_cons _).cons_cons _).cons _)
  | succ d ih =>
    intro v cs w hd hv hsm
    obtain ⟨k, n, t, ns, ks⟩ := v
    rw [VRd] at hv
    obtain ⟨An, nn, cn, Ak, nk, ck, xk, hcn, hck, rfl, hrn, hrk, hvk⟩ := hv
    rw [JSm] at hsm
    obtain ⟨hs1, hs2, hs3⟩ := hsm
    have hnn : ns.length = nn := by have := hrn.len; simpa using this
    have hnk : ks.length = nk := by have := hrk.len; rw [hvk.len] at this; omega
    rw [hnn] at hs1
    rw [hnk] at hs2
    replace hnn := box hnn
    replace hnk := box hnk
    replace hvk := box hvk
    have hF0 := Fr.nil w
    obtain ⟨cs, hcs⟩ : ∃ cs, cs = (vlL k n ⟨t.toArray⟩ (.slice An nn cn) (.slice Ak nk ck)) := ⟨_, rfl⟩
    replace hcs := box hcs
    go_enter Tryd.func15, Tryd.ntmps15
    go_upto_region 1 with (first | ((with_reducible refine lst (by with_unfolding_all rfl) (wp_fbox hF0 (cs := (vlL k n ⟨t.toArray⟩ (.slice An nn cn) (.slice Ak nk ck))) rfl (by with_unfolding_all rfl) (by with_unfolding_all rfl) ?_)); intro w1 g1 hF1 hz1) | ((with_reducible refine lst (by with_unfolding_all rfl) (wp_falloc hF1 (cs := vl0) (z := .agg (List.toArray (vl0))) rfl (by kernel_rfl) (by with_unfolding_all rfl) ?_)); intro w2 g2 hF2 hz2))
    simp only [Act.put, List.setIfInBounds_toArray, List.set_cons_zero, List.set_cons_succ]
    clear hF0 hF1
    go_cut [5] (fun s5 wx => ∃ (g5 : Nat) (A0 : Option Addr) (c0 : Nat), s5 = .pointer (some ⟨g5, 0, none⟩) ∧ nn ≤ c0 ∧ Fr [] w wx [.blk g5 33 (vlL k n ⟨t.toArray⟩ (.slice A0 nn c0) (.slice none 0 0)), .own w.heap.size 9 1 (.slice A0 nn c0) nn (ns.map strv), .blk g2 33 vl0, .blk g1 27 (vlL k n ⟨t.toArray⟩ (.slice An nn cn) (.slice Ak nk ck))])
    case first =>
      have hFd := hF2.drew
      refine wp_region_held (S := fun w' => w'.heap[g1]? = some (.cells (List.toArray (vlL k n ⟨t.toArray⟩ (.slice An nn cn) (.slice Ak nk ck))) 27 (0, 0))) (by kernel_rfl) ?_
      change wpAnyH _ _ _ _ _ _ _ _ (World.drew _)
      refine tkp 0 (hFd.blk (i := 1) rfl) ?_
      (try simp only [Act.put, List.setIfInBounds_toArray, List.set_cons_zero, List.set_cons_succ])
      refine tky 1 (y := yi_fld (by with_unfolding_all rfl) (fun _ h => h) Tryd.underlying3 rfl (by with_unfolding_all exact ⟨_, rfl, rfl⟩) rfl) (s := (hFd.blk (i := 1) rfl)) (h := ?_)
      (try simp only [Act.put, List.setIfInBounds_toArray, List.set_cons_zero, List.set_cons_succ])
      refine tkp 2 (hFd.blk (i := 1) rfl) ?_
      (try simp only [Act.put, List.setIfInBounds_toArray, List.set_cons_zero, List.set_cons_succ])
      refine tky 3 (y := yi_fld (by with_unfolding_all rfl) (fun _ h => h) Tryd.underlying3 rfl (by with_unfolding_all exact ⟨_, rfl, rfl⟩) rfl) (s := (hFd.blk (i := 1) rfl)) (h := ?_)
      (try simp only [Act.put, List.setIfInBounds_toArray, List.set_cons_zero, List.set_cons_succ])
      refine tkp 4 (hFd.blk (i := 1) rfl) ?_
      (try simp only [Act.put, List.setIfInBounds_toArray, List.set_cons_zero, List.set_cons_succ])
      refine tky 5 (y := yi_fld (by with_unfolding_all rfl) (fun _ h => h) Tryd.underlying9 rfl (by with_unfolding_all exact ⟨_, rfl, rfl⟩) rfl) (s := (hFd.blk (i := 1) rfl)) (h := ?_)
      (try simp only [Act.put, List.setIfInBounds_toArray, List.set_cons_zero, List.set_cons_succ])
      refine tkp 7 (hFd.blk (i := 1) rfl) ?_
      (try simp only [Act.put, List.setIfInBounds_toArray, List.set_cons_zero, List.set_cons_succ])
      refine tky 8 (y := yi_fld (by with_unfolding_all rfl) (fun _ h => h) Tryd.underlying24 rfl (by with_unfolding_all exact ⟨_, rfl, rfl⟩) rfl) (s := (hFd.blk (i := 1) rfl)) (h := ?_)
      (try simp only [Act.put, List.setIfInBounds_toArray, List.set_cons_zero, List.set_cons_succ])
      refine wpAnyH_ready (rs := [6, 11]) (by kernel_rfl) (by simp) ?_
      refine AllReadyH.cons (by simp only [List.getElem?_toArray, List.getElem?_cons_zero, List.getElem?_cons_succ]; rfl) (fun K hK => ?_) ?_
      · refine stp (by with_unfolding_all rfl) (wp_fbsl T_strs hFd (vs := []) (by with_unfolding_all rfl) (by with_unfolding_all rfl) (by with_unfolding_all rfl) (by decide) (by simp) ?_)
        intro w21 g21 hF21 hz21
        refine hK.out _ _ ((hF21.blk (i := 2) rfl)) (fun _ => ?_)
        clear hK K
        (try simp only [Act.put, List.setIfInBounds_toArray, List.set_cons_zero, List.set_cons_succ])
        refine wpAnyH_ready (rs := [9, 11]) (by kernel_rfl) (by simp) ?_
        refine AllReadyH.cons (by simp only [List.getElem?_toArray, List.getElem?_cons_zero, List.getElem?_cons_succ]; rfl) (fun K hK => ?_) ?_
        · refine stp (by with_unfolding_all rfl) (wp_fappG T_strs hF21 (i := 0) rfl (Nat.le_refl _) (hF21.rdOld hrn) (strv_one _) (by with_unfolding_all exact ⟨_, _, rfl, rfl, rfl⟩) (by unfold maxLen; omega) (by omega) ?_)
          intro v22 w22 hF22 hz22
          (try simp only [List.set_cons_zero, List.set_cons_succ] at hF22)
          obtain ⟨A22, c22, rfl, hc22⟩ := hF22.ownParts (i := 0) rfl
          rw [Nat.zero_add nn, List.nil_append] at hF22
          rw [Nat.zero_add nn] at hc22
          rw [Nat.zero_add nn]
          refine hK.out _ _ ((hF22.blk (i := 2) rfl)) (fun _ => ?_)
          clear hK K
          (try simp only [Act.put, List.setIfInBounds_toArray, List.set_cons_zero, List.set_cons_succ])
          refine wpAnyH_ready (rs := [10, 11]) (by kernel_rfl) (by simp) ?_
          refine AllReadyH.cons (by simp only [List.getElem?_toArray, List.getElem?_cons_zero, List.getElem?_cons_succ]; rfl) (fun K hK => ?_) ?_
          · refine stp (by with_unfolding_all rfl) (wp_fbuild Tryd.underlying33 (z := .agg (List.toArray vl0)) (by kernel_rfl) (pl := vlP) (by kernel_rfl) (cs := vlL k n ⟨t.toArray⟩ (.slice A22 nn c22) (.slice none 0 0)) rfl (vs := [(0, .int .i64 k), (1, .int .i64 n), (2, .string ⟨t.toArray⟩), (3, .slice A22 nn c22)]) (by with_unfolding_all rfl) (by with_unfolding_all rfl) ?_)
            refine hK.out _ _ ((hF22.blk (i := 2) rfl)) (fun _ => ?_)
            clear hK K
            (try simp only [Act.put, List.setIfInBounds_toArray, List.set_cons_zero, List.set_cons_succ])
            refine rdy1 11 (fun K hK => ?_)
            refine stp (by with_unfolding_all rfl) (wp_falloc hF22 (cs := vl0) (z := .agg (List.toArray (vl0))) rfl (by kernel_rfl) (by with_unfolding_all rfl) ?_)
            intro w23 g23 hF23 hz23
            refine hK.out _ _ ((hF23.blk (i := 3) rfl)) (fun _ => ?_)
            clear hK K
            (try simp only [Act.put, List.setIfInBounds_toArray, List.set_cons_zero, List.set_cons_succ])
            refine rdy1 12 (fun K hK => ?_)
            refine stp (by with_unfolding_all rfl) (wp_fstA hF23 (i := 0) rfl (by with_unfolding_all exact ⟨_, _, rfl, rfl, rfl⟩) (by rw [vlL_len]; kernel_rfl) vlL_one vlL_fit ?_)
            intro w24 hF24 hz24
            (try simp only [List.set_cons_zero, List.set_cons_succ] at hF24)
            rw [vlL_spl] at hF24
            refine hK.out _ _ ((hF24.blk (i := 3) rfl)) (fun _ => ?_)
            clear hK K
            (try simp only [Act.put, List.setIfInBounds_toArray, List.set_cons_zero, List.set_cons_succ])
            refine wpAnyH_done (by kernel_rfl) ?_ _
            go_wp2_with fail
            go_meet
            exact ⟨g23, A22, c22, rfl, hc22, hF24.picks [0, 1, 2, 3] rfl (by decide)⟩
          refine AllReadyH.cons (by simp only [List.getElem?_toArray, List.getElem?_cons_zero, List.getElem?_cons_succ]; rfl) (fun K hK => ?_) ?_
          · refine stp (by with_unfolding_all rfl) (wp_falloc hF22 (cs := vl0) (z := .agg (List.toArray (vl0))) rfl (by kernel_rfl) (by with_unfolding_all rfl) ?_)
            intro w23 g23 hF23 hz23
            refine hK.out _ _ ((hF23.blk (i := 3) rfl)) (fun _ => ?_)
            clear hK K
            (try simp only [Act.put, List.setIfInBounds_toArray, List.set_cons_zero, List.set_cons_succ])
            refine rdy1 10 (fun K hK => ?_)
            refine stp (by with_unfolding_all rfl) (wp_fbuild Tryd.underlying33 (z := .agg (List.toArray vl0)) (by kernel_rfl) (pl := vlP) (by kernel_rfl) (cs := vlL k n ⟨t.toArray⟩ (.slice A22 nn c22) (.slice none 0 0)) rfl (vs := [(0, .int .i64 k), (1, .int .i64 n), (2, .string ⟨t.toArray⟩), (3, .slice A22 nn c22)]) (by with_unfolding_all rfl) (by with_unfolding_all rfl) ?_)
            refine hK.out _ _ ((hF23.blk (i := 3) rfl)) (fun _ => ?_)
            clear hK K
            (try simp only [Act.put, List.setIfInBounds_toArray, List.set_cons_zero, List.set_cons_succ])
            refine rdy1 12 (fun K hK => ?_)
            refine stp (by with_unfolding_all rfl) (wp_fstA hF23 (i := 0) rfl (by with_unfolding_all exact ⟨_, _, rfl, rfl, rfl⟩) (by rw [vlL_len]; kernel_rfl) vlL_one vlL_fit ?_)
            intro w24 hF24 hz24
            (try simp only [List.set_cons_zero, List.set_cons_succ] at hF24)
            rw [vlL_spl] at hF24
            refine hK.out _ _ ((hF24.blk (i := 3) rfl)) (fun _ => ?_)
            clear hK K
            (try simp only [Act.put, List.setIfInBounds_toArray, List.set_cons_zero, List.set_cons_succ])
            refine wpAnyH_done (by kernel_rfl) ?_ _
            go_wp2_with fail
            go_meet
            exact ⟨g23, A22, c22, rfl, hc22, hF24.picks [0, 1, 2, 3] rfl (by decide)⟩
          exact AllReadyH.nil
        refine AllReadyH.cons (by simp only [List.getElem?_toArray, List.getElem?_cons_zero, List.getElem?_cons_succ]; rfl) (fun K hK => ?_) ?_
        · refine stp (by with_unfolding_all rfl) (wp_falloc hF21 (cs := vl0) (z := .agg (List.toArray (vl0))) rfl (by kernel_rfl) (by with_unfolding_all rfl) ?_)
          intro w22 g22 hF22 hz22
          refine hK.out _ _ ((hF22.blk (i := 3) rfl)) (fun _ => ?_)
          clear hK K
          (try simp only [Act.put, List.setIfInBounds_toArray, List.set_cons_zero, List.set_cons_succ])
          refine rdy1 9 (fun K hK => ?_)
          refine stp (by with_unfolding_all rfl) (wp_fappG T_strs hF22 (i := 1) rfl (Nat.le_refl _) (hF22.rdOld hrn) (strv_one _) (by with_unfolding_all exact ⟨_, _, rfl, rfl, rfl⟩) (by unfold maxLen; omega) (by omega) ?_)
          intro v23 w23 hF23 hz23
          (try simp only [List.set_cons_zero, List.set_cons_succ] at hF23)
          obtain ⟨A23, c23, rfl, hc23⟩ := hF23.ownParts (i := 1) rfl
          rw [Nat.zero_add nn, List.nil_append] at hF23
          rw [Nat.zero_add nn] at hc23
          rw [Nat.zero_add nn]
          refine hK.out _ _ ((hF23.blk (i := 3) rfl)) (fun _ => ?_)
          clear hK K
          (try simp only [Act.put, List.setIfInBounds_toArray, List.set_cons_zero, List.set_cons_succ])
          refine rdy1 10 (fun K hK => ?_)
          refine stp (by with_unfolding_all rfl) (wp_fbuild Tryd.underlying33 (z := .agg (List.toArray vl0)) (by kernel_rfl) (pl := vlP) (by kernel_rfl) (cs := vlL k n ⟨t.toArray⟩ (.slice A23 nn c23) (.slice none 0 0)) rfl (vs := [(0, .int .i64 k), (1, .int .i64 n), (2, .string ⟨t.toArray⟩), (3, .slice A23 nn c23)]) (by with_unfolding_all rfl) (by with_unfolding_all rfl) ?_)
          refine hK.out _ _ ((hF23.blk (i := 3) rfl)) (fun _ => ?_)
          clear hK K
          (try simp only [Act.put, List.setIfInBounds_toArray, List.set_cons_zero, List.set_cons_succ])
          refine rdy1 12 (fun K hK => ?_)
          refine stp (by with_unfolding_all rfl) (wp_fstA hF23 (i := 0) rfl (by with_unfolding_all exact ⟨_, _, rfl, rfl, rfl⟩) (by rw [vlL_len]; kernel_rfl) vlL_one vlL_fit ?_)
          intro w24 hF24 hz24
          (try simp only [List.set_cons_zero, List.set_cons_succ] at hF24)
          rw [vlL_spl] at hF24
          refine hK.out _ _ ((hF24.blk (i := 3) rfl)) (fun _ => ?_)
          clear hK K
          (try simp only [Act.put, List.setIfInBounds_toArray, List.set_cons_zero, List.set_cons_succ])
          refine wpAnyH_done (by kernel_rfl) ?_ _
          go_wp2_with fail
          go_meet
          exact ⟨g22, A23, c23, rfl, hc23, hF24.picks [0, 1, 2, 3] rfl (by decide)⟩
        exact AllReadyH.nil
      refine AllReadyH.cons (by simp only [List.getElem?_toArray, List.getElem?_cons_zero, List.getElem?_cons_succ]; rfl) (fun K hK => ?_) ?_
      · refine stp (by with_unfolding_all rfl) (wp_falloc hFd (cs := vl0) (z := .agg (List.toArray (vl0))) rfl (by kernel_rfl) (by with_unfolding_all rfl) ?_)
        intro w21 g21 hF21 hz21
        refine hK.out _ _ ((hF21.blk (i := 2) rfl)) (fun _ => ?_)
        clear hK K
        (try simp only [Act.put, List.setIfInBounds_toArray, List.set_cons_zero, List.set_cons_succ])
        refine rdy1 6 (fun K hK => ?_)
        refine stp (by with_unfolding_all rfl) (wp_fbsl T_strs hF21 (vs := []) (by with_unfolding_all rfl) (by with_unfolding_all rfl) (by with_unfolding_all rfl) (by decide) (by simp) ?_)
        intro w22 g22 hF22 hz22
        refine hK.out _ _ ((hF22.blk (i := 3) rfl)) (fun _ => ?_)
        clear hK K
        (try simp only [Act.put, List.setIfInBounds_toArray, List.set_cons_zero, List.set_cons_succ])
        refine rdy1 9 (fun K hK => ?_)
        refine stp (by with_unfolding_all rfl) (wp_fappG T_strs hF22 (i := 0) rfl (Nat.le_refl _) (hF22.rdOld hrn) (strv_one _) (by with_unfolding_all exact ⟨_, _, rfl, rfl, rfl⟩) (by unfold maxLen; omega) (by omega) ?_)
        intro v23 w23 hF23 hz23
        (try simp only [List.set_cons_zero, List.set_cons_succ] at hF23)
        obtain ⟨A23, c23, rfl, hc23⟩ := hF23.ownParts (i := 0) rfl
        rw [Nat.zero_add nn, List.nil_append] at hF23
        rw [Nat.zero_add nn] at hc23
        rw [Nat.zero_add nn]
        refine hK.out _ _ ((hF23.blk (i := 3) rfl)) (fun _ => ?_)
        clear hK K
        (try simp only [Act.put, List.setIfInBounds_toArray, List.set_cons_zero, List.set_cons_succ])
        refine rdy1 10 (fun K hK => ?_)
        refine stp (by with_unfolding_all rfl) (wp_fbuild Tryd.underlying33 (z := .agg (List.toArray vl0)) (by kernel_rfl) (pl := vlP) (by kernel_rfl) (cs := vlL k n ⟨t.toArray⟩ (.slice A23 nn c23) (.slice none 0 0)) rfl (vs := [(0, .int .i64 k), (1, .int .i64 n), (2, .string ⟨t.toArray⟩), (3, .slice A23 nn c23)]) (by with_unfolding_all rfl) (by with_unfolding_all rfl) ?_)
        refine hK.out _ _ ((hF23.blk (i := 3) rfl)) (fun _ => ?_)
        clear hK K
        (try simp only [Act.put, List.setIfInBounds_toArray, List.set_cons_zero, List.set_cons_succ])
        refine rdy1 12 (fun K hK => ?_)
        refine stp (by with_unfolding_all rfl) (wp_fstA hF23 (i := 1) rfl (by with_unfolding_all exact ⟨_, _, rfl, rfl, rfl⟩) (by rw [vlL_len]; kernel_rfl) vlL_one vlL_fit ?_)
        intro w24 hF24 hz24
        (try simp only [List.set_cons_zero, List.set_cons_succ] at hF24)
        rw [vlL_spl] at hF24
        refine hK.out _ _ ((hF24.blk (i := 3) rfl)) (fun _ => ?_)
        clear hK K
        (try simp only [Act.put, List.setIfInBounds_toArray, List.set_cons_zero, List.set_cons_succ])
        refine wpAnyH_done (by kernel_rfl) ?_ _
        go_wp2_with fail
        go_meet
        exact ⟨g21, A23, c23, rfl, hc23, hF24.picks [1, 0, 2, 3] rfl (by decide)⟩
      exact AllReadyH.nil
    case rest =>
      obtain ⟨g5, A0, c0, rfl, hc0, hF3⟩ := hcut
      clear hF2
      have hF4 := (hF3.none_ w.heap.size 33 5).picks [1, 0, 2, 3, 4] (fs := (.blk g5 33 (vlL k n ⟨t.toArray⟩ (.slice A0 nn c0) (.slice none 0 0)) :: .own w.heap.size 33 5 (.slice none 0 0) 0 [] :: .own w.heap.size 9 1 (.slice A0 nn c0) nn (ns.map strv) :: .blk g2 33 vl0 :: .blk g1 27 (vlL k n ⟨t.toArray⟩ (.slice An nn cn) (.slice Ak nk ck)) :: [])) rfl (by decide)
      clear hF3
      go_wp2
      go_loopg [6] nk (fun gk s wr => ∃ (i : Nat) (Ai : Option Addr) (ci' : Nat) (xs : List Value) (TE : List Ent), i ≤ nk ∧ Box (gk = nk - i) ∧ s = .int .i64 (i : Int) ∧ i ≤ ci' ∧ True ∧ Box (VTL ((ks.take i).map (jCut d)) xs TE) ∧ Fr [] w wr (.blk g5 33 (vlL k n ⟨t.toArray⟩ (.slice A0 nn c0) (.slice Ai i ci')) :: .own w.heap.size 33 5 (.slice Ai i ci') i xs :: .own w.heap.size 9 1 (.slice A0 nn c0) nn (ns.map strv) :: .blk g2 33 vl0 :: .blk g1 27 (vlL k n ⟨t.toArray⟩ (.slice An nn cn) (.slice Ak nk ck)) :: TE))
      case atStart => exact ⟨0, none, 0, [], [], by omega, box rfl, rfl, by omega, trivial, box VTL.nil, hF4⟩
      case round =>
        clear hF4
        obtain ⟨i, Ai, ci', xs, TE, hi, hk, rfl, hci', h0, hT, hF⟩ := hrel
        have hkf : Box (gk = nk - i) := hk
        clear hk
        by_cases hlt : i < nk
        · obtain ⟨vi, hvi⟩ : ∃ vi, ks[i]? = some vi := ⟨ks[i]'(by rw [hnk.out]; exact hlt), by simp⟩
          obtain ⟨ci, hci, hvri⟩ := hvk.out.at hvi
          have hcil := box hvri.len
          replace hci := box hci
          have hsi := hs3.at hvi
          have ihc := box (fun w' (hb : Below w.heap.size w w') => ih vi ci w' (by omega) (hvri.on hb) hsi)
          have hT2 : Box (∀ c e, VT (jCut d vi) c e → VTL ((ks.take (i + 1)).map (jCut d)) (xs ++ c) (TE ++ e)) := box (fun c e h => by
            rw [List.take_add_one, hvi, List.map_append]
            exact hT.out.snoc h)
          have hwp := wrap64_pred (d := d) (by omega)
          replace hvi := box hvi
          replace hvri := box hvri
          replace hsi := box hsi
          replace hs3 := box hs3
          go_upto_region 5 with (first | (with_reducible refine lst (by with_unfolding_all rfl) (wp_fld4 hF Tryd.underlying25 rfl (by with_unfolding_all exact ⟨_, rfl, rfl⟩) rfl ?_)))
          have hFd := hF.drew
          refine wp_region_held (S := fun w' => w'.heap[g1]? = some (.cells (List.toArray (vlL k n ⟨t.toArray⟩ (.slice An nn cn) (.slice Ak nk ck))) 27 (0, 0)) ∧ Rd w' (· < w.heap.size) Ak 5 nk xk) (by kernel_rfl) ?_
          change wpAnyH _ _ _ _ _ _ _ _ (World.drew _)
          refine tkp 0 ⟨hFd.blk (i := 4) rfl, hrk.below hFd.below⟩ ?_
          (try simp only [Act.put, List.setIfInBounds_toArray, List.set_cons_zero, List.set_cons_succ])
          refine tkp 2 ⟨hFd.blk (i := 4) rfl, hrk.below hFd.below⟩ ?_
          (try simp only [Act.put, List.setIfInBounds_toArray, List.set_cons_zero, List.set_cons_succ])
          refine tky 3 (y := yi_fld (by with_unfolding_all rfl) (fun _ h => h.1) Tryd.underlying25 rfl (by with_unfolding_all exact ⟨_, rfl, rfl⟩) rfl) (s := ⟨hFd.blk (i := 4) rfl, hrk.below hFd.below⟩) (h := ?_)
          (try simp only [Act.put, List.setIfInBounds_toArray, List.set_cons_zero, List.set_cons_succ])
          refine tkp 4 ⟨hFd.blk (i := 4) rfl, hrk.below hFd.below⟩ ?_
          (try simp only [Act.put, List.setIfInBounds_toArray, List.set_cons_zero, List.set_cons_succ])
          refine tky 5 (y := yi_ix (by with_unfolding_all rfl) T_vals (fun h => hrk.some_ h) (k := i) (by with_unfolding_all exact ⟨_, _, _, _, rfl, rfl, rfl⟩) rfl (by omega)) (s := ⟨hFd.blk (i := 4) rfl, hrk.below hFd.below⟩) (h := ?_)
          (try simp only [Act.put, List.setIfInBounds_toArray, List.set_cons_zero, List.set_cons_succ])
          refine tky 6 (y := yi_ldA (by with_unfolding_all rfl) (fun _ h => h.2) Tryd.underlying27 rfl (by with_unfolding_all exact ⟨_, rfl, rfl⟩) (ds := ci) (by rw [hcil.out]; kernel_rfl) (by rw [hcil.out]; exact hci.out)) (s := ⟨hFd.blk (i := 4) rfl, hrk.below hFd.below⟩) (h := ?_)
          (try simp only [Act.put, List.setIfInBounds_toArray, List.set_cons_zero, List.set_cons_succ])
          refine tkp 7 ⟨hFd.blk (i := 4) rfl, hrk.below hFd.below⟩ ?_
          (try simp only [Act.put, List.setIfInBounds_toArray, List.set_cons_zero, List.set_cons_succ])
          refine tkp 8 ⟨hFd.blk (i := 4) rfl, hrk.below hFd.below⟩ ?_
          (try simp only [Act.put, List.setIfInBounds_toArray, List.set_cons_zero, List.set_cons_succ])
          refine wpAnyH_ready (rs := [1, 9]) (by kernel_rfl) (by simp) ?_
          refine AllReadyH.cons (by simp only [List.getElem?_toArray, List.getElem?_cons_zero, List.getElem?_cons_succ]; rfl) (fun K hK => ?_) ?_
          · refine stp (by with_unfolding_all rfl) (wp_fld hFd (i := 0) rfl Tryd.underlying31 rfl (by with_unfolding_all exact ⟨_, rfl, rfl⟩) rfl ?_)
            refine hK.out _ _ (⟨hFd.blk (i := 4) rfl, hrk.below hFd.below⟩) (fun _ => ?_)
            clear hK K
            (try simp only [Act.put, List.setIfInBounds_toArray, List.set_cons_zero, List.set_cons_succ])
            refine rdy1 9 (fun K hK => ?_)
            refine stp (by with_unfolding_all rfl) (wp_call Tryd.func15 rfl (by with_unfolding_all rfl) (by with_unfolding_all rfl) (by with_unfolding_all rfl) (ihc.out _ hFd.below) ?_)
            rintro e w31 ⟨cs31, es31, rfl, hvt31, hv31⟩
            refine ⟨_, rfl, ?_⟩
            have hF31 := hFd.joinR hv31
            simp only [List.cons_append] at hF31
            refine hK.out _ _ (⟨hF31.blk (i := 4) rfl, hrk.below hF31.below⟩) (fun _ => ?_)
            clear hK K
            (try simp only [Act.put, List.setIfInBounds_toArray, List.set_cons_zero, List.set_cons_succ])
            refine rdy1 10 (fun K hK => ?_)
            refine stp (by with_unfolding_all rfl) (wp_fbs1 T_rvals hF31 (by with_unfolding_all rfl) (ds := cs31) (by with_unfolding_all rfl) hvt31.len (by decide) ?_)
            intro w32 g32 hF32 hz32
            refine hK.out _ _ (⟨hF32.blk (i := 5) rfl, hrk.below hF32.below⟩) (fun _ => ?_)
            clear hK K
            (try simp only [Act.put, List.setIfInBounds_toArray, List.set_cons_zero, List.set_cons_succ])
            refine rdy1 11 (fun K hK => ?_)
            refine stp (by with_unfolding_all rfl) (wp_fappG T_rvals hF32 (i := 2) rfl (Nat.le_refl _) (hF32.rdOwn (i := 0) rfl) hvt31.one (by with_unfolding_all exact ⟨_, _, rfl, rfl, rfl⟩) (by unfold maxLen; omega) (by omega) ?_)
            intro v33 w33 hF33 hz33
            (try simp only [List.set_cons_zero, List.set_cons_succ] at hF33)
            obtain ⟨A33, c33, rfl, hc33⟩ := hF33.ownParts (i := 2) rfl
            refine hK.out _ _ (⟨hF33.blk (i := 5) rfl, hrk.below hF33.below⟩) (fun _ => ?_)
            clear hK K
            (try simp only [Act.put, List.setIfInBounds_toArray, List.set_cons_zero, List.set_cons_succ])
            refine tkp 12 ⟨hF33.blk (i := 5) rfl, hrk.below hF33.below⟩ ?_
            (try simp only [Act.put, List.setIfInBounds_toArray, List.set_cons_zero, List.set_cons_succ])
            refine rdy1 13 (fun K hK => ?_)
            refine stp (by with_unfolding_all rfl) (wp_fst hF33 (i := 1) rfl (v := .slice A33 (i + 1) c33) (by with_unfolding_all exact ⟨_, _, rfl, rfl, rfl⟩) (by kernel_rfl) rfl rfl (by rw [vlL_len]; decide) ?_)
            intro w34 hF34 hz34
            (try simp only [List.set_cons_zero, List.set_cons_succ] at hF34)
            rw [(vlL_4 (k := k) (n := n) (t := ⟨t.toArray⟩) (a := .slice A0 nn c0) (b := .slice Ai i ci'))] at hF34
            refine hK.out _ _ (⟨hF34.blk (i := 5) rfl, hrk.below hF34.below⟩) (fun _ => ?_)
            clear hK K
            (try simp only [Act.put, List.setIfInBounds_toArray, List.set_cons_zero, List.set_cons_succ])
            refine wpAnyH_done (by kernel_rfl) ?_ _
            go_wp2_with fail
            go_roundg (nk - (i + 1))
            case rel => exact ⟨i + 1, A33, c33, _, _, by omega, box rfl, by go_num, hc33, trivial, box (hT2.out _ _ hvt31), hF34.tail⟩
            case measure => have := hkf.out; omega
          refine AllReadyH.cons (by simp only [List.getElem?_toArray, List.getElem?_cons_zero, List.getElem?_cons_succ]; rfl) (fun K hK => ?_) ?_
          · refine stp (by with_unfolding_all rfl) (wp_call Tryd.func15 rfl (by with_unfolding_all rfl) (by with_unfolding_all rfl) (by with_unfolding_all rfl) (ihc.out _ hFd.below) ?_)
            rintro e w31 ⟨cs31, es31, rfl, hvt31, hv31⟩
            refine ⟨_, rfl, ?_⟩
            have hF31 := hFd.joinR hv31
            simp only [List.cons_append] at hF31
            refine hK.out _ _ (⟨hF31.blk (i := 4) rfl, hrk.below hF31.below⟩) (fun _ => ?_)
            clear hK K
            (try simp only [Act.put, List.setIfInBounds_toArray, List.set_cons_zero, List.set_cons_succ])
            refine wpAnyH_ready (rs := [1, 10]) (by kernel_rfl) (by simp) ?_
            refine AllReadyH.cons (by simp only [List.getElem?_toArray, List.getElem?_cons_zero, List.getElem?_cons_succ]; rfl) (fun K hK => ?_) ?_
            · refine stp (by with_unfolding_all rfl) (wp_fld hF31 (i := 0) rfl Tryd.underlying31 rfl (by with_unfolding_all exact ⟨_, rfl, rfl⟩) rfl ?_)
              refine hK.out _ _ (⟨hF31.blk (i := 4) rfl, hrk.below hF31.below⟩) (fun _ => ?_)
              clear hK K
              (try simp only [Act.put, List.setIfInBounds_toArray, List.set_cons_zero, List.set_cons_succ])
              refine rdy1 10 (fun K hK => ?_)
              refine stp (by with_unfolding_all rfl) (wp_fbs1 T_rvals hF31 (by with_unfolding_all rfl) (ds := cs31) (by with_unfolding_all rfl) hvt31.len (by decide) ?_)
              intro w32 g32 hF32 hz32
              refine hK.out _ _ (⟨hF32.blk (i := 5) rfl, hrk.below hF32.below⟩) (fun _ => ?_)
              clear hK K
              (try simp only [Act.put, List.setIfInBounds_toArray, List.set_cons_zero, List.set_cons_succ])
              refine rdy1 11 (fun K hK => ?_)
              refine stp (by with_unfolding_all rfl) (wp_fappG T_rvals hF32 (i := 2) rfl (Nat.le_refl _) (hF32.rdOwn (i := 0) rfl) hvt31.one (by with_unfolding_all exact ⟨_, _, rfl, rfl, rfl⟩) (by unfold maxLen; omega) (by omega) ?_)
              intro v33 w33 hF33 hz33
              (try simp only [List.set_cons_zero, List.set_cons_succ] at hF33)
              obtain ⟨A33, c33, rfl, hc33⟩ := hF33.ownParts (i := 2) rfl
              refine hK.out _ _ (⟨hF33.blk (i := 5) rfl, hrk.below hF33.below⟩) (fun _ => ?_)
              clear hK K
              (try simp only [Act.put, List.setIfInBounds_toArray, List.set_cons_zero, List.set_cons_succ])
              refine tkp 12 ⟨hF33.blk (i := 5) rfl, hrk.below hF33.below⟩ ?_
              (try simp only [Act.put, List.setIfInBounds_toArray, List.set_cons_zero, List.set_cons_succ])
              refine rdy1 13 (fun K hK => ?_)
              refine stp (by with_unfolding_all rfl) (wp_fst hF33 (i := 1) rfl (v := .slice A33 (i + 1) c33) (by with_unfolding_all exact ⟨_, _, rfl, rfl, rfl⟩) (by kernel_rfl) rfl rfl (by rw [vlL_len]; decide) ?_)
              intro w34 hF34 hz34
              (try simp only [List.set_cons_zero, List.set_cons_succ] at hF34)
              rw [(vlL_4 (k := k) (n := n) (t := ⟨t.toArray⟩) (a := .slice A0 nn c0) (b := .slice Ai i ci'))] at hF34
              refine hK.out _ _ (⟨hF34.blk (i := 5) rfl, hrk.below hF34.below⟩) (fun _ => ?_)
              clear hK K
              (try simp only [Act.put, List.setIfInBounds_toArray, List.set_cons_zero, List.set_cons_succ])
              refine wpAnyH_done (by kernel_rfl) ?_ _
              go_wp2_with fail
              go_roundg (nk - (i + 1))
              case rel => exact ⟨i + 1, A33, c33, _, _, by omega, box rfl, by go_num, hc33, trivial, box (hT2.out _ _ hvt31), hF34.tail⟩
              case measure => have := hkf.out; omega
            refine AllReadyH.cons (by simp only [List.getElem?_toArray, List.getElem?_cons_zero, List.getElem?_cons_succ]; rfl) (fun K hK => ?_) ?_
            · refine stp (by with_unfolding_all rfl) (wp_fbs1 T_rvals hF31 (by with_unfolding_all rfl) (ds := cs31) (by with_unfolding_all rfl) hvt31.len (by decide) ?_)
              intro w32 g32 hF32 hz32
              refine hK.out _ _ (⟨hF32.blk (i := 5) rfl, hrk.below hF32.below⟩) (fun _ => ?_)
              clear hK K
              (try simp only [Act.put, List.setIfInBounds_toArray, List.set_cons_zero, List.set_cons_succ])
              refine rdy1 1 (fun K hK => ?_)
              refine stp (by with_unfolding_all rfl) (wp_fld hF32 (i := 1) rfl Tryd.underlying31 rfl (by with_unfolding_all exact ⟨_, rfl, rfl⟩) rfl ?_)
              refine hK.out _ _ (⟨hF32.blk (i := 5) rfl, hrk.below hF32.below⟩) (fun _ => ?_)
              clear hK K
              (try simp only [Act.put, List.setIfInBounds_toArray, List.set_cons_zero, List.set_cons_succ])
              refine rdy1 11 (fun K hK => ?_)
              refine stp (by with_unfolding_all rfl) (wp_fappG T_rvals hF32 (i := 2) rfl (Nat.le_refl _) (hF32.rdOwn (i := 0) rfl) hvt31.one (by with_unfolding_all exact ⟨_, _, rfl, rfl, rfl⟩) (by unfold maxLen; omega) (by omega) ?_)
              intro v33 w33 hF33 hz33
              (try simp only [List.set_cons_zero, List.set_cons_succ] at hF33)
              obtain ⟨A33, c33, rfl, hc33⟩ := hF33.ownParts (i := 2) rfl
              refine hK.out _ _ (⟨hF33.blk (i := 5) rfl, hrk.below hF33.below⟩) (fun _ => ?_)
              clear hK K
              (try simp only [Act.put, List.setIfInBounds_toArray, List.set_cons_zero, List.set_cons_succ])
              refine tkp 12 ⟨hF33.blk (i := 5) rfl, hrk.below hF33.below⟩ ?_
              (try simp only [Act.put, List.setIfInBounds_toArray, List.set_cons_zero, List.set_cons_succ])
              refine rdy1 13 (fun K hK => ?_)
              refine stp (by with_unfolding_all rfl) (wp_fst hF33 (i := 1) rfl (v := .slice A33 (i + 1) c33) (by with_unfolding_all exact ⟨_, _, rfl, rfl, rfl⟩) (by kernel_rfl) rfl rfl (by rw [vlL_len]; decide) ?_)
              intro w34 hF34 hz34
              (try simp only [List.set_cons_zero, List.set_cons_succ] at hF34)
              rw [(vlL_4 (k := k) (n := n) (t := ⟨t.toArray⟩) (a := .slice A0 nn c0) (b := .slice Ai i ci'))] at hF34
              refine hK.out _ _ (⟨hF34.blk (i := 5) rfl, hrk.below hF34.below⟩) (fun _ => ?_)
              clear hK K
              (try simp only [Act.put, List.setIfInBounds_toArray, List.set_cons_zero, List.set_cons_succ])
              refine wpAnyH_done (by kernel_rfl) ?_ _
              go_wp2_with fail
              go_roundg (nk - (i + 1))
              case rel => exact ⟨i + 1, A33, c33, _, _, by omega, box rfl, by go_num, hc33, trivial, box (hT2.out _ _ hvt31), hF34.tail⟩
              case measure => have := hkf.out; omega
            exact AllReadyH.nil
          exact AllReadyH.nil
        · have hin : i = nk := by omega
          subst hin
          have hall : ks.take i = ks := List.take_of_length_le (by rw [hnk.out]; exact Nat.le_refl _)
          rw [hall] at hT
          go_wp2_with (first | (with_reducible refine lst (by with_unfolding_all rfl) (wp_fld4 hF Tryd.underlying25 rfl (by with_unfolding_all exact ⟨_, rfl, rfl⟩) rfl ?_)) | (with_reducible refine lst (by with_unfolding_all rfl) (wp_fldA0 hF Tryd.underlying33 rfl (by with_unfolding_all exact ⟨_, rfl, rfl⟩) (ds := (vlL k n ⟨t.toArray⟩ (.slice A0 nn c0) (.slice Ai i ci'))) (by rw [vlL_len]; kernel_rfl) (take_all _) ?_)) | ((with_reducible refine lst (by with_unfolding_all rfl) (wp_fstA3 hF (by with_unfolding_all exact ⟨_, _, rfl, rfl, rfl⟩) (by rw [vlL_len]; kernel_rfl) vlL_one vlL_fit vlL_spl ?_)); intro w9 hF9 hz9))
          exact bodyPost_ret (results_cellF rfl _ hF9 (i := 3) rfl rfl Tryd.underlying33 rfl (by rw [vlL_len]; kernel_rfl)) rfl (by
            refine ⟨_, _, rfl, VT.mk_ hc0 hci' hT.out, ?_⟩
            have h1 := hF9.toRd (i := 1) rfl
            simp only [List.set_cons_succ, List.set_cons_zero] at h1
            have h2 := h1.toRd (i := 2) rfl
            simp only [List.set_cons_succ, List.set_cons_zero] at h2
            refine (h2.sub (es' := .rd Ai 5 i xs :: .rd A0 1 nn (ns.map strv) :: TE) ?_).perm (List.Perm.swap _ _ _)
            exact (((((List.Sublist.refl _).cons _).cons _).cons_cons _).cons_cons _).cons _)

set_option maxRecDepth 20000 in
set_option maxHeartbeats 12800000 in
theorem to_any (d : Nat) : ∀ (v : JV) (cs : List Value) (w : World), d ≤ 1000 → VRd w (· < w.heap.size) v cs → JSm v →
    Calls Tryd.prog 18 #[.agg cs.toArray, .int .i64 (d : Int)] w fun e w' => ∃ cs' es', e = .returned (.agg cs'.toArray) ∧ VT (jCut d v) cs' es' ∧ Fr [] w w' es' := by
  induction d with
  | zero =>
    intro v cs w hd hv hsm
    obtain ⟨k, n, t, ns, ks⟩ := v
    rw [VRd] at hv
    obtain ⟨An, nn, cn, Ak, nk, ck, xk, hcn, hck, rfl, hrn, hrk, hvk⟩ := hv
    rw [JSm] at hsm
    obtain ⟨hs1, hs2, hs3⟩ := hsm
    have hnn : ns.length = nn := by have := hrn.len; simpa using this
    have hnk : ks.length = nk := by have := hrk.len; rw [hvk.len] at this; omega
    rw [hnn] at hs1
    rw [hnk] at hs2
    replace hnn := box hnn
    replace hnk := box hnk
    replace hvk := box hvk
    have hF0 := Fr.nil w
    obtain ⟨cs, hcs⟩ : ∃ cs, cs = (vlL k n ⟨t.toArray⟩ (.slice An nn cn) (.slice Ak nk ck)) := ⟨_, rfl⟩
    replace hcs := box hcs
    go_enter Tryd.func18, Tryd.ntmps18
    go_upto_region 1 with (first | ((with_reducible refine lst (by with_unfolding_all rfl) (wp_fbox hF0 (cs := (vlL k n ⟨t.toArray⟩ (.slice An nn cn) (.slice Ak nk ck))) rfl (by with_unfolding_all rfl) (by with_unfolding_all rfl) ?_)); intro w1 g1 hF1 hz1) | ((with_reducible refine lst (by with_unfolding_all rfl) (wp_falloc hF1 (cs := vl0) (z := .agg (List.toArray (vl0))) rfl (by kernel_rfl) (by with_unfolding_all rfl) ?_)); intro w2 g2 hF2 hz2))
    simp only [Act.put, List.setIfInBounds_toArray, List.set_cons_zero, List.set_cons_succ]
    clear hF0 hF1
    go_cut [5] (fun s5 wx => ∃ (g5 : Nat) (A0 : Option Addr) (c0 : Nat), s5 = .pointer (some ⟨g5, 0, none⟩) ∧ nn ≤ c0 ∧ Fr [] w wx [.blk g5 27 (vlL k n ⟨t.toArray⟩ (.slice A0 nn c0) (.slice none 0 0)), .own w.heap.size 9 1 (.slice A0 nn c0) nn (ns.map strv), .blk g2 27 vl0, .blk g1 33 (vlL k n ⟨t.toArray⟩ (.slice An nn cn) (.slice Ak nk ck))])
    case first =>
      have hFd := hF2.drew
      refine wp_region_held (S := fun w' => w'.heap[g1]? = some (.cells (List.toArray (vlL k n ⟨t.toArray⟩ (.slice An nn cn) (.slice Ak nk ck))) 33 (0, 0))) (by kernel_rfl) ?_
      change wpAnyH _ _ _ _ _ _ _ _ (World.drew _)
      refine tkp 0 (hFd.blk (i := 1) rfl) ?_
      (try simp only [Act.put, List.setIfInBounds_toArray, List.set_cons_zero, List.set_cons_succ])
      refine tky 1 (y := yi_fld (by with_unfolding_all rfl) (fun _ h => h) Tryd.underlying3 rfl (by with_unfolding_all exact ⟨_, rfl, rfl⟩) rfl) (s := (hFd.blk (i := 1) rfl)) (h := ?_)
      (try simp only [Act.put, List.setIfInBounds_toArray, List.set_cons_zero, List.set_cons_succ])
      refine tkp 2 (hFd.blk (i := 1) rfl) ?_
      (try simp only [Act.put, List.setIfInBounds_toArray, List.set_cons_zero, List.set_cons_succ])
      refine tky 3 (y := yi_fld (by with_unfolding_all rfl) (fun _ h => h) Tryd.underlying3 rfl (by with_unfolding_all exact ⟨_, rfl, rfl⟩) rfl) (s := (hFd.blk (i := 1) rfl)) (h := ?_)
      (try simp only [Act.put, List.setIfInBounds_toArray, List.set_cons_zero, List.set_cons_succ])
      refine tkp 4 (hFd.blk (i := 1) rfl) ?_
      (try simp only [Act.put, List.setIfInBounds_toArray, List.set_cons_zero, List.set_cons_succ])
      refine tky 5 (y := yi_fld (by with_unfolding_all rfl) (fun _ h => h) Tryd.underlying9 rfl (by with_unfolding_all exact ⟨_, rfl, rfl⟩) rfl) (s := (hFd.blk (i := 1) rfl)) (h := ?_)
      (try simp only [Act.put, List.setIfInBounds_toArray, List.set_cons_zero, List.set_cons_succ])
      refine tkp 7 (hFd.blk (i := 1) rfl) ?_
      (try simp only [Act.put, List.setIfInBounds_toArray, List.set_cons_zero, List.set_cons_succ])
      refine tky 8 (y := yi_fld (by with_unfolding_all rfl) (fun _ h => h) Tryd.underlying24 rfl (by with_unfolding_all exact ⟨_, rfl, rfl⟩) rfl) (s := (hFd.blk (i := 1) rfl)) (h := ?_)
      (try simp only [Act.put, List.setIfInBounds_toArray, List.set_cons_zero, List.set_cons_succ])
      refine wpAnyH_ready (rs := [6, 11]) (by kernel_rfl) (by simp) ?_
      refine AllReadyH.cons (by simp only [List.getElem?_toArray, List.getElem?_cons_zero, List.getElem?_cons_succ]; rfl) (fun K hK => ?_) ?_
      · refine stp (by with_unfolding_all rfl) (wp_fbsl T_strs hFd (vs := []) (by with_unfolding_all rfl) (by with_unfolding_all rfl) (by with_unfolding_all rfl) (by decide) (by simp) ?_)
        intro w21 g21 hF21 hz21
        refine hK.out _ _ ((hF21.blk (i := 2) rfl)) (fun _ => ?_)
        clear hK K
        (try simp only [Act.put, List.setIfInBounds_toArray, List.set_cons_zero, List.set_cons_succ])
        refine wpAnyH_ready (rs := [9, 11]) (by kernel_rfl) (by simp) ?_
        refine AllReadyH.cons (by simp only [List.getElem?_toArray, List.getElem?_cons_zero, List.getElem?_cons_succ]; rfl) (fun K hK => ?_) ?_
        · refine stp (by with_unfolding_all rfl) (wp_fappG T_strs hF21 (i := 0) rfl (Nat.le_refl _) (hF21.rdOld hrn) (strv_one _) (by with_unfolding_all exact ⟨_, _, rfl, rfl, rfl⟩) (by unfold maxLen; omega) (by omega) ?_)
          intro v22 w22 hF22 hz22
          (try simp only [List.set_cons_zero, List.set_cons_succ] at hF22)
          obtain ⟨A22, c22, rfl, hc22⟩ := hF22.ownParts (i := 0) rfl
          rw [Nat.zero_add nn, List.nil_append] at hF22
          rw [Nat.zero_add nn] at hc22
          rw [Nat.zero_add nn]
          refine hK.out _ _ ((hF22.blk (i := 2) rfl)) (fun _ => ?_)
          clear hK K
          (try simp only [Act.put, List.setIfInBounds_toArray, List.set_cons_zero, List.set_cons_succ])
          refine wpAnyH_ready (rs := [10, 11]) (by kernel_rfl) (by simp) ?_
          refine AllReadyH.cons (by simp only [List.getElem?_toArray, List.getElem?_cons_zero, List.getElem?_cons_succ]; rfl) (fun K hK => ?_) ?_
          · refine stp (by with_unfolding_all rfl) (wp_fbuild Tryd.underlying27 (z := .agg (List.toArray vl0)) (by kernel_rfl) (pl := vlP) (by kernel_rfl) (cs := vlL k n ⟨t.toArray⟩ (.slice A22 nn c22) (.slice none 0 0)) rfl (vs := [(0, .int .i64 k), (1, .int .i64 n), (2, .string ⟨t.toArray⟩), (3, .slice A22 nn c22)]) (by with_unfolding_all rfl) (by with_unfolding_all rfl) ?_)
            refine hK.out _ _ ((hF22.blk (i := 2) rfl)) (fun _ => ?_)
            clear hK K
            (try simp only [Act.put, List.setIfInBounds_toArray, List.set_cons_zero, List.set_cons_succ])
            refine rdy1 11 (fun K hK => ?_)
            refine stp (by with_unfolding_all rfl) (wp_falloc hF22 (cs := vl0) (z := .agg (List.toArray (vl0))) rfl (by kernel_rfl) (by with_unfolding_all rfl) ?_)
            intro w23 g23 hF23 hz23
            refine hK.out _ _ ((hF23.blk (i := 3) rfl)) (fun _ => ?_)
            clear hK K
            (try simp only [Act.put, List.setIfInBounds_toArray, List.set_cons_zero, List.set_cons_succ])
            refine rdy1 12 (fun K hK => ?_)
            refine stp (by with_unfolding_all rfl) (wp_fstA hF23 (i := 0) rfl (by with_unfolding_all exact ⟨_, _, rfl, rfl, rfl⟩) (by rw [vlL_len]; kernel_rfl) vlL_one vlL_fit ?_)
            intro w24 hF24 hz24
            (try simp only [List.set_cons_zero, List.set_cons_succ] at hF24)
            rw [vlL_spl] at hF24
            refine hK.out _ _ ((hF24.blk (i := 3) rfl)) (fun _ => ?_)
            clear hK K
            (try simp only [Act.put, List.setIfInBounds_toArray, List.set_cons_zero, List.set_cons_succ])
            refine wpAnyH_done (by kernel_rfl) ?_ _
            go_wp2_with fail
            go_meet
            exact ⟨g23, A22, c22, rfl, hc22, hF24.picks [0, 1, 2, 3] rfl (by decide)⟩
          refine AllReadyH.cons (by simp only [List.getElem?_toArray, List.getElem?_cons_zero, List.getElem?_cons_succ]; rfl) (fun K hK => ?_) ?_
          · refine stp (by with_unfolding_all rfl) (wp_falloc hF22 (cs := vl0) (z := .agg (List.toArray (vl0))) rfl (by kernel_rfl) (by with_unfolding_all rfl) ?_)
            intro w23 g23 hF23 hz23
            refine hK.out _ _ ((hF23.blk (i := 3) rfl)) (fun _ => ?_)
            clear hK K
            (try simp only [Act.put, List.setIfInBounds_toArray, List.set_cons_zero, List.set_cons_succ])
            refine rdy1 10 (fun K hK => ?_)
            refine stp (by with_unfolding_all rfl) (wp_fbuild Tryd.underlying27 (z := .agg (List.toArray vl0)) (by kernel_rfl) (pl := vlP) (by kernel_rfl) (cs := vlL k n ⟨t.toArray⟩ (.slice A22 nn c22) (.slice none 0 0)) rfl (vs := [(0, .int .i64 k), (1, .int .i64 n), (2, .string ⟨t.toArray⟩), (3, .slice A22 nn c22)]) (by with_unfolding_all rfl) (by with_unfolding_all rfl) ?_)
            refine hK.out _ _ ((hF23.blk (i := 3) rfl)) (fun _ => ?_)
            clear hK K
            (try simp only [Act.put, List.setIfInBounds_toArray, List.set_cons_zero, List.set_cons_succ])
            refine rdy1 12 (fun K hK => ?_)
            refine stp (by with_unfolding_all rfl) (wp_fstA hF23 (i := 0) rfl (by with_unfolding_all exact ⟨_, _, rfl, rfl, rfl⟩) (by rw [vlL_len]; kernel_rfl) vlL_one vlL_fit ?_)
            intro w24 hF24 hz24
            (try simp only [List.set_cons_zero, List.set_cons_succ] at hF24)
            rw [vlL_spl] at hF24
            refine hK.out _ _ ((hF24.blk (i := 3) rfl)) (fun _ => ?_)
            clear hK K
            (try simp only [Act.put, List.setIfInBounds_toArray, List.set_cons_zero, List.set_cons_succ])
            refine wpAnyH_done (by kernel_rfl) ?_ _
            go_wp2_with fail
            go_meet
            exact ⟨g23, A22, c22, rfl, hc22, hF24.picks [0, 1, 2, 3] rfl (by decide)⟩
          exact AllReadyH.nil
        refine AllReadyH.cons (by simp only [List.getElem?_toArray, List.getElem?_cons_zero, List.getElem?_cons_succ]; rfl) (fun K hK => ?_) ?_
        · refine stp (by with_unfolding_all rfl) (wp_falloc hF21 (cs := vl0) (z := .agg (List.toArray (vl0))) rfl (by kernel_rfl) (by with_unfolding_all rfl) ?_)
          intro w22 g22 hF22 hz22
          refine hK.out _ _ ((hF22.blk (i := 3) rfl)) (fun _ => ?_)
          clear hK K
          (try simp only [Act.put, List.setIfInBounds_toArray, List.set_cons_zero, List.set_cons_succ])
          refine rdy1 9 (fun K hK => ?_)
          refine stp (by with_unfolding_all rfl) (wp_fappG T_strs hF22 (i := 1) rfl (Nat.le_refl _) (hF22.rdOld hrn) (strv_one _) (by with_unfolding_all exact ⟨_, _, rfl, rfl, rfl⟩) (by unfold maxLen; omega) (by omega) ?_)
          intro v23 w23 hF23 hz23
          (try simp only [List.set_cons_zero, List.set_cons_succ] at hF23)
          obtain ⟨A23, c23, rfl, hc23⟩ := hF23.ownParts (i := 1) rfl
          rw [Nat.zero_add nn, List.nil_append] at hF23
          rw [Nat.zero_add nn] at hc23
          rw [Nat.zero_add nn]
          refine hK.out _ _ ((hF23.blk (i := 3) rfl)) (fun _ => ?_)
          clear hK K
          (try simp only [Act.put, List.setIfInBounds_toArray, List.set_cons_zero, List.set_cons_succ])
          refine rdy1 10 (fun K hK => ?_)
          refine stp (by with_unfolding_all rfl) (wp_fbuild Tryd.underlying27 (z := .agg (List.toArray vl0)) (by kernel_rfl) (pl := vlP) (by kernel_rfl) (cs := vlL k n ⟨t.toArray⟩ (.slice A23 nn c23) (.slice none 0 0)) rfl (vs := [(0, .int .i64 k), (1, .int .i64 n), (2, .string ⟨t.toArray⟩), (3, .slice A23 nn c23)]) (by with_unfolding_all rfl) (by with_unfolding_all rfl) ?_)
          refine hK.out _ _ ((hF23.blk (i := 3) rfl)) (fun _ => ?_)
          clear hK K
          (try simp only [Act.put, List.setIfInBounds_toArray, List.set_cons_zero, List.set_cons_succ])
          refine rdy1 12 (fun K hK => ?_)
          refine stp (by with_unfolding_all rfl) (wp_fstA hF23 (i := 0) rfl (by with_unfolding_all exact ⟨_, _, rfl, rfl, rfl⟩) (by rw [vlL_len]; kernel_rfl) vlL_one vlL_fit ?_)
          intro w24 hF24 hz24
          (try simp only [List.set_cons_zero, List.set_cons_succ] at hF24)
          rw [vlL_spl] at hF24
          refine hK.out _ _ ((hF24.blk (i := 3) rfl)) (fun _ => ?_)
          clear hK K
          (try simp only [Act.put, List.setIfInBounds_toArray, List.set_cons_zero, List.set_cons_succ])
          refine wpAnyH_done (by kernel_rfl) ?_ _
          go_wp2_with fail
          go_meet
          exact ⟨g22, A23, c23, rfl, hc23, hF24.picks [0, 1, 2, 3] rfl (by decide)⟩
        exact AllReadyH.nil
      refine AllReadyH.cons (by simp only [List.getElem?_toArray, List.getElem?_cons_zero, List.getElem?_cons_succ]; rfl) (fun K hK => ?_) ?_
      · refine stp (by with_unfolding_all rfl) (wp_falloc hFd (cs := vl0) (z := .agg (List.toArray (vl0))) rfl (by kernel_rfl) (by with_unfolding_all rfl) ?_)
        intro w21 g21 hF21 hz21
        refine hK.out _ _ ((hF21.blk (i := 2) rfl)) (fun _ => ?_)
        clear hK K
        (try simp only [Act.put, List.setIfInBounds_toArray, List.set_cons_zero, List.set_cons_succ])
        refine rdy1 6 (fun K hK => ?_)
        refine stp (by with_unfolding_all rfl) (wp_fbsl T_strs hF21 (vs := []) (by with_unfolding_all rfl) (by with_unfolding_all rfl) (by with_unfolding_all rfl) (by decide) (by simp) ?_)
        intro w22 g22 hF22 hz22
        refine hK.out _ _ ((hF22.blk (i := 3) rfl)) (fun _ => ?_)
        clear hK K
        (try simp only [Act.put, List.setIfInBounds_toArray, List.set_cons_zero, List.set_cons_succ])
        refine rdy1 9 (fun K hK => ?_)
        refine stp (by with_unfolding_all rfl) (wp_fappG T_strs hF22 (i := 0) rfl (Nat.le_refl _) (hF22.rdOld hrn) (strv_one _) (by with_unfolding_all exact ⟨_, _, rfl, rfl, rfl⟩) (by unfold maxLen; omega) (by omega) ?_)
        intro v23 w23 hF23 hz23
        (try simp only [List.set_cons_zero, List.set_cons_succ] at hF23)
        obtain ⟨A23, c23, rfl, hc23⟩ := hF23.ownParts (i := 0) rfl
        rw [Nat.zero_add nn, List.nil_append] at hF23
        rw [Nat.zero_add nn] at hc23
        rw [Nat.zero_add nn]
        refine hK.out _ _ ((hF23.blk (i := 3) rfl)) (fun _ => ?_)
        clear hK K
        (try simp only [Act.put, List.setIfInBounds_toArray, List.set_cons_zero, List.set_cons_succ])
        refine rdy1 10 (fun K hK => ?_)
        refine stp (by with_unfolding_all rfl) (wp_fbuild Tryd.underlying27 (z := .agg (List.toArray vl0)) (by kernel_rfl) (pl := vlP) (by kernel_rfl) (cs := vlL k n ⟨t.toArray⟩ (.slice A23 nn c23) (.slice none 0 0)) rfl (vs := [(0, .int .i64 k), (1, .int .i64 n), (2, .string ⟨t.toArray⟩), (3, .slice A23 nn c23)]) (by with_unfolding_all rfl) (by with_unfolding_all rfl) ?_)
        refine hK.out _ _ ((hF23.blk (i := 3) rfl)) (fun _ => ?_)
        clear hK K
        (try simp only [Act.put, List.setIfInBounds_toArray, List.set_cons_zero, List.set_cons_succ])
        refine rdy1 12 (fun K hK => ?_)
        refine stp (by with_unfolding_all rfl) (wp_fstA hF23 (i := 1) rfl (by with_unfolding_all exact ⟨_, _, rfl, rfl, rfl⟩) (by rw [vlL_len]; kernel_rfl) vlL_one vlL_fit ?_)
        intro w24 hF24 hz24
        (try simp only [List.set_cons_zero, List.set_cons_succ] at hF24)
        rw [vlL_spl] at hF24
        refine hK.out _ _ ((hF24.blk (i := 3) rfl)) (fun _ => ?_)
        clear hK K
        (try simp only [Act.put, List.setIfInBounds_toArray, List.set_cons_zero, List.set_cons_succ])
        refine wpAnyH_done (by kernel_rfl) ?_ _
        go_wp2_with fail
        go_meet
        exact ⟨g21, A23, c23, rfl, hc23, hF24.picks [1, 0, 2, 3] rfl (by decide)⟩
      exact AllReadyH.nil
    case rest =>
      obtain ⟨g5, A0, c0, rfl, hc0, hF3⟩ := hcut
      clear hF2
      have hF4 := (hF3.none_ w.heap.size 27 5).picks [1, 0, 2, 3, 4] (fs := (.blk g5 27 (vlL k n ⟨t.toArray⟩ (.slice A0 nn c0) (.slice none 0 0)) :: .own w.heap.size 27 5 (.slice none 0 0) 0 [] :: .own w.heap.size 9 1 (.slice A0 nn c0) nn (ns.map strv) :: .blk g2 27 vl0 :: .blk g1 33 (vlL k n ⟨t.toArray⟩ (.slice An nn cn) (.slice Ak nk ck)) :: [])) rfl (by decide)
      clear hF3
      go_wp2
      go_loopg [6] nk (fun gk s wr => ∃ (i : Nat) (Ai : Option Addr) (ci' : Nat) (xs : List Value) (TE : List Ent), i ≤ nk ∧ Box (gk = nk - i) ∧ s = .int .i64 (i : Int) ∧ i ≤ ci' ∧ i = 0 ∧ Box (VTL [] xs TE) ∧ Fr [] w wr (.blk g5 27 (vlL k n ⟨t.toArray⟩ (.slice A0 nn c0) (.slice Ai i ci')) :: .own w.heap.size 27 5 (.slice Ai i ci') i xs :: .own w.heap.size 9 1 (.slice A0 nn c0) nn (ns.map strv) :: .blk g2 27 vl0 :: .blk g1 33 (vlL k n ⟨t.toArray⟩ (.slice An nn cn) (.slice Ak nk ck)) :: TE))
      case atStart => exact ⟨0, none, 0, [], [], by omega, box rfl, rfl, by omega, rfl, box VTL.nil, hF4⟩
      case round =>
        clear hF4
        obtain ⟨i, Ai, ci', xs, TE, hi, hk, rfl, hci', h0, hT, hF⟩ := hrel
        have hkf : Box (gk = nk - i) := hk
        clear hk
        subst h0
        by_cases hz0 : 0 < nk
        · go_wp2_with (first | (with_reducible refine lst (by with_unfolding_all rfl) (wp_fld4 hF Tryd.underlying31 rfl (by with_unfolding_all exact ⟨_, rfl, rfl⟩) rfl ?_)) | (with_reducible refine lst (by with_unfolding_all rfl) (wp_fldA0 hF Tryd.underlying27 rfl (by with_unfolding_all exact ⟨_, rfl, rfl⟩) (ds := (vlL k n ⟨t.toArray⟩ (.slice A0 nn c0) (.slice Ai 0 ci'))) (by rw [vlL_len]; kernel_rfl) (take_all _) ?_)) | ((with_reducible refine lst (by with_unfolding_all rfl) (wp_fstA3 hF (by with_unfolding_all exact ⟨_, _, rfl, rfl, rfl⟩) (by rw [vlL_len]; kernel_rfl) vlL_one vlL_fit vlL_spl ?_)); intro w9 hF9 hz9))
          exact bodyPost_ret (results_cellF rfl _ hF9 (i := 3) rfl rfl Tryd.underlying27 rfl (by rw [vlL_len]; kernel_rfl)) rfl (by
            refine ⟨_, _, rfl, VT.mk_ hc0 hci' hT.out, ?_⟩
            have h1 := hF9.toRd (i := 1) rfl
            simp only [List.set_cons_succ, List.set_cons_zero] at h1
            have h2 := h1.toRd (i := 2) rfl
            simp only [List.set_cons_succ, List.set_cons_zero] at h2
            refine (h2.sub (es' := .rd Ai 5 0 xs :: .rd A0 1 nn (ns.map strv) :: TE) ?_).perm (List.Perm.swap _ _ _)
            exact (((((List.Sublist.refl _).cons _).cons _).cons_cons _).cons_cons _).cons _)
        · go_wp2_with (first | (with_reducible refine lst (by with_unfolding_all rfl) (wp_fld4 hF Tryd.underlying31 rfl (by with_unfolding_all exact ⟨_, rfl, rfl⟩) rfl ?_)) | (with_reducible refine lst (by with_unfolding_all rfl) (wp_fldA0 hF Tryd.underlying27 rfl (by with_unfolding_all exact ⟨_, rfl, rfl⟩) (ds := (vlL k n ⟨t.toArray⟩ (.slice A0 nn c0) (.slice Ai 0 ci'))) (by rw [vlL_len]; kernel_rfl) (take_all _) ?_)) | ((with_reducible refine lst (by with_unfolding_all rfl) (wp_fstA3 hF (by with_unfolding_all exact ⟨_, _, rfl, rfl, rfl⟩) (by rw [vlL_len]; kernel_rfl) vlL_one vlL_fit vlL_spl ?_)); intro w9 hF9 hz9))
          exact bodyPost_ret (results_cellF rfl _ hF9 (i := 3) rfl rfl Tryd.underlying27 rfl (by rw [vlL_len]; kernel_rfl)) rfl (by
            refine ⟨_, _, rfl, VT.mk_ hc0 hci' hT.out, ?_⟩
            have h1 := hF9.toRd (i := 1) rfl
            simp only [List.set_cons_succ, List.set_cons_zero] at h1
            have h2 := h1.toRd (i := 2) rfl
            simp only [List.set_cons_succ, List.set_cons_zero] at h2
            refine (h2.sub (es' := .rd Ai 5 0 xs :: .rd A0 1 nn (ns.map strv) :: TE) ?_).perm (List.Perm.swap _ _ _)
            exact (((((List.Sublist.refl _).cons _).cons _).cons_cons _).cons_cons _).cons _)
  | succ d ih =>
    intro v cs w hd hv hsm
    obtain ⟨k, n, t, ns, ks⟩ := v
    rw [VRd] at hv
    obtain ⟨An, nn, cn, Ak, nk, ck, xk, hcn, hck, rfl, hrn, hrk, hvk⟩ := hv
    rw [JSm] at hsm
    obtain ⟨hs1, hs2, hs3⟩ := hsm
    have hnn : ns.length = nn := by have := hrn.len; simpa using this
    have hnk : ks.length = nk := by have := hrk.len; rw [hvk.len] at this; omega
    rw [hnn] at hs1
    rw [hnk] at hs2
    replace hnn := box hnn
    replace hnk := box hnk
    replace hvk := box hvk
    have hF0 := Fr.nil w
    obtain ⟨cs, hcs⟩ : ∃ cs, cs = (vlL k n ⟨t.toArray⟩ (.slice An nn cn) (.slice Ak nk ck)) := ⟨_, rfl⟩
    replace hcs := box hcs
    go_enter Tryd.func18, Tryd.ntmps18
    go_upto_region 1 with (first | ((with_reducible refine lst (by with_unfolding_all rfl) (wp_fbox hF0 (cs := (vlL k n ⟨t.toArray⟩ (.slice An nn cn) (.slice Ak nk ck))) rfl (by with_unfolding_all rfl) (by with_unfolding_all rfl) ?_)); intro w1 g1 hF1 hz1) | ((with_reducible refine lst (by with_unfolding_all rfl) (wp_falloc hF1 (cs := vl0) (z := .agg (List.toArray (vl0))) rfl (by kernel_rfl) (by with_unfolding_all rfl) ?_)); intro w2 g2 hF2 hz2))
    simp only [Act.put, List.setIfInBounds_toArray, List.set_cons_zero, List.set_cons_succ]
    clear hF0 hF1
    go_cut [5] (fun s5 wx => ∃ (g5 : Nat) (A0 : Option Addr) (c0 : Nat), s5 = .pointer (some ⟨g5, 0, none⟩) ∧ nn ≤ c0 ∧ Fr [] w wx [.blk g5 27 (vlL k n ⟨t.toArray⟩ (.slice A0 nn c0) (.slice none 0 0)), .own w.heap.size 9 1 (.slice A0 nn c0) nn (ns.map strv), .blk g2 27 vl0, .blk g1 33 (vlL k n ⟨t.toArray⟩ (.slice An nn cn) (.slice Ak nk ck))])
    case first =>
      have hFd := hF2.drew
      refine wp_region_held (S := fun w' => w'.heap[g1]? = some (.cells (List.toArray (vlL k n ⟨t.toArray⟩ (.slice An nn cn) (.slice Ak nk ck))) 33 (0, 0))) (by kernel_rfl) ?_
      change wpAnyH _ _ _ _ _ _ _ _ (World.drew _)
      refine tkp 0 (hFd.blk (i := 1) rfl) ?_
      (try simp only [Act.put, List.setIfInBounds_toArray, List.set_cons_zero, List.set_cons_succ])
      refine tky 1 (y := yi_fld (by with_unfolding_all rfl) (fun _ h => h) Tryd.underlying3 rfl (by with_unfolding_all exact ⟨_, rfl, rfl⟩) rfl) (s := (hFd.blk (i := 1) rfl)) (h := ?_)
      (try simp only [Act.put, List.setIfInBounds_toArray, List.set_cons_zero, List.set_cons_succ])
      refine tkp 2 (hFd.blk (i := 1) rfl) ?_
      (try simp only [Act.put, List.setIfInBounds_toArray, List.set_cons_zero, List.set_cons_succ])
      refine tky 3 (y := yi_fld (by with_unfolding_all rfl) (fun _ h => h) Tryd.underlying3 rfl (by with_unfolding_all exact ⟨_, rfl, rfl⟩) rfl) (s := (hFd.blk (i := 1) rfl)) (h := ?_)
      (try simp only [Act.put, List.setIfInBounds_toArray, List.set_cons_zero, List.set_cons_succ])
      refine tkp 4 (hFd.blk (i := 1) rfl) ?_
      (try simp only [Act.put, List.setIfInBounds_toArray, List.set_cons_zero, List.set_cons_succ])
      refine tky 5 (y := yi_fld (by with_unfolding_all rfl) (fun _ h => h) Tryd.underlying9 rfl (by with_unfolding_all exact ⟨_, rfl, rfl⟩) rfl) (s := (hFd.blk (i := 1) rfl)) (h := ?_)
      (try simp only [Act.put, List.setIfInBounds_toArray, List.set_cons_zero, List.set_cons_succ])
      refine tkp 7 (hFd.blk (i := 1) rfl) ?_
      (try simp only [Act.put, List.setIfInBounds_toArray, List.set_cons_zero, List.set_cons_succ])
      refine tky 8 (y := yi_fld (by with_unfolding_all rfl) (fun _ h => h) Tryd.underlying24 rfl (by with_unfolding_all exact ⟨_, rfl, rfl⟩) rfl) (s := (hFd.blk (i := 1) rfl)) (h := ?_)
      (try simp only [Act.put, List.setIfInBounds_toArray, List.set_cons_zero, List.set_cons_succ])
      refine wpAnyH_ready (rs := [6, 11]) (by kernel_rfl) (by simp) ?_
      refine AllReadyH.cons (by simp only [List.getElem?_toArray, List.getElem?_cons_zero, List.getElem?_cons_succ]; rfl) (fun K hK => ?_) ?_
      · refine stp (by with_unfolding_all rfl) (wp_fbsl T_strs hFd (vs := []) (by with_unfolding_all rfl) (by with_unfolding_all rfl) (by with_unfolding_all rfl) (by decide) (by simp) ?_)
        intro w21 g21 hF21 hz21
        refine hK.out _ _ ((hF21.blk (i := 2) rfl)) (fun _ => ?_)
        clear hK K
        (try simp only [Act.put, List.setIfInBounds_toArray, List.set_cons_zero, List.set_cons_succ])
        refine wpAnyH_ready (rs := [9, 11]) (by kernel_rfl) (by simp) ?_
        refine AllReadyH.cons (by simp only [List.getElem?_toArray, List.getElem?_cons_zero, List.getElem?_cons_succ]; rfl) (fun K hK => ?_) ?_
        · refine stp (by with_unfolding_all rfl) (wp_fappG T_strs hF21 (i := 0) rfl (Nat.le_refl _) (hF21.rdOld hrn) (strv_one _) (by with_unfolding_all exact ⟨_, _, rfl, rfl, rfl⟩) (by unfold maxLen; omega) (by omega) ?_)
          intro v22 w22 hF22 hz22
          (try simp only [List.set_cons_zero, List.set_cons_succ] at hF22)
          obtain ⟨A22, c22, rfl, hc22⟩ := hF22.ownParts (i := 0) rfl
          rw [Nat.zero_add nn, List.nil_append] at hF22
          rw [Nat.zero_add nn] at hc22
          rw [Nat.zero_add nn]
          refine hK.out _ _ ((hF22.blk (i := 2) rfl)) (fun _ => ?_)
          clear hK K
          (try simp only [Act.put, List.setIfInBounds_toArray, List.set_cons_zero, List.set_cons_succ])
          refine wpAnyH_ready (rs := [10, 11]) (by kernel_rfl) (by simp) ?_
          refine AllReadyH.cons (by simp only [List.getElem?_toArray, List.getElem?_cons_zero, List.getElem?_cons_succ]; rfl) (fun K hK => ?_) ?_
          · refine stp (by with_unfolding_all rfl) (wp_fbuild Tryd.underlying27 (z := .agg (List.toArray vl0)) (by kernel_rfl) (pl := vlP) (by kernel_rfl) (cs := vlL k n ⟨t.toArray⟩ (.slice A22 nn c22) (.slice none 0 0)) rfl (vs := [(0, .int .i64 k), (1, .int .i64 n), (2, .string ⟨t.toArray⟩), (3, .slice A22 nn c22)]) (by with_unfolding_all rfl) (by with_unfolding_all rfl) ?_)
            refine hK.out _ _ ((hF22.blk (i := 2) rfl)) (fun _ => ?_)
            clear hK K
            (try simp only [Act.put, List.setIfInBounds_toArray, List.set_cons_zero, List.set_cons_succ])
            refine rdy1 11 (fun K hK => ?_)
            refine stp (by with_unfolding_all rfl) (wp_falloc hF22 (cs := vl0) (z := .agg (List.toArray (vl0))) rfl (by kernel_rfl) (by with_unfolding_all rfl) ?_)
            intro w23 g23 hF23 hz23
            refine hK.out _ _ ((hF23.blk (i := 3) rfl)) (fun _ => ?_)
            clear hK K
            (try simp only [Act.put, List.setIfInBounds_toArray, List.set_cons_zero, List.set_cons_succ])
            refine rdy1 12 (fun K hK => ?_)
            refine stp (by with_unfolding_all rfl) (wp_fstA hF23 (i := 0) rfl (by with_unfolding_all exact ⟨_, _, rfl, rfl, rfl⟩) (by rw [vlL_len]; kernel_rfl) vlL_one vlL_fit ?_)
            intro w24 hF24 hz24
            (try simp only [List.set_cons_zero, List.set_cons_succ] at hF24)
            rw [vlL_spl] at hF24
            refine hK.out _ _ ((hF24.blk (i := 3) rfl)) (fun _ => ?_)
            clear hK K
            (try simp only [Act.put, List.setIfInBounds_toArray, List.set_cons_zero, List.set_cons_succ])
            refine wpAnyH_done (by kernel_rfl) ?_ _
            go_wp2_with fail
            go_meet
            exact ⟨g23, A22, c22, rfl, hc22, hF24.picks [0, 1, 2, 3] rfl (by decide)⟩
          refine AllReadyH.cons (by simp only [List.getElem?_toArray, List.getElem?_cons_zero, List.getElem?_cons_succ]; rfl) (fun K hK => ?_) ?_
          · refine stp (by with_unfolding_all rfl) (wp_falloc hF22 (cs := vl0) (z := .agg (List.toArray (vl0))) rfl (by kernel_rfl) (by with_unfolding_all rfl) ?_)
            intro w23 g23 hF23 hz23
            refine hK.out _ _ ((hF23.blk (i := 3) rfl)) (fun _ => ?_)
            clear hK K
            (try simp only [Act.put, List.setIfInBounds_toArray, List.set_cons_zero, List.set_cons_succ])
            refine rdy1 10 (fun K hK => ?_)
            refine stp (by with_unfolding_all rfl) (wp_fbuild Tryd.underlying27 (z := .agg (List.toArray vl0)) (by kernel_rfl) (pl := vlP) (by kernel_rfl) (cs := vlL k n ⟨t.toArray⟩ (.slice A22 nn c22) (.slice none 0 0)) rfl (vs := [(0, .int .i64 k), (1, .int .i64 n), (2, .string ⟨t.toArray⟩), (3, .slice A22 nn c22)]) (by with_unfolding_all rfl) (by with_unfolding_all rfl) ?_)
            refine hK.out _ _ ((hF23.blk (i := 3) rfl)) (fun _ => ?_)
            clear hK K
            (try simp only [Act.put, List.setIfInBounds_toArray, List.set_cons_zero, List.set_cons_succ])
            refine rdy1 12 (fun K hK => ?_)
            refine stp (by with_unfolding_all rfl) (wp_fstA hF23 (i := 0) rfl (by with_unfolding_all exact ⟨_, _, rfl, rfl, rfl⟩) (by rw [vlL_len]; kernel_rfl) vlL_one vlL_fit ?_)
            intro w24 hF24 hz24
            (try simp only [List.set_cons_zero, List.set_cons_succ] at hF24)
            rw [vlL_spl] at hF24
            refine hK.out _ _ ((hF24.blk (i := 3) rfl)) (fun _ => ?_)
            clear hK K
            (try simp only [Act.put, List.setIfInBounds_toArray, List.set_cons_zero, List.set_cons_succ])
            refine wpAnyH_done (by kernel_rfl) ?_ _
            go_wp2_with fail
            go_meet
            exact ⟨g23, A22, c22, rfl, hc22, hF24.picks [0, 1, 2, 3] rfl (by decide)⟩
          exact AllReadyH.nil
        refine AllReadyH.cons (by simp only [List.getElem?_toArray, List.getElem?_cons_zero, List.getElem?_cons_succ]; rfl) (fun K hK => ?_) ?_
        · refine stp (by with_unfolding_all rfl) (wp_falloc hF21 (cs := vl0) (z := .agg (List.toArray (vl0))) rfl (by kernel_rfl) (by with_unfolding_all rfl) ?_)
          intro w22 g22 hF22 hz22
          refine hK.out _ _ ((hF22.blk (i := 3) rfl)) (fun _ => ?_)
          clear hK K
          (try simp only [Act.put, List.setIfInBounds_toArray, List.set_cons_zero, List.set_cons_succ])
          refine rdy1 9 (fun K hK => ?_)
          refine stp (by with_unfolding_all rfl) (wp_fappG T_strs hF22 (i := 1) rfl (Nat.le_refl _) (hF22.rdOld hrn) (strv_one _) (by with_unfolding_all exact ⟨_, _, rfl, rfl, rfl⟩) (by unfold maxLen; omega) (by omega) ?_)
          intro v23 w23 hF23 hz23
          (try simp only [List.set_cons_zero, List.set_cons_succ] at hF23)
          obtain ⟨A23, c23, rfl, hc23⟩ := hF23.ownParts (i := 1) rfl
          rw [Nat.zero_add nn, List.nil_append] at hF23
          rw [Nat.zero_add nn] at hc23
          rw [Nat.zero_add nn]
          refine hK.out _ _ ((hF23.blk (i := 3) rfl)) (fun _ => ?_)
          clear hK K
          (try simp only [Act.put, List.setIfInBounds_toArray, List.set_cons_zero, List.set_cons_succ])
          refine rdy1 10 (fun K hK => ?_)
          refine stp (by with_unfolding_all rfl) (wp_fbuild Tryd.underlying27 (z := .agg (List.toArray vl0)) (by kernel_rfl) (pl := vlP) (by kernel_rfl) (cs := vlL k n ⟨t.toArray⟩ (.slice A23 nn c23) (.slice none 0 0)) rfl (vs := [(0, .int .i64 k), (1, .int .i64 n), (2, .string ⟨t.toArray⟩), (3, .slice A23 nn c23)]) (by with_unfolding_all rfl) (by with_unfolding_all rfl) ?_)
          refine hK.out _ _ ((hF23.blk (i := 3) rfl)) (fun _ => ?_)
          clear hK K
          (try simp only [Act.put, List.setIfInBounds_toArray, List.set_cons_zero, List.set_cons_succ])
          refine rdy1 12 (fun K hK => ?_)
          refine stp (by with_unfolding_all rfl) (wp_fstA hF23 (i := 0) rfl (by with_unfolding_all exact ⟨_, _, rfl, rfl, rfl⟩) (by rw [vlL_len]; kernel_rfl) vlL_one vlL_fit ?_)
          intro w24 hF24 hz24
          (try simp only [List.set_cons_zero, List.set_cons_succ] at hF24)
          rw [vlL_spl] at hF24
          refine hK.out _ _ ((hF24.blk (i := 3) rfl)) (fun _ => ?_)
          clear hK K
          (try simp only [Act.put, List.setIfInBounds_toArray, List.set_cons_zero, List.set_cons_succ])
          refine wpAnyH_done (by kernel_rfl) ?_ _
          go_wp2_with fail
          go_meet
          exact ⟨g22, A23, c23, rfl, hc23, hF24.picks [0, 1, 2, 3] rfl (by decide)⟩
        exact AllReadyH.nil
      refine AllReadyH.cons (by simp only [List.getElem?_toArray, List.getElem?_cons_zero, List.getElem?_cons_succ]; rfl) (fun K hK => ?_) ?_
      · refine stp (by with_unfolding_all rfl) (wp_falloc hFd (cs := vl0) (z := .agg (List.toArray (vl0))) rfl (by kernel_rfl) (by with_unfolding_all rfl) ?_)
        intro w21 g21 hF21 hz21
        refine hK.out _ _ ((hF21.blk (i := 2) rfl)) (fun _ => ?_)
        clear hK K
        (try simp only [Act.put, List.setIfInBounds_toArray, List.set_cons_zero, List.set_cons_succ])
        refine rdy1 6 (fun K hK => ?_)
        refine stp (by with_unfolding_all rfl) (wp_fbsl T_strs hF21 (vs := []) (by with_unfolding_all rfl) (by with_unfolding_all rfl) (by with_unfolding_all rfl) (by decide) (by simp) ?_)
        intro w22 g22 hF22 hz22
        refine hK.out _ _ ((hF22.blk (i := 3) rfl)) (fun _ => ?_)
        clear hK K
        (try simp only [Act.put, List.setIfInBounds_toArray, List.set_cons_zero, List.set_cons_succ])
        refine rdy1 9 (fun K hK => ?_)
        refine stp (by with_unfolding_all rfl) (wp_fappG T_strs hF22 (i := 0) rfl (Nat.le_refl _) (hF22.rdOld hrn) (strv_one _) (by with_unfolding_all exact ⟨_, _, rfl, rfl, rfl⟩) (by unfold maxLen; omega) (by omega) ?_)
        intro v23 w23 hF23 hz23
        (try simp only [List.set_cons_zero, List.set_cons_succ] at hF23)
        obtain ⟨A23, c23, rfl, hc23⟩ := hF23.ownParts (i := 0) rfl
        rw [Nat.zero_add nn, List.nil_append] at hF23
        rw [Nat.zero_add nn] at hc23
        rw [Nat.zero_add nn]
        refine hK.out _ _ ((hF23.blk (i := 3) rfl)) (fun _ => ?_)
        clear hK K
        (try simp only [Act.put, List.setIfInBounds_toArray, List.set_cons_zero, List.set_cons_succ])
        refine rdy1 10 (fun K hK => ?_)
        refine stp (by with_unfolding_all rfl) (wp_fbuild Tryd.underlying27 (z := .agg (List.toArray vl0)) (by kernel_rfl) (pl := vlP) (by kernel_rfl) (cs := vlL k n ⟨t.toArray⟩ (.slice A23 nn c23) (.slice none 0 0)) rfl (vs := [(0, .int .i64 k), (1, .int .i64 n), (2, .string ⟨t.toArray⟩), (3, .slice A23 nn c23)]) (by with_unfolding_all rfl) (by with_unfolding_all rfl) ?_)
        refine hK.out _ _ ((hF23.blk (i := 3) rfl)) (fun _ => ?_)
        clear hK K
        (try simp only [Act.put, List.setIfInBounds_toArray, List.set_cons_zero, List.set_cons_succ])
        refine rdy1 12 (fun K hK => ?_)
        refine stp (by with_unfolding_all rfl) (wp_fstA hF23 (i := 1) rfl (by with_unfolding_all exact ⟨_, _, rfl, rfl, rfl⟩) (by rw [vlL_len]; kernel_rfl) vlL_one vlL_fit ?_)
        intro w24 hF24 hz24
        (try simp only [List.set_cons_zero, List.set_cons_succ] at hF24)
        rw [vlL_spl] at hF24
        refine hK.out _ _ ((hF24.blk (i := 3) rfl)) (fun _ => ?_)
        clear hK K
        (try simp only [Act.put, List.setIfInBounds_toArray, List.set_cons_zero, List.set_cons_succ])
        refine wpAnyH_done (by kernel_rfl) ?_ _
        go_wp2_with fail
        go_meet
        exact ⟨g21, A23, c23, rfl, hc23, hF24.picks [1, 0, 2, 3] rfl (by decide)⟩
      exact AllReadyH.nil
    case rest =>
      obtain ⟨g5, A0, c0, rfl, hc0, hF3⟩ := hcut
      clear hF2
      have hF4 := (hF3.none_ w.heap.size 27 5).picks [1, 0, 2, 3, 4] (fs := (.blk g5 27 (vlL k n ⟨t.toArray⟩ (.slice A0 nn c0) (.slice none 0 0)) :: .own w.heap.size 27 5 (.slice none 0 0) 0 [] :: .own w.heap.size 9 1 (.slice A0 nn c0) nn (ns.map strv) :: .blk g2 27 vl0 :: .blk g1 33 (vlL k n ⟨t.toArray⟩ (.slice An nn cn) (.slice Ak nk ck)) :: [])) rfl (by decide)
      clear hF3
      go_wp2
      go_loopg [6] nk (fun gk s wr => ∃ (i : Nat) (Ai : Option Addr) (ci' : Nat) (xs : List Value) (TE : List Ent), i ≤ nk ∧ Box (gk = nk - i) ∧ s = .int .i64 (i : Int) ∧ i ≤ ci' ∧ True ∧ Box (VTL ((ks.take i).map (jCut d)) xs TE) ∧ Fr [] w wr (.blk g5 27 (vlL k n ⟨t.toArray⟩ (.slice A0 nn c0) (.slice Ai i ci')) :: .own w.heap.size 27 5 (.slice Ai i ci') i xs :: .own w.heap.size 9 1 (.slice A0 nn c0) nn (ns.map strv) :: .blk g2 27 vl0 :: .blk g1 33 (vlL k n ⟨t.toArray⟩ (.slice An nn cn) (.slice Ak nk ck)) :: TE))
      case atStart => exact ⟨0, none, 0, [], [], by omega, box rfl, rfl, by omega, trivial, box VTL.nil, hF4⟩
      case round =>
        clear hF4
        obtain ⟨i, Ai, ci', xs, TE, hi, hk, rfl, hci', h0, hT, hF⟩ := hrel
        have hkf : Box (gk = nk - i) := hk
        clear hk
        by_cases hlt : i < nk
        · obtain ⟨vi, hvi⟩ : ∃ vi, ks[i]? = some vi := ⟨ks[i]'(by rw [hnk.out]; exact hlt), by simp⟩
          obtain ⟨ci, hci, hvri⟩ := hvk.out.at hvi
          have hcil := box hvri.len
          replace hci := box hci
          have hsi := hs3.at hvi
          have ihc := box (fun w' (hb : Below w.heap.size w w') => ih vi ci w' (by omega) (hvri.on hb) hsi)
          have hT2 : Box (∀ c e, VT (jCut d vi) c e → VTL ((ks.take (i + 1)).map (jCut d)) (xs ++ c) (TE ++ e)) := box (fun c e h => by
            rw [List.take_add_one, hvi, List.map_append]
            exact hT.out.snoc h)
          have hwp := wrap64_pred (d := d) (by omega)
          replace hvi := box hvi
          replace hvri := box hvri
          replace hsi := box hsi
          replace hs3 := box hs3
          go_upto_region 5 with (first | (with_reducible refine lst (by with_unfolding_all rfl) (wp_fld4 hF Tryd.underlying31 rfl (by with_unfolding_all exact ⟨_, rfl, rfl⟩) rfl ?_)))
          have hFd := hF.drew
          refine wp_region_held (S := fun w' => w'.heap[g1]? = some (.cells (List.toArray (vlL k n ⟨t.toArray⟩ (.slice An nn cn) (.slice Ak nk ck))) 33 (0, 0)) ∧ Rd w' (· < w.heap.size) Ak 5 nk xk) (by kernel_rfl) ?_
          change wpAnyH _ _ _ _ _ _ _ _ (World.drew _)
          refine tkp 0 ⟨hFd.blk (i := 4) rfl, hrk.below hFd.below⟩ ?_
          (try simp only [Act.put, List.setIfInBounds_toArray, List.set_cons_zero, List.set_cons_succ])
          refine tkp 2 ⟨hFd.blk (i := 4) rfl, hrk.below hFd.below⟩ ?_
          (try simp only [Act.put, List.setIfInBounds_toArray, List.set_cons_zero, List.set_cons_succ])
          refine tky 3 (y := yi_fld (by with_unfolding_all rfl) (fun _ h => h.1) Tryd.underlying31 rfl (by with_unfolding_all exact ⟨_, rfl, rfl⟩) rfl) (s := ⟨hFd.blk (i := 4) rfl, hrk.below hFd.below⟩) (h := ?_)
          (try simp only [Act.put, List.setIfInBounds_toArray, List.set_cons_zero, List.set_cons_succ])
          refine tkp 4 ⟨hFd.blk (i := 4) rfl, hrk.below hFd.below⟩ ?_
          (try simp only [Act.put, List.setIfInBounds_toArray, List.set_cons_zero, List.set_cons_succ])
          refine tky 5 (y := yi_ix (by with_unfolding_all rfl) T_rvals (fun h => hrk.some_ h) (k := i) (by with_unfolding_all exact ⟨_, _, _, _, rfl, rfl, rfl⟩) rfl (by omega)) (s := ⟨hFd.blk (i := 4) rfl, hrk.below hFd.below⟩) (h := ?_)
          (try simp only [Act.put, List.setIfInBounds_toArray, List.set_cons_zero, List.set_cons_succ])
          refine tky 6 (y := yi_ldA (by with_unfolding_all rfl) (fun _ h => h.2) Tryd.underlying33 rfl (by with_unfolding_all exact ⟨_, rfl, rfl⟩) (ds := ci) (by rw [hcil.out]; kernel_rfl) (by rw [hcil.out]; exact hci.out)) (s := ⟨hFd.blk (i := 4) rfl, hrk.below hFd.below⟩) (h := ?_)
          (try simp only [Act.put, List.setIfInBounds_toArray, List.set_cons_zero, List.set_cons_succ])
          refine tkp 7 ⟨hFd.blk (i := 4) rfl, hrk.below hFd.below⟩ ?_
          (try simp only [Act.put, List.setIfInBounds_toArray, List.set_cons_zero, List.set_cons_succ])
          refine tkp 8 ⟨hFd.blk (i := 4) rfl, hrk.below hFd.below⟩ ?_
          (try simp only [Act.put, List.setIfInBounds_toArray, List.set_cons_zero, List.set_cons_succ])
          refine wpAnyH_ready (rs := [1, 9]) (by kernel_rfl) (by simp) ?_
          refine AllReadyH.cons (by simp only [List.getElem?_toArray, List.getElem?_cons_zero, List.getElem?_cons_succ]; rfl) (fun K hK => ?_) ?_
          · refine stp (by with_unfolding_all rfl) (wp_fld hFd (i := 0) rfl Tryd.underlying25 rfl (by with_unfolding_all exact ⟨_, rfl, rfl⟩) rfl ?_)
            refine hK.out _ _ (⟨hFd.blk (i := 4) rfl, hrk.below hFd.below⟩) (fun _ => ?_)
            clear hK K
            (try simp only [Act.put, List.setIfInBounds_toArray, List.set_cons_zero, List.set_cons_succ])
            refine rdy1 9 (fun K hK => ?_)
            refine stp (by with_unfolding_all rfl) (wp_call Tryd.func18 rfl (by with_unfolding_all rfl) (by with_unfolding_all rfl) (by with_unfolding_all rfl) (ihc.out _ hFd.below) ?_)
            rintro e w31 ⟨cs31, es31, rfl, hvt31, hv31⟩
            refine ⟨_, rfl, ?_⟩
            have hF31 := hFd.joinR hv31
            simp only [List.cons_append] at hF31
            refine hK.out _ _ (⟨hF31.blk (i := 4) rfl, hrk.below hF31.below⟩) (fun _ => ?_)
            clear hK K
            (try simp only [Act.put, List.setIfInBounds_toArray, List.set_cons_zero, List.set_cons_succ])
            refine rdy1 10 (fun K hK => ?_)
            refine stp (by with_unfolding_all rfl) (wp_fbs1 T_vals hF31 (by with_unfolding_all rfl) (ds := cs31) (by with_unfolding_all rfl) hvt31.len (by decide) ?_)
            intro w32 g32 hF32 hz32
            refine hK.out _ _ (⟨hF32.blk (i := 5) rfl, hrk.below hF32.below⟩) (fun _ => ?_)
            clear hK K
            (try simp only [Act.put, List.setIfInBounds_toArray, List.set_cons_zero, List.set_cons_succ])
            refine rdy1 11 (fun K hK => ?_)
            refine stp (by with_unfolding_all rfl) (wp_fappG T_vals hF32 (i := 2) rfl (Nat.le_refl _) (hF32.rdOwn (i := 0) rfl) hvt31.one (by with_unfolding_all exact ⟨_, _, rfl, rfl, rfl⟩) (by unfold maxLen; omega) (by omega) ?_)
            intro v33 w33 hF33 hz33
            (try simp only [List.set_cons_zero, List.set_cons_succ] at hF33)
            obtain ⟨A33, c33, rfl, hc33⟩ := hF33.ownParts (i := 2) rfl
            refine hK.out _ _ (⟨hF33.blk (i := 5) rfl, hrk.below hF33.below⟩) (fun _ => ?_)
            clear hK K
            (try simp only [Act.put, List.setIfInBounds_toArray, List.set_cons_zero, List.set_cons_succ])
            refine tkp 12 ⟨hF33.blk (i := 5) rfl, hrk.below hF33.below⟩ ?_
            (try simp only [Act.put, List.setIfInBounds_toArray, List.set_cons_zero, List.set_cons_succ])
            refine rdy1 13 (fun K hK => ?_)
            refine stp (by with_unfolding_all rfl) (wp_fst hF33 (i := 1) rfl (v := .slice A33 (i + 1) c33) (by with_unfolding_all exact ⟨_, _, rfl, rfl, rfl⟩) (by kernel_rfl) rfl rfl (by rw [vlL_len]; decide) ?_)
            intro w34 hF34 hz34
            (try simp only [List.set_cons_zero, List.set_cons_succ] at hF34)
            rw [(vlL_4 (k := k) (n := n) (t := ⟨t.toArray⟩) (a := .slice A0 nn c0) (b := .slice Ai i ci'))] at hF34
            refine hK.out _ _ (⟨hF34.blk (i := 5) rfl, hrk.below hF34.below⟩) (fun _ => ?_)
            clear hK K
            (try simp only [Act.put, List.setIfInBounds_toArray, List.set_cons_zero, List.set_cons_succ])
            refine wpAnyH_done (by kernel_rfl) ?_ _
            go_wp2_with fail
            go_roundg (nk - (i + 1))
            case rel => exact ⟨i + 1, A33, c33, _, _, by omega, box rfl, by go_num, hc33, trivial, box (hT2.out _ _ hvt31), hF34.tail⟩
            case measure => have := hkf.out; omega
          refine AllReadyH.cons (by simp only [List.getElem?_toArray, List.getElem?_cons_zero, List.getElem?_cons_succ]; rfl) (fun K hK => ?_) ?_
          · refine stp (by with_unfolding_all rfl) (wp_call Tryd.func18 rfl (by with_unfolding_all rfl) (by with_unfolding_all rfl) (by with_unfolding_all rfl) (ihc.out _ hFd.below) ?_)
            rintro e w31 ⟨cs31, es31, rfl, hvt31, hv31⟩
            refine ⟨_, rfl, ?_⟩
            have hF31 := hFd.joinR hv31
            simp only [List.cons_append] at hF31
            refine hK.out _ _ (⟨hF31.blk (i := 4) rfl, hrk.below hF31.below⟩) (fun _ => ?_)
            clear hK K
            (try simp only [Act.put, List.setIfInBounds_toArray, List.set_cons_zero, List.set_cons_succ])
            refine wpAnyH_ready (rs := [1, 10]) (by kernel_rfl) (by simp) ?_
            refine AllReadyH.cons (by simp only [List.getElem?_toArray, List.getElem?_cons_zero, List.getElem?_cons_succ]; rfl) (fun K hK => ?_) ?_
            · refine stp (by with_unfolding_all rfl) (wp_fld hF31 (i := 0) rfl Tryd.underlying25 rfl (by with_unfolding_all exact ⟨_, rfl, rfl⟩) rfl ?_)
              refine hK.out _ _ (⟨hF31.blk (i := 4) rfl, hrk.below hF31.below⟩) (fun _ => ?_)
              clear hK K
              (try simp only [Act.put, List.setIfInBounds_toArray, List.set_cons_zero, List.set_cons_succ])
              refine rdy1 10 (fun K hK => ?_)
              refine stp (by with_unfolding_all rfl) (wp_fbs1 T_vals hF31 (by with_unfolding_all rfl) (ds := cs31) (by with_unfolding_all rfl) hvt31.len (by decide) ?_)
              intro w32 g32 hF32 hz32
              refine hK.out _ _ (⟨hF32.blk (i := 5) rfl, hrk.below hF32.below⟩) (fun _ => ?_)
              clear hK K
              (try simp only [Act.put, List.setIfInBounds_toArray, List.set_cons_zero, List.set_cons_succ])
              refine rdy1 11 (fun K hK => ?_)
              refine stp (by with_unfolding_all rfl) (wp_fappG T_vals hF32 (i := 2) rfl (Nat.le_refl _) (hF32.rdOwn (i := 0) rfl) hvt31.one (by with_unfolding_all exact ⟨_, _, rfl, rfl, rfl⟩) (by unfold maxLen; omega) (by omega) ?_)
              intro v33 w33 hF33 hz33
              (try simp only [List.set_cons_zero, List.set_cons_succ] at hF33)
              obtain ⟨A33, c33, rfl, hc33⟩ := hF33.ownParts (i := 2) rfl
              refine hK.out _ _ (⟨hF33.blk (i := 5) rfl, hrk.below hF33.below⟩) (fun _ => ?_)
              clear hK K
              (try simp only [Act.put, List.setIfInBounds_toArray, List.set_cons_zero, List.set_cons_succ])
              refine tkp 12 ⟨hF33.blk (i := 5) rfl, hrk.below hF33.below⟩ ?_
              (try simp only [Act.put, List.setIfInBounds_toArray, List.set_cons_zero, List.set_cons_succ])
              refine rdy1 13 (fun K hK => ?_)
              refine stp (by with_unfolding_all rfl) (wp_fst hF33 (i := 1) rfl (v := .slice A33 (i + 1) c33) (by with_unfolding_all exact ⟨_, _, rfl, rfl, rfl⟩) (by kernel_rfl) rfl rfl (by rw [vlL_len]; decide) ?_)
              intro w34 hF34 hz34
              (try simp only [List.set_cons_zero, List.set_cons_succ] at hF34)
              rw [(vlL_4 (k := k) (n := n) (t := ⟨t.toArray⟩) (a := .slice A0 nn c0) (b := .slice Ai i ci'))] at hF34
              refine hK.out _ _ (⟨hF34.blk (i := 5) rfl, hrk.below hF34.below⟩) (fun _ => ?_)
              clear hK K
              (try simp only [Act.put, List.setIfInBounds_toArray, List.set_cons_zero, List.set_cons_succ])
              refine wpAnyH_done (by kernel_rfl) ?_ _
              go_wp2_with fail
              go_roundg (nk - (i + 1))
              case rel => exact ⟨i + 1, A33, c33, _, _, by omega, box rfl, by go_num, hc33, trivial, box (hT2.out _ _ hvt31), hF34.tail⟩
              case measure => have := hkf.out; omega
            refine AllReadyH.cons (by simp only [List.getElem?_toArray, List.getElem?_cons_zero, List.getElem?_cons_succ]; rfl) (fun K hK => ?_) ?_
            · refine stp (by with_unfolding_all rfl) (wp_fbs1 T_vals hF31 (by with_unfolding_all rfl) (ds := cs31) (by with_unfolding_all rfl) hvt31.len (by decide) ?_)
              intro w32 g32 hF32 hz32
              refine hK.out _ _ (⟨hF32.blk (i := 5) rfl, hrk.below hF32.below⟩) (fun _ => ?_)
              clear hK K
              (try simp only [Act.put, List.setIfInBounds_toArray, List.set_cons_zero, List.set_cons_succ])
              refine rdy1 1 (fun K hK => ?_)
              refine stp (by with_unfolding_all rfl) (wp_fld hF32 (i := 1) rfl Tryd.underlying25 rfl (by with_unfolding_all exact ⟨_, rfl, rfl⟩) rfl ?_)
              refine hK.out _ _ (⟨hF32.blk (i := 5) rfl, hrk.below hF32.below⟩) (fun _ => ?_)
              clear hK K
              (try simp only [Act.put, List.setIfInBounds_toArray, List.set_cons_zero, List.set_cons_succ])
              refine rdy1 11 (fun K hK => ?_)
              refine stp (by with_unfolding_all rfl) (wp_fappG T_vals hF32 (i := 2) rfl (Nat.le_refl _) (hF32.rdOwn (i := 0) rfl) hvt31.one (by with_unfolding_all exact ⟨_, _, rfl, rfl, rfl⟩) (by unfold maxLen; omega) (by omega) ?_)
              intro v33 w33 hF33 hz33
              (try simp only [List.set_cons_zero, List.set_cons_succ] at hF33)
              obtain ⟨A33, c33, rfl, hc33⟩ := hF33.ownParts (i := 2) rfl
              refine hK.out _ _ (⟨hF33.blk (i := 5) rfl, hrk.below hF33.below⟩) (fun _ => ?_)
              clear hK K
              (try simp only [Act.put, List.setIfInBounds_toArray, List.set_cons_zero, List.set_cons_succ])
              refine tkp 12 ⟨hF33.blk (i := 5) rfl, hrk.below hF33.below⟩ ?_
              (try simp only [Act.put, List.setIfInBounds_toArray, List.set_cons_zero, List.set_cons_succ])
              refine rdy1 13 (fun K hK => ?_)
              refine stp (by with_unfolding_all rfl) (wp_fst hF33 (i := 1) rfl (v := .slice A33 (i + 1) c33) (by with_unfolding_all exact ⟨_, _, rfl, rfl, rfl⟩) (by kernel_rfl) rfl rfl (by rw [vlL_len]; decide) ?_)
              intro w34 hF34 hz34
              (try simp only [List.set_cons_zero, List.set_cons_succ] at hF34)
              rw [(vlL_4 (k := k) (n := n) (t := ⟨t.toArray⟩) (a := .slice A0 nn c0) (b := .slice Ai i ci'))] at hF34
              refine hK.out _ _ (⟨hF34.blk (i := 5) rfl, hrk.below hF34.below⟩) (fun _ => ?_)
              clear hK K
              (try simp only [Act.put, List.setIfInBounds_toArray, List.set_cons_zero, List.set_cons_succ])
              refine wpAnyH_done (by kernel_rfl) ?_ _
              go_wp2_with fail
              go_roundg (nk - (i + 1))
              case rel => exact ⟨i + 1, A33, c33, _, _, by omega, box rfl, by go_num, hc33, trivial, box (hT2.out _ _ hvt31), hF34.tail⟩
              case measure => have := hkf.out; omega
            exact AllReadyH.nil
          exact AllReadyH.nil
        · have hin : i = nk := by omega
          subst hin
          have hall : ks.take i = ks := List.take_of_length_le (by rw [hnk.out]; exact Nat.le_refl _)
          rw [hall] at hT
          go_wp2_with (first | (with_reducible refine lst (by with_unfolding_all rfl) (wp_fld4 hF Tryd.underlying31 rfl (by with_unfolding_all exact ⟨_, rfl, rfl⟩) rfl ?_)) | (with_reducible refine lst (by with_unfolding_all rfl) (wp_fldA0 hF Tryd.underlying27 rfl (by with_unfolding_all exact ⟨_, rfl, rfl⟩) (ds := (vlL k n ⟨t.toArray⟩ (.slice A0 nn c0) (.slice Ai i ci'))) (by rw [vlL_len]; kernel_rfl) (take_all _) ?_)) | ((with_reducible refine lst (by with_unfolding_all rfl) (wp_fstA3 hF (by with_unfolding_all exact ⟨_, _, rfl, rfl, rfl⟩) (by rw [vlL_len]; kernel_rfl) vlL_one vlL_fit vlL_spl ?_)); intro w9 hF9 hz9))
          exact bodyPost_ret (results_cellF rfl _ hF9 (i := 3) rfl rfl Tryd.underlying27 rfl (by rw [vlL_len]; kernel_rfl)) rfl (by
            refine ⟨_, _, rfl, VT.mk_ hc0 hci' hT.out, ?_⟩
            have h1 := hF9.toRd (i := 1) rfl
            simp only [List.set_cons_succ, List.set_cons_zero] at h1
            have h2 := h1.toRd (i := 2) rfl
            simp only [List.set_cons_succ, List.set_cons_zero] at h2
            refine (h2.sub (es' := .rd Ai 5 i xs :: .rd A0 1 nn (ns.map strv) :: TE) ?_).perm (List.Perm.swap _ _ _)
            exact (((((List.Sublist.refl _).cons _).cons _).cons_cons _).cons_cons _).cons _)

end Go.Proofs.YtdekogmegdhjoaaDoor
