/-
  Layer 14: the walk of the law on what records are written as.
  What the second form's bound gives of a slice: its room.
  From what the form reads of structs that came in to the words of the walks: parts of the cells, one by one. No program is named here.
  Layer 14: a record, a head that came in. No program is named here.
  The library's variable holds a number, whatever the call finds.
-/
import Derived.Test.YtpdbjhgphgcjoaaDoorJ20
import Derived.Test.YtpdbjhgphgcjoaaDoorJ05
import Derived.Test.YtpdbjhgphgcjoaaDoorRows
import Derived.Test.YtpdbjhgphgcjoaaDoorJ02
import Derived.Test.YtpdbjhgphgcjoaaDoorJ06
import Derived.Test.YtpdbjhgphgcjoaaDoorJ16
import Derived.Test.YtpdbjhgphgcjoaaDoorJ09
import Derived.Shelf.Vars
namespace Go.Proofs.YtpdbjhgphgcjoaaDoor
open Go.RowKit
set_option linter.unusedSimpArgs false

set_option maxRecDepth 20000 in
set_option maxHeartbeats 3200000 in
theorem recordWrites_any (r : Rec) (w : World) (hM : MaxW w) (hd : r.d.length = 32) (hs : r.repo.size ≤ 4000000000) (ht : r.tag.size ≤ 4000000000) :
    Calls Tryd.prog 3 #[.agg r.cells.toArray] w fun e w' => e = .returned (.bool true) ∧ Below w.heap.size w w' := by
  have hF0 := Fr.nil w
  have hC := box (r.len hd)
  have hto := box (fun w => to_any r w hd)
  have h1 := box (fun w hM => enc_any r w hM hd hs ht)
  have h2 := box (fun w => encF_any r w hd hs ht)
  have h3 := box (fun w hM => right_any r w hM hd hs ht)
  have h4 := box (fun w => rightF_any r w hd hs ht)
  have hlen := recE_len hd
  generalize (if recOk r = true then recB r else []) = l at *
  generalize (if recOk r = true then (0 : Int) else 1) = er at *
  generalize recOk r = R at *
  replace hd := box hd
  go_enter Tryd.func3, Tryd.ntmps3
  go_wp2_with (first | ((with_reducible refine lst (by with_unfolding_all rfl) (wp_fbox hF0 (cs := r.cells) rfl (by with_unfolding_all rfl) (by with_unfolding_all rfl) ?_)); intro w1 g1 hF1 hz1) | (with_reducible refine lst (by with_unfolding_all rfl) (wp_fldA0 hF1 Tryd.underlying24 rfl (by with_unfolding_all exact ⟨_, rfl, rfl⟩) (ds := r.cells) (by rw [hC.out]; kernel_rfl) (take_all _) ?_)))
  refine (hto.out _).mono ?_
  rintro e w2 ⟨rfl, hb2⟩
  have hF2 := hF1.call hb2
  go_wp2_with fail
  refine (h1.out _ (hF2.maxW hM)).mono ?_
  rintro e w3 ⟨v3, rfl, ho3, hb3⟩
  obtain ⟨A3, c3, rfl, hn3, _⟩ := ho3.arg
  have hF3 := hF2.gotB hb3 ho3
  go_wp2_with (first | (with_reducible refine lst (by with_unfolding_all rfl) (wp_fldA1 hF3 Tryd.underlying24 rfl (by with_unfolding_all exact ⟨_, rfl, rfl⟩) (ds := r.cells) (by rw [hC.out]; kernel_rfl) (take_all _) ?_)))
  refine (h2.out _).mono ?_
  rintro e w4 ⟨v4, rfl, ho4, hb4⟩
  obtain ⟨A4, c4, rfl, hn4, _⟩ := ho4.arg
  have hF4 := hF3.gotB hb4 ho4
  clear hF0 hF1 hF2 hF3 ho3 ho4 hb2 hb3 hb4 h1 h2
  go_upto_region 3 with (fail)
  have hFd := hF4.drew
  refine wp_region_held (S := fun w' => w'.heap[g1]? = some (.cells (List.toArray r.cells) 24 (0, 0))) (by kernel_rfl) ?_
  change wpAnyH _ _ _ _ _ _ _ _ (World.drew _)
  refine wpAnyH_ready (rs := [0]) (by kernel_rfl) (by simp) ?_
  refine AllReadyH.cons (by simp only [List.getElem?_toArray, List.getElem?_cons_zero]; rfl) (fun K hK => ?_) ?_
  · refine stp (by with_unfolding_all rfl) (wp_call Tryd.func10 rfl (by with_unfolding_all rfl) (by with_unfolding_all rfl) (by with_unfolding_all rfl) (awake_any _ (hFd.maxW hM)) ?_)
    rintro e w21 ⟨rfl, hb21⟩
    refine ⟨_, rfl, ?_⟩
    have hF21 := hFd.call hb21
    refine hK.out _ _ ((hF21.blk (i := 2) rfl)) (fun _ => ?_)
    clear hK K
    (try simp only [Act.put, List.setIfInBounds_toArray, List.set_cons_zero, List.set_cons_succ])
    refine wpAnyH_take (i := 1) (v := ?_) (by simp only [List.getElem?_toArray, List.getElem?_cons_zero, List.getElem?_cons_succ]; rfl) (by kernel_rfl) (by kernel_rfl) (by kernel_rfl) (by exact fun _ _ _ h => h) (Or.inl ⟨by with_unfolding_all rfl, ?_⟩) (hF21.blk (i := 2) rfl) ?_
    rotate_left
    · (intro w hSw; (try dsimp only at hSw); go_simp; try with_reducible rfl)
    (try simp only [Act.put, List.setIfInBounds_toArray, List.set_cons_zero, List.set_cons_succ])
    refine wpAnyH_take (i := 2) (by simp only [List.getElem?_toArray, List.getElem?_cons_zero, List.getElem?_cons_succ]; rfl) (by kernel_rfl) (by kernel_rfl) (by kernel_rfl) (by exact fun _ _ _ h => h) (yi_fldA (by with_unfolding_all rfl) (fun _ h => h) Tryd.underlying24 rfl (by with_unfolding_all exact ⟨_, rfl, rfl⟩) (ds := r.cells) (by rw [hC.out]; kernel_rfl) (take_all _)) (hF21.blk (i := 2) rfl) ?_
    (try simp only [Act.put, List.setIfInBounds_toArray, List.set_cons_zero, List.set_cons_succ])
    refine wpAnyH_take (i := 5) (by simp only [List.getElem?_toArray, List.getElem?_cons_zero, List.getElem?_cons_succ]; rfl) (by kernel_rfl) (by kernel_rfl) (by kernel_rfl) (by exact fun _ _ _ h => h) (yi_fldA (by with_unfolding_all rfl) (fun _ h => h) Tryd.underlying24 rfl (by with_unfolding_all exact ⟨_, rfl, rfl⟩) (ds := r.cells) (by rw [hC.out]; kernel_rfl) (take_all _)) (hF21.blk (i := 2) rfl) ?_
    (try simp only [Act.put, List.setIfInBounds_toArray, List.set_cons_zero, List.set_cons_succ])
    refine wpAnyH_ready (rs := [3]) (by kernel_rfl) (by simp) ?_
    refine AllReadyH.cons (by simp only [List.getElem?_toArray, List.getElem?_cons_zero, List.getElem?_cons_succ]; rfl) (fun K hK => ?_) ?_
    · refine stp (by with_unfolding_all rfl) (wp_call Tryd.func8 rfl (by with_unfolding_all rfl) (by with_unfolding_all rfl) (by with_unfolding_all rfl) (hto.out _) ?_)
      rintro e w22 ⟨rfl, hb22⟩
      refine ⟨_, rfl, ?_⟩
      have hF22 := hF21.call hb22
      refine hK.out _ _ ((hF22.blk (i := 2) rfl)) (fun _ => ?_)
      clear hK K
      (try simp only [Act.put, List.setIfInBounds_toArray, List.set_cons_zero, List.set_cons_succ])
      refine wpAnyH_ready (rs := [4]) (by kernel_rfl) (by simp) ?_
      refine AllReadyH.cons (by simp only [List.getElem?_toArray, List.getElem?_cons_zero, List.getElem?_cons_succ]; rfl) (fun K hK => ?_) ?_
      · refine stp (by with_unfolding_all rfl) (wp_call Tryd.func11 rfl (by with_unfolding_all rfl) (by with_unfolding_all rfl) (by with_unfolding_all rfl) (h3.out _ (hF22.maxW hM)) ?_)
        rintro e w23 ⟨rfl, hb23⟩
        refine ⟨_, rfl, ?_⟩
        have hF23 := hF22.call hb23
        refine hK.out _ _ ((hF23.blk (i := 2) rfl)) (fun _ => ?_)
        clear hK K
        (try simp only [Act.put, List.setIfInBounds_toArray, List.set_cons_zero, List.set_cons_succ])
        refine wpAnyH_ready (rs := [6]) (by kernel_rfl) (by simp) ?_
        refine AllReadyH.cons (by simp only [List.getElem?_toArray, List.getElem?_cons_zero, List.getElem?_cons_succ]; rfl) (fun K hK => ?_) ?_
        · refine stp (by with_unfolding_all rfl) (wp_call Tryd.func12 rfl (by with_unfolding_all rfl) (by with_unfolding_all rfl) (by with_unfolding_all rfl) (h4.out _) ?_)
          rintro e w24 ⟨rfl, hb24⟩
          refine ⟨_, rfl, ?_⟩
          have hF24 := hF23.call hb24
          refine hK.out _ _ ((hF24.blk (i := 2) rfl)) (fun _ => ?_)
          clear hK K
          (try simp only [Act.put, List.setIfInBounds_toArray, List.set_cons_zero, List.set_cons_succ])
          refine wpAnyH_take (i := 7) (v := ?_) (by simp only [List.getElem?_toArray, List.getElem?_cons_zero, List.getElem?_cons_succ]; rfl) (by kernel_rfl) (by kernel_rfl) (by kernel_rfl) (by exact fun _ _ _ h => h) (Or.inl ⟨by with_unfolding_all rfl, ?_⟩) (hF24.blk (i := 2) rfl) ?_
          rotate_left
          · (intro w hSw; (try dsimp only at hSw); go_simp; try with_reducible rfl)
          (try simp only [Act.put, List.setIfInBounds_toArray, List.set_cons_zero, List.set_cons_succ])
          refine wpAnyH_take (i := 8) (v := ?_) (by simp only [List.getElem?_toArray, List.getElem?_cons_zero, List.getElem?_cons_succ]; rfl) (by kernel_rfl) (by kernel_rfl) (by kernel_rfl) (by exact fun _ _ _ h => h) (Or.inl ⟨by with_unfolding_all rfl, ?_⟩) (hF24.blk (i := 2) rfl) ?_
          rotate_left
          · (intro w hSw; (try dsimp only at hSw); go_simp; try with_reducible rfl)
          (try simp only [Act.put, List.setIfInBounds_toArray, List.set_cons_zero, List.set_cons_succ])
          refine wpAnyH_take (i := 9) (v := ?_) (by simp only [List.getElem?_toArray, List.getElem?_cons_zero, List.getElem?_cons_succ]; rfl) (by kernel_rfl) (by kernel_rfl) (by kernel_rfl) (by exact fun _ _ _ h => h) (Or.inl ⟨by with_unfolding_all rfl, ?_⟩) (hF24.blk (i := 2) rfl) ?_
          rotate_left
          · (intro w hSw; (try dsimp only at hSw); go_simp; try with_reducible rfl)
          (try simp only [Act.put, List.setIfInBounds_toArray, List.set_cons_zero, List.set_cons_succ])
          refine wpAnyH_take (i := 10) (v := ?_) (by simp only [List.getElem?_toArray, List.getElem?_cons_zero, List.getElem?_cons_succ]; rfl) (by kernel_rfl) (by kernel_rfl) (by kernel_rfl) (by exact fun _ _ _ h => h) (Or.inl ⟨by with_unfolding_all rfl, ?_⟩) (hF24.blk (i := 2) rfl) ?_
          rotate_left
          · (intro w hSw; (try dsimp only at hSw); go_simp; try with_reducible rfl)
          (try simp only [Act.put, List.setIfInBounds_toArray, List.set_cons_zero, List.set_cons_succ])
          refine wpAnyH_take (i := 11) (v := ?_) (by simp only [List.getElem?_toArray, List.getElem?_cons_zero, List.getElem?_cons_succ]; rfl) (by kernel_rfl) (by kernel_rfl) (by kernel_rfl) (by exact fun _ _ _ h => h) (Or.inl ⟨by with_unfolding_all rfl, ?_⟩) (hF24.blk (i := 2) rfl) ?_
          rotate_left
          · (intro w hSw; (try dsimp only at hSw); go_simp; try with_reducible rfl)
          (try simp only [Act.put, List.setIfInBounds_toArray, List.set_cons_zero, List.set_cons_succ])
          refine wpAnyH_take (i := 12) (v := ?_) (by simp only [List.getElem?_toArray, List.getElem?_cons_zero, List.getElem?_cons_succ]; rfl) (by kernel_rfl) (by kernel_rfl) (by kernel_rfl) (by exact fun _ _ _ h => h) (Or.inl ⟨by with_unfolding_all rfl, ?_⟩) (hF24.blk (i := 2) rfl) ?_
          rotate_left
          · (intro w hSw; (try dsimp only at hSw); go_simp; try with_reducible rfl)
          (try simp only [Act.put, List.setIfInBounds_toArray, List.set_cons_zero, List.set_cons_succ])
          refine wpAnyH_take (i := 13) (v := ?_) (by simp only [List.getElem?_toArray, List.getElem?_cons_zero, List.getElem?_cons_succ]; rfl) (by kernel_rfl) (by kernel_rfl) (by kernel_rfl) (by exact fun _ _ _ h => h) (Or.inl ⟨by with_unfolding_all rfl, ?_⟩) (hF24.blk (i := 2) rfl) ?_
          rotate_left
          · (intro w hSw; (try dsimp only at hSw); go_simp; try with_reducible rfl)
          (try simp only [Act.put, List.setIfInBounds_toArray, List.set_cons_zero, List.set_cons_succ])
          refine wpAnyH_take (i := 14) (v := ?_) (by simp only [List.getElem?_toArray, List.getElem?_cons_zero, List.getElem?_cons_succ]; rfl) (by kernel_rfl) (by kernel_rfl) (by kernel_rfl) (by exact fun _ _ _ h => h) (Or.inl ⟨by with_unfolding_all rfl, ?_⟩) (hF24.blk (i := 2) rfl) ?_
          rotate_left
          · (intro w hSw; (try dsimp only at hSw); go_simp; try with_reducible rfl)
          (try simp only [Act.put, List.setIfInBounds_toArray, List.set_cons_zero, List.set_cons_succ])
          refine wpAnyH_take (i := 15) (v := ?_) (by simp only [List.getElem?_toArray, List.getElem?_cons_zero, List.getElem?_cons_succ]; rfl) (by kernel_rfl) (by kernel_rfl) (by kernel_rfl) (by exact fun _ _ _ h => h) (Or.inl ⟨by with_unfolding_all rfl, ?_⟩) (hF24.blk (i := 2) rfl) ?_
          rotate_left
          · (intro w hSw; (try dsimp only at hSw); go_simp; try with_reducible rfl)
          (try simp only [Act.put, List.setIfInBounds_toArray, List.set_cons_zero, List.set_cons_succ])
          refine wpAnyH_take (i := 16) (v := ?_) (by simp only [List.getElem?_toArray, List.getElem?_cons_zero, List.getElem?_cons_succ]; rfl) (by kernel_rfl) (by kernel_rfl) (by kernel_rfl) (by exact fun _ _ _ h => h) (Or.inl ⟨by with_unfolding_all rfl, ?_⟩) (hF24.blk (i := 2) rfl) ?_
          rotate_left
          · (intro w hSw; (try dsimp only at hSw); go_simp; try with_reducible rfl)
          (try simp only [Act.put, List.setIfInBounds_toArray, List.set_cons_zero, List.set_cons_succ])
          refine wpAnyH_ready (rs := [17]) (by kernel_rfl) (by simp) ?_
          refine AllReadyH.cons (by simp only [List.getElem?_toArray, List.getElem?_cons_zero, List.getElem?_cons_succ]; rfl) (fun K hK => ?_) ?_
          · refine stp (by with_unfolding_all rfl) (wp_call Tryd.func13 rfl (by with_unfolding_all rfl) (by with_unfolding_all rfl) (by with_unfolding_all rfl) (same_self _ _ _ _ _ _ l _ (by omega) (hF24.rdOwn (i := 1) rfl) (hF24.rdOwn (i := 0) rfl)) ?_)
            rintro e w25 ⟨rfl, hb25⟩
            refine ⟨_, rfl, ?_⟩
            have hF25 := hF24.call hb25
            refine hK.out _ _ ((hF25.blk (i := 2) rfl)) (fun _ => ?_)
            clear hK K
            (try simp only [Act.put, List.setIfInBounds_toArray, List.set_cons_zero, List.set_cons_succ])
            refine wpAnyH_take (i := 18) (v := ?_) (by simp only [List.getElem?_toArray, List.getElem?_cons_zero, List.getElem?_cons_succ]; rfl) (by kernel_rfl) (by kernel_rfl) (by kernel_rfl) (by exact fun _ _ _ h => h) (Or.inl ⟨by with_unfolding_all rfl, ?_⟩) (hF25.blk (i := 2) rfl) ?_
            rotate_left
            · (intro w hSw; (try dsimp only at hSw); go_simp; try with_reducible rfl)
            (try simp only [Act.put, List.setIfInBounds_toArray, List.set_cons_zero, List.set_cons_succ])
            refine wpAnyH_take (i := 19) (v := ?_) (by simp only [List.getElem?_toArray, List.getElem?_cons_zero, List.getElem?_cons_succ]; rfl) (by kernel_rfl) (by kernel_rfl) (by kernel_rfl) (by exact fun _ _ _ h => h) (Or.inl ⟨by with_unfolding_all rfl, ?_⟩) (hF25.blk (i := 2) rfl) ?_
            rotate_left
            · (intro w hSw; (try dsimp only at hSw); go_simp; try with_reducible rfl)
            (try simp only [Act.put, List.setIfInBounds_toArray, List.set_cons_zero])
            refine wpAnyH_done (by kernel_rfl) ?_ _
            go_wp2_with fail
            go_ret
            exact ⟨ret1 (by simp), hF25.below⟩
          exact AllReadyH.nil
        exact AllReadyH.nil
      exact AllReadyH.nil
    exact AllReadyH.nil
  exact AllReadyH.nil
end Go.Proofs.YtpdbjhgphgcjoaaDoor

namespace Go.Proofs.YtpdbjhgphgcjoaaDoor

theorem bulk_pos {H : Type} : ∀ d : DataW H, 1 ≤ Rows.uptoBulk d
  | .lit l => by cases l <;> simp [Rows.uptoBulk]
  | .nil => by simp [Rows.uptoBulk]
  | .ptr d => by simp [Rows.uptoBulk]
  | .slice e s => by simp [Rows.uptoBulk]
  | .agg p => by simp [Rows.uptoBulk]
  | .iface t d => by simp [Rows.uptoBulk]
  | .map e => by simp [Rows.uptoBulk]
  | .held h => by simp [Rows.uptoBulk]
theorem bulk_len {H : Type} : ∀ l : List (DataW H), l.length ≤ Rows.uptoBulkAll l
  | [] => Nat.zero_le _
  | d :: r => by have h1 := bulk_pos d; have h2 := bulk_len r; simp only [Rows.uptoBulkAll, List.length_cons]; omega
theorem bulk_cap {H : Type} (e s : List (DataW H)) : e.length + s.length + 1 ≤ Rows.uptoBulk (.slice e s) := by
  have h1 := bulk_len e
  have h2 := bulk_len s
  simp only [Rows.uptoBulk]; omega
end Go.Proofs.YtpdbjhgphgcjoaaDoor

namespace Go.Proofs.YtpdbjhgphgcjoaaDoor
open Go.ChangeShapes Go.WideShapes Go.ChangeAt Go.RowKit

section
variable {H : Type} {enc : TypeId × Value → H} {P : Program} {W : World} {hd : Bool} {fuel : Nat}

theorem bulk_mem {l : List (DataW H)} {d : DataW H} (h : d ∈ l) : Rows.uptoBulk d ≤ Rows.uptoBulkAll l := by
  induction l with
  | nil => cases h
  | cons a l ih =>
    simp only [Rows.uptoBulkAll]
    rcases List.mem_cons.1 h with rfl | h
    · omega
    · have := ih h; omega
/-- A field of a struct that came in: its cells, and how they are read. -/
theorem field_in {t : TypeId} {fs : Array Field} (ht : P.underlying t = some (.struct fs)) {cs : List Value} {x : DataW H × List MemPlace} (h : DataW.trod enc P W 0 (fun _ => true) hd fuel t cs = some x)
    {i : Nat} {f : Field} (hf : fs[i]? = some f) : ∃ n y, DataW.trod enc P W 0 (fun _ => true) hd n f.type ((cs.drop f.offset).take (P.cellsOf f.type)) = some y ∧ Rows.uptoBulk y.1 + 1 ≤ Rows.uptoBulk x.1 := by
  obtain ⟨xs, n, _, hx, _, hlen, hg⟩ := DataW.trod_struct ht h
  have hi : i < fs.size := (Array.getElem?_eq_some_iff.1 hf).1
  have hy : xs[i]? = some (xs[i]'(by omega)) := List.getElem?_eq_getElem (by omega)
  refine ⟨n, _, (hg i f hf).trans hy, ?_⟩
  rw [hx]
  have := bulk_mem (d := (xs[i]'(by omega)).1) (l := xs.map (·.1)) (List.mem_map_of_mem (List.getElem_mem _))
  simp only [Rows.uptoBulk]; omega
theorem ints_in {t : TypeId} {k : IntKind} (ht : P.underlying t = some (.int k)) {cs : List Value} {x : DataW H × List MemPlace} (h : DataW.trod enc P W 0 (fun _ => true) hd fuel t cs = some x) : ∃ n, cs = [.int k n] ∧ (Lit.int k n).wf = true := by
  obtain ⟨n, h1, _, h2⟩ := DataW.trod_int ht h
  exact ⟨n, h1, h2⟩
theorem strs_in {t : TypeId} (ht : P.underlying t = some .string) {cs : List Value} {x : DataW H × List MemPlace} (h : DataW.trod enc P W 0 (fun _ => true) hd fuel t cs = some x) : ∃ s : ByteArray, cs = [.string s] ∧ s.size + 1 ≤ Rows.uptoBulk x.1 := by
  obtain ⟨s, h1, h2, _⟩ := DataW.trod_string ht h
  exact ⟨s, h1, by rw [h2]; simp [Rows.uptoBulk]⟩
theorem bools_in {t : TypeId} (ht : P.underlying t = some .bool) {cs : List Value} {x : DataW H × List MemPlace} (h : DataW.trod enc P W 0 (fun _ => true) hd fuel t cs = some x) : ∃ b : Bool, cs = [.bool b] := by
  cases fuel with
  | zero => simp [DataW.trod] at h
  | succ n =>
    unfold DataW.trod at h
    rw [ht] at h
    split at h <;> simp_all
theorem bytes_of_cells : ∀ (cs : List Value), (∀ i, i < cs.length → ∃ c : UInt8, cs[i]? = some (bv c)) → ∃ d : List UInt8, cs = d.map bv
  | [], _ => ⟨[], rfl⟩
  | c :: cs, h => by
    obtain ⟨a, ha⟩ := h 0 (by simp)
    obtain ⟨d, hd⟩ := bytes_of_cells cs (fun i hi => by
      have := h (i + 1) (by simp; omega)
      simpa using this)
    simp only [List.getElem?_cons_zero, Option.some.injEq] at ha
    exact ⟨a :: d, by rw [ha, hd]; rfl⟩
/-- An array of bytes that came in. -/
theorem arr_in {t e : TypeId} {n : Nat} (ht : P.underlying t = some (.array n e)) (he : P.underlying e = some (.int .u8)) (hc : P.cellsOf e = 1) (hcs : P.cellsOf t = n) {cs : List Value} {x : DataW H × List MemPlace} (h : DataW.trod enc P W 0 (fun _ => true) hd fuel t cs = some x) :
    ∃ d : List UInt8, cs = d.map bv ∧ d.length = n := by
  obtain ⟨xs, m, _, _, hlen, hxl, hg⟩ := DataW.trod_array ht h
  rw [hcs] at hlen
  have key : ∀ i, i < n → ∃ c : UInt8, cs[i]? = some (bv c) := fun i hi => by
    have h1 := hg i hi
    rw [hc, Nat.mul_one, List.getElem?_eq_getElem (by omega)] at h1
    obtain ⟨k, h2, h3⟩ := ints_in he h1
    obtain ⟨c, rfl⟩ := u8_of_wf h3
    refine ⟨c, ?_⟩
    have h4 : ((cs.drop i).take 1)[0]? = some (bv c) := by rw [h2]; rfl
    rw [List.getElem?_take, if_pos (by omega), List.getElem?_drop] at h4
    simpa using h4
  obtain ⟨d, hd⟩ := bytes_of_cells cs (fun i hi => key i (by omega))
  exact ⟨d, hd, by rw [hd, List.length_map] at hlen; exact hlen⟩
/-- A slice of bytes that came in, as a cell. -/
theorem sl_in {t e : TypeId} (ht : P.underlying t = some (.slice e)) (he : P.underlying e = some (.int .u8)) (hc : P.cellsOf e = 1) {cs : List Value} {x : DataW H × List MemPlace} (h : DataW.trod enc P W 0 (fun _ => true) hd fuel t cs = some x) :
    ∃ (a : Option Addr) (len cap : Nat) (l : List UInt8), cs = [.slice a len cap] ∧ len ≤ cap ∧ cap ≤ maxLen ∧ Rd W (· < W.heap.size) a 1 len (l.map bv) ∧ cap + 1 ≤ Rows.uptoBulk x.1 := by
  have hform : ∃ a len cap, cs = [.slice a len cap] := by
    rcases open_ints ht he hc h with ⟨hcs, _⟩ | ⟨x, l, c, zs, hcs, _⟩
    · exact ⟨none, 0, 0, hcs⟩
    · exact ⟨some x, l, c, hcs⟩
  obtain ⟨a, len, cap, rfl⟩ := hform
  obtain ⟨l, h1, h2, h3, h4⟩ := bytes_in (a := a) (len := len) (cap := cap) ht he hc (d := x.1) (ps := x.2) ⟨fuel, h⟩
  refine ⟨a, len, cap, l, rfl, h1, h2, h3, ?_⟩
  rcases h4 with ⟨e1, e2⟩ | ⟨es, sp, e1, e2⟩
  · rw [e1, e2]; simp [Rows.uptoBulk]
  · rw [e1, ← e2]; exact bulk_cap es sp
theorem cut_at (cs : List Value) (k m : Nat) : cs.drop k = (cs.drop k).take m ++ cs.drop (k + m) := by rw [← List.drop_drop, List.take_append_drop]
end
end Go.Proofs.YtpdbjhgphgcjoaaDoor

namespace Go.Proofs.YtpdbjhgphgcjoaaDoor
open Go.ChangeShapes Go.WideShapes Go.ChangeAt Go.RowKit

/-- The fields of a record: where, of which type, how many cells. -/
structure RecI (P : Program) (t : TypeId) (fs : Array Field) (f0 f1 f2 f3 f4 : Field) (ub : TypeId) : Prop where
  und : P.underlying t = some (.struct fs)
  size : P.cellsOf t = 36
  at_ : fs = #[f0, f1, f2, f3, f4]
  off : [f0, f1, f2, f3, f4].map (fun f => (f.offset, P.cellsOf f.type)) = [(0, 1), (1, 1), (2, 1), (3, 32), (35, 1)]
  typ : [f0, f1, f2, f3, f4].map (fun f => P.underlying f.type) = [some (.int .i64), some .string, some .string, some (.array 32 ub), some (.int .i64)]
  byt : P.underlying ub = some (.int .u8)
  one : P.cellsOf ub = 1
structure HdI (P : Program) (t : TypeId) (fs : Array Field) (f0 f1 f2 : Field) (ub : TypeId) : Prop where
  und : P.underlying t = some (.struct fs)
  size : P.cellsOf t = 34
  at_ : fs = #[f0, f1, f2]
  off : [f0, f1, f2].map (fun f => (f.offset, P.cellsOf f.type)) = [(0, 1), (1, 32), (33, 1)]
  typ : [f0, f1, f2].map (fun f => P.underlying f.type) = [some (.int .i64), some (.array 32 ub), some (.int .i64)]
  byt : P.underlying ub = some (.int .u8)
  one : P.cellsOf ub = 1
section
variable {H : Type} {enc : TypeId × Value → H} {P : Program} {W : World} {hd : Bool}
theorem rec_in {t ub : TypeId} {fs : Array Field} {f0 f1 f2 f3 f4 : Field} (T : RecI P t fs f0 f1 f2 f3 f4 ub) {r : Reach} {b0 : Nat} {v : Value} {d : DataW H} {ps : List MemPlace} (hv : Value.okWide P W r b0 t v) (h : DataW.Trod enc P W 0 (fun _ => true) hd t v d ps) :
    ∃ q : Rec, v = .agg q.cells.toArray ∧ q.d.length = 32 ∧ q.repo.size ≤ Rows.uptoBulk d ∧ q.tag.size ≤ Rows.uptoBulk d := by
  obtain ⟨cs, rfl, hsz⟩ := okWide_struct T.und hv
  obtain ⟨fuel, hf⟩ := h
  have ho := T.off
  have ht := T.typ
  simp only [List.map_cons, List.map_nil, List.cons.injEq, Prod.mk.injEq, and_true] at ho ht
  obtain ⟨⟨o0, z0⟩, ⟨o1, z1⟩, ⟨o2, z2⟩, ⟨o3, z3⟩, ⟨o4, z4⟩⟩ := ho
  obtain ⟨u0, u1, u2, u3, u4⟩ := ht
  have hcells : (Value.agg cs).cells.toList = cs.toList := rfl
  rw [hcells] at hf
  obtain ⟨_, y0, g0, _⟩ := field_in T.und hf (i := 0) (f := f0) (by rw [T.at_]; rfl)
  obtain ⟨_, y1, g1, k1⟩ := field_in T.und hf (i := 1) (f := f1) (by rw [T.at_]; rfl)
  obtain ⟨_, y2, g2, k2⟩ := field_in T.und hf (i := 2) (f := f2) (by rw [T.at_]; rfl)
  obtain ⟨_, y3, g3, _⟩ := field_in T.und hf (i := 3) (f := f3) (by rw [T.at_]; rfl)
  obtain ⟨_, y4, g4, _⟩ := field_in T.und hf (i := 4) (f := f4) (by rw [T.at_]; rfl)
  obtain ⟨n0, e0, _⟩ := ints_in u0 g0
  obtain ⟨s1, e1, b1⟩ := strs_in u1 g1
  obtain ⟨s2, e2, b2⟩ := strs_in u2 g2
  obtain ⟨d3, e3, l3⟩ := arr_in u3 T.byt T.one z3 g3
  obtain ⟨n4, e4, _⟩ := ints_in u4 g4
  rw [o0, z0] at e0
  rw [o1, z1] at e1
  rw [o2, z2] at e2
  rw [o3, z3] at e3
  rw [o4, z4] at e4
  simp only [] at k1 k2
  refine ⟨⟨n0, s1, s2, d3, n4⟩, ?_, l3, by show s1.size ≤ _; omega, by show s2.size ≤ _; omega⟩
  congr 1
  apply Array.ext'
  have hlen : cs.toList.length = 36 := by rw [Array.length_toList, hsz, T.size]
  rw [show cs.toList = cs.toList.drop 0 from rfl, cut_at cs.toList 0 1, e0, cut_at cs.toList (0 + 1) 1, e1, cut_at cs.toList (0 + 1 + 1) 1, e2, cut_at cs.toList (0 + 1 + 1 + 1) 32, e3, cut_at cs.toList (0 + 1 + 1 + 1 + 32) 1, e4, List.drop_of_length_le (by omega)]
  simp [Rec.cells, rcL]
theorem head_in {t ub : TypeId} {fs : Array Field} {f0 f1 f2 : Field} (T : HdI P t fs f0 f1 f2 ub) {r : Reach} {b0 : Nat} {v : Value} {d : DataW H} {ps : List MemPlace} (hv : Value.okWide P W r b0 t v) (h : DataW.Trod enc P W 0 (fun _ => true) hd t v d ps) :
    ∃ q : Hd, v = .agg q.cells.toArray ∧ q.root.length = 32 := by
  obtain ⟨cs, rfl, hsz⟩ := okWide_struct T.und hv
  obtain ⟨fuel, hf⟩ := h
  have ho := T.off
  have ht := T.typ
  simp only [List.map_cons, List.map_nil, List.cons.injEq, Prod.mk.injEq, and_true] at ho ht
  obtain ⟨⟨o0, z0⟩, ⟨o1, z1⟩, ⟨o2, z2⟩⟩ := ho
  obtain ⟨u0, u1, u2⟩ := ht
  have hcells : (Value.agg cs).cells.toList = cs.toList := rfl
  rw [hcells] at hf
  obtain ⟨_, y0, g0, _⟩ := field_in T.und hf (i := 0) (f := f0) (by rw [T.at_]; rfl)
  obtain ⟨_, y1, g1, _⟩ := field_in T.und hf (i := 1) (f := f1) (by rw [T.at_]; rfl)
  obtain ⟨_, y2, g2, _⟩ := field_in T.und hf (i := 2) (f := f2) (by rw [T.at_]; rfl)
  obtain ⟨n0, e0, _⟩ := ints_in u0 g0
  obtain ⟨d1, e1, l1⟩ := arr_in u1 T.byt T.one z1 g1
  obtain ⟨n2, e2, _⟩ := ints_in u2 g2
  rw [o0, z0] at e0
  rw [o1, z1] at e1
  rw [o2, z2] at e2
  refine ⟨⟨n0, d1, n2⟩, ?_, l1⟩
  congr 1
  apply Array.ext'
  have hlen : cs.toList.length = 34 := by rw [Array.length_toList, hsz, T.size]
  rw [show cs.toList = cs.toList.drop 0 from rfl, cut_at cs.toList 0 1, e0, cut_at cs.toList (0 + 1) 32, e1, cut_at cs.toList (0 + 1 + 32) 1, e2, List.drop_of_length_le (by omega)]
  simp [Hd.cells, hdL]
end
end Go.Proofs.YtpdbjhgphgcjoaaDoor

namespace Go.Proofs.YtpdbjhgphgcjoaaDoor
open Go.RowKit

theorem maxW_of {w : World} (h : w.ShapedOpen Tryd.prog) : MaxW w :=
  Go.Proofs.cell_of_shapedOpen_int (zero := #[.int .i64 0]) (t := 3) h (of_decide_eq_true (by kernel_rfl)) (by kernel_rfl) rfl (by kernel_rfl) (by kernel_rfl) Tryd.underlying3
end Go.Proofs.YtpdbjhgphgcjoaaDoor
