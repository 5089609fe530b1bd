/-
  Layer 6: values on the heap. No program is named here.
-/
import Derived.Test.YtdekogmegdhjoaaDoorJ9
namespace Go.Proofs.YtdekogmegdhjoaaDoor
open Go.RowKit

def strv (s : List UInt8) : Value := .string ⟨s.toArray⟩
theorem strv_one (l : List (List UInt8)) : ∀ u ∈ l.map strv, u.oneCell' = true := by
  intro u hu
  obtain ⟨s, _, rfl⟩ := List.mem_map.1 hu
  rfl
mutual
/-- A value's cells, and what is known of the blocks that they lead to. -/
def VT : JV → List Value → List Ent → Prop
  | .mk k n t ns ks, cs, es => ∃ (An : Option Addr) (nn cn : Nat) (Ak : Option Addr) (nk ck : Nat) (xs : List Value) (TE : List Ent), nn ≤ cn ∧ nk ≤ ck ∧
      cs = vlL k n ⟨t.toArray⟩ (.slice An nn cn) (.slice Ak nk ck) ∧ es = .rd An 1 nn (ns.map strv) :: .rd Ak 5 nk xs :: TE ∧ VTL ks xs TE
/-- .. of several values, one behind the other. -/
def VTL : List JV → List Value → List Ent → Prop
  | [], xs, TE => xs = [] ∧ TE = []
  | v :: vs, xs, TE => ∃ (cs ys : List Value) (E1 E2 : List Ent), xs = cs ++ ys ∧ TE = E1 ++ E2 ∧ VT v cs E1 ∧ VTL vs ys E2
end
mutual
/-- A value reads as its cells, in blocks of which S holds. -/
def VRd (w : World) (S : Nat → Prop) : JV → List Value → Prop
  | .mk k n t ns ks, cs => ∃ (An : Option Addr) (nn cn : Nat) (Ak : Option Addr) (nk ck : Nat) (xs : List Value), nn ≤ cn ∧ nk ≤ ck ∧
      cs = vlL k n ⟨t.toArray⟩ (.slice An nn cn) (.slice Ak nk ck) ∧ Rd w S An 1 nn (ns.map strv) ∧ Rd w S Ak 5 nk xs ∧ VRdL w S ks xs
def VRdL (w : World) (S : Nat → Prop) : List JV → List Value → Prop
  | [], xs => xs = []
  | v :: vs, xs => ∃ (cs ys : List Value), xs = cs ++ ys ∧ VRd w S v cs ∧ VRdL w S vs ys
end
theorem VT.mk_ {k n : Int} {t : List UInt8} {ns : List (List UInt8)} {ks : List JV} {An Ak : Option Addr} {nn cn nk ck : Nat} {xs : List Value} {TE : List Ent} (h1 : nn ≤ cn) (h2 : nk ≤ ck) (h : VTL ks xs TE) :
    VT (.mk k n t ns ks) (vlL k n ⟨t.toArray⟩ (.slice An nn cn) (.slice Ak nk ck)) (.rd An 1 nn (ns.map strv) :: .rd Ak 5 nk xs :: TE) := by
  unfold VT
  exact ⟨_, _, _, _, _, _, _, _, h1, h2, rfl, rfl, h⟩
theorem VT.leaf {k n : Int} {t : List UInt8} : VT (.mk k n t [] []) (vlL k n ⟨t.toArray⟩ (.slice none 0 0) (.slice none 0 0)) [.rd none 1 0 [], .rd none 5 0 []] :=
  VT.mk_ (Nat.le_refl _) (Nat.le_refl _) (by unfold VTL; exact ⟨rfl, rfl⟩)
theorem VT.len {v : JV} {cs : List Value} {es : List Ent} (h : VT v cs es) : cs.length = 5 := by
  cases v
  unfold VT at h
  obtain ⟨_, _, _, _, _, _, _, _, _, _, rfl, _⟩ := h
  rfl
theorem VT.one {v : JV} {cs : List Value} {es : List Ent} (h : VT v cs es) : ∀ u ∈ cs, u.oneCell' = true := by
  cases v
  unfold VT at h
  obtain ⟨_, _, _, _, _, _, _, _, _, _, rfl, _⟩ := h
  exact vlL_one
theorem VTL.snoc : ∀ {ks : List JV} {v : JV} {xs cs : List Value} {TE es : List Ent}, VTL ks xs TE → VT v cs es → VTL (ks ++ [v]) (xs ++ cs) (TE ++ es)
  | [], v, xs, cs, TE, es, h, hv => by
    unfold VTL at h
    obtain ⟨rfl, rfl⟩ := h
    rw [List.nil_append, List.nil_append, List.nil_append, VTL]
    exact ⟨cs, [], es, [], by simp, by simp, hv, by unfold VTL; exact ⟨rfl, rfl⟩⟩
  | k :: ks, v, xs, cs, TE, es, h, hv => by
    rw [VTL] at h
    obtain ⟨c1, ys, E1, E2, rfl, rfl, h1, h2⟩ := h
    rw [List.cons_append, VTL]
    exact ⟨c1, ys ++ cs, E1, E2 ++ es, by simp, by simp, h1, VTL.snoc h2 hv⟩
theorem VTL.nil : VTL [] [] [] := by unfold VTL; exact ⟨rfl, rfl⟩
theorem VTL.len : ∀ {ks : List JV} {xs : List Value} {TE : List Ent}, VTL ks xs TE → xs.length = ks.length * 5
  | [], xs, TE, h => by unfold VTL at h; rw [h.1]; rfl
  | k :: ks, xs, TE, h => by
    rw [VTL] at h
    obtain ⟨c1, ys, E1, E2, rfl, rfl, h1, h2⟩ := h
    rw [List.length_append, h1.len, VTL.len h2, List.length_cons]
    omega
theorem VTL.one : ∀ {ks : List JV} {xs : List Value} {TE : List Ent}, VTL ks xs TE → ∀ u ∈ xs, u.oneCell' = true
  | [], xs, TE, h, u, hu => by unfold VTL at h; rw [h.1] at hu; cases hu
  | k :: ks, xs, TE, h, u, hu => by
    rw [VTL] at h
    obtain ⟨c1, ys, E1, E2, rfl, rfl, h1, h2⟩ := h
    rcases List.mem_append.1 hu with hu | hu
    · exact h1.one u hu
    · exact VTL.one h2 u hu
theorem rd_of_ent {w : World} {S : Nat → Prop} {A : Option Addr} {size n : Nat} {xs : List Value} (h : (Ent.rd A size n xs).holds w) (hS : ∀ b, (Ent.rd A size n xs).block = some b → S b) : Rd w S A size n xs :=
  ⟨h.1.len, h.1.some_, fun hn => by
    have hA := h.1.some_ hn
    refine hS _ ?_
    show A.map (·.block) = _
    rw [hA]; rfl, h.1.cell⟩
mutual
theorem VT.rd {w : World} {S : Nat → Prop} : ∀ (v : JV) {cs : List Value} {es : List Ent}, VT v cs es → (∀ e ∈ es, e.holds w ∧ ∀ b, e.block = some b → S b) → VRd w S v cs
  | .mk k n t ns ks, cs, es, h, hh => by
    rw [VT] at h
    obtain ⟨An, nn, cn, Ak, nk, ck, xs, TE, h1, h2, rfl, rfl, h3⟩ := h
    rw [VRd]
    exact ⟨An, nn, cn, Ak, nk, ck, xs, h1, h2, rfl, rd_of_ent (hh _ (by simp)).1 (hh _ (by simp)).2, rd_of_ent (hh (.rd Ak 5 nk xs) (by simp)).1 (hh (.rd Ak 5 nk xs) (by simp)).2, VTL.rd ks h3 fun e he => hh e (by simp [he])⟩
theorem VTL.rd {w : World} {S : Nat → Prop} : ∀ (vs : List JV) {xs : List Value} {TE : List Ent}, VTL vs xs TE → (∀ e ∈ TE, e.holds w ∧ ∀ b, e.block = some b → S b) → VRdL w S vs xs
  | [], xs, TE, h, _ => by rw [VTL] at h; rw [VRdL]; exact h.1
  | v :: vs, xs, TE, h, hh => by
    rw [VTL] at h
    obtain ⟨cs, ys, E1, E2, rfl, rfl, h1, h2⟩ := h
    rw [VRdL]
    exact ⟨cs, ys, rfl, VT.rd v h1 fun e he => hh e (by simp [he]), VTL.rd vs h2 fun e he => hh e (by simp [he])⟩
end
mutual
theorem VRd.keep {w w' : World} {S S' : Nat → Prop} (hS : ∀ k, S k → S' k) (hk : ∀ k, S k → w'.heap[k]? = w.heap[k]?) : ∀ (v : JV) {cs : List Value}, VRd w S v cs → VRd w' S' v cs
  | .mk k n t ns ks, cs, h => by
    rw [VRd] at h ⊢
    obtain ⟨An, nn, cn, Ak, nk, ck, xs, h1, h2, rfl, h3, h4, h5⟩ := h
    exact ⟨An, nn, cn, Ak, nk, ck, xs, h1, h2, rfl, (h3.same hk).mono hS, (h4.same hk).mono hS, VRdL.keep hS hk ks h5⟩
theorem VRdL.keep {w w' : World} {S S' : Nat → Prop} (hS : ∀ k, S k → S' k) (hk : ∀ k, S k → w'.heap[k]? = w.heap[k]?) : ∀ (vs : List JV) {xs : List Value}, VRdL w S vs xs → VRdL w' S' vs xs
  | [], xs, h => by rw [VRdL] at h ⊢; exact h
  | v :: vs, xs, h => by
    rw [VRdL] at h ⊢
    obtain ⟨cs, ys, rfl, h1, h2⟩ := h
    exact ⟨cs, ys, rfl, VRd.keep hS hk v h1, VRdL.keep hS hk vs h2⟩
end

section
variable {X : List Nat} {w0 w w' : World} {es es' : List Ent}
theorem apart_pairs {l : List Ent} : (∀ (i j : Nat) (e f : Ent), l[i]? = some e → l[j]? = some f → i ≠ j → e.apart f) ↔ l.Pairwise Ent.apart := by
  constructor
  · intro h
    rw [List.pairwise_iff_getElem]
    intro i j hi hj hij
    exact h i j _ _ (List.getElem?_eq_getElem hi) (List.getElem?_eq_getElem hj) (by omega)
  · intro h i j e f he hf hij
    rw [List.pairwise_iff_getElem] at h
    obtain ⟨hi, rfl⟩ := List.getElem?_eq_some_iff.1 he
    obtain ⟨hj, rfl⟩ := List.getElem?_eq_some_iff.1 hf
    rcases Nat.lt_or_gt_of_ne hij with h1 | h1
    · exact h i j hi hj h1
    · exact (h j i hj hi h1).symm
/-- The entries in another order; fewer of them. -/
theorem Fr.perm (h : Fr X w0 w es) (hp : es.Perm es') : Fr X w0 w es' :=
  ⟨h.os, h.tape, h.output, h.size, h.block, fun i e he => by
    obtain ⟨j, hj⟩ := List.mem_iff_getElem?.1 (hp.mem_iff.2 (List.mem_of_getElem? he))
    exact h.holds j e hj, fun i e he => by
    obtain ⟨j, hj⟩ := List.mem_iff_getElem?.1 (hp.mem_iff.2 (List.mem_of_getElem? he))
    exact h.fresh j e hj, apart_pairs.2 ((hp.pairwise_iff (fun h => h.symm)).1 (apart_pairs.1 h.apart))⟩
theorem Fr.sub (h : Fr X w0 w es) (hs : es'.Sublist es) : Fr X w0 w es' :=
  ⟨h.os, h.tape, h.output, h.size, h.block, fun i e he => by
    obtain ⟨j, hj⟩ := List.mem_iff_getElem?.1 (hs.subset (List.mem_of_getElem? he))
    exact h.holds j e hj, fun i e he => by
    obtain ⟨j, hj⟩ := List.mem_iff_getElem?.1 (hs.subset (List.mem_of_getElem? he))
    exact h.fresh j e hj, apart_pairs.2 ((apart_pairs.1 h.apart).sublist hs)⟩
/-- A callee that was handed the block, has changed it, and tells of more. -/
theorem Fr.putG {g : Nat} {t : TypeId} {cs cs' : List Value} (hF : Fr X w0 w es) {i : Nat} (hi : es[i]? = some (.blk g t cs)) (h : Fr [g] w w' (.blk g t cs' :: es')) : Fr X w0 w' (es.set i (.blk g t cs') ++ es') := by
  have hil : i < es.length := (List.getElem?_eq_some_iff.1 hi).1
  have key : ∀ (L : List Ent), Fr [g] w w' (.blk g t cs' :: L) → Fr X w0 w' (L ++ es.set i (.blk g t cs')) := by
    intro L
    induction L with
    | nil => intro h; exact hF.putF hi h
    | cons e L ih =>
      intro h
      refine (ih h.drop1).push (h.holds 1 e rfl) fun b hb => ?_
      have hwb : w.heap.size ≤ b := by
        rcases h.fresh 1 e rfl b hb with h1 | h1
        · exact h1
        · have hbg : b = g := by simpa using h1
          subst hbg
          rcases h.apart 0 1 _ _ rfl rfl (by omega) with h2 | h2
          · cases h2
          · exact absurd hb.symm h2
      refine ⟨.inl (Nat.le_trans hF.size hwb), fun j f hj he => ?_⟩
      rw [List.getElem?_append] at hj
      split at hj
      · rcases h.apart 1 (j + 2) e f rfl hj (by omega) with h2 | h2
        · rw [h2] at hb; cases hb
        · exact h2 (hb.trans he.symm)
      · rcases set_mem (List.mem_of_getElem? hj) with rfl | hm
        · injection he with he
          have := hF.lt hi
          omega
        · obtain ⟨q, hq⟩ := List.mem_iff_getElem?.1 hm
          have := Ent.lt (hF.holds q f hq) he
          omega
  exact (key es' h).perm List.perm_append_comm
theorem grown_refl (w : World) (r : Option Nat) : w.grownBy w r := ⟨rfl, rfl, rfl, Nat.le_refl _, fun _ _ _ => rfl⟩
/-- A slice that is not written any more. -/
theorem Fr.toRd (hF : Fr X w0 w es) {i b : Nat} {e : TypeId} {size n m c : Nat} {A : Option Addr} {xs : List Value} (hi : es[i]? = some (.own b e size (.slice A n c) m xs)) : Fr X w0 w (es.set i (.rd A size n xs)) := by
  have hbl : (Ent.rd A size n xs).block = (Ent.own b e size (.slice A n c) m xs).block := by
    cases A <;> rfl
  refine hF.put hi (grown_refl w _) ⟨hF.rdOwn hi, fun a ha => ?_⟩ (.inl hbl)
  refine Ent.lt (hF.holds i _ hi) (b := a.block) ?_
  rw [← hbl, ha]; rfl
theorem Fr.pushNone (hF : Fr X w0 w es) (size : Nat) : Fr X w0 w (.rd none size 0 [] :: es) :=
  hF.push ⟨⟨by simp, fun h => absurd h (by omega), fun h => absurd h (by omega), fun j u hu => by simp at hu⟩, fun a ha => by cases ha⟩ fun b hb => by cases hb
section
variable {P : Program} {o : Oper} {a : Act} {K : Act → World → Prop} {Q : Exit → Act → World → Prop}
/-- The last element of a slice that the call owns is stored, of several cells. -/
theorem wp_fstO (hF : Fr X w0 w es) {i b : Nat} {e e' : TypeId} {size n c : Nat} {A : Option Addr} {xs zs ds : List Value} (hi : es[i]? = some (.own b e size (.slice A (n + 1) c) (n + 1) (xs ++ zs))) (hx : xs.length = n * size)
    (ho : IsSt o a e' (atp A (n * size)) (.agg ds.toArray)) (hs : (P.info? e').map (·.size) = some size) (hd : ds.length = size) (h1 : ∀ u ∈ ds, u.oneCell' = true)
    (k : ∀ w', Fr X w0 w' (es.set i (.own b e size (.slice A (n + 1) c) (n + 1) (xs ++ ds))) → w'.heap.size = w.heap.size → K (a.put o.dst undef) w') : o.wp P a w K Q := by
  have hown : w.ownsRow b e size (.slice A (n + 1) c) (n + 1) (xs ++ zs) := hF.holds i _ hi
  rcases hown.2 with ⟨hv, _⟩ | ⟨g, cap, cur, hv, hbg, hg, hnc, hcm, hcs, htake⟩
  · injection hv with _ h2; omega
  · injection hv with hA hn hc
    subst hA hc
    have hmul : (n + 1) * size ≤ c * size := Nat.mul_le_mul_right _ hnc
    rw [Nat.add_mul, Nat.one_mul] at hmul htake
    have hcl : cur.toList.length = c * size := by rw [Array.length_toList]; exact hcs
    have hl : n * size + ds.length ≤ cur.toList.length := by rw [hcl, hd]; exact hmul
    have hat : atp (some ⟨g, 0, none⟩) (n * size) = ⟨g, n * size, none⟩ := by
      unfold atp Addr.add
      by_cases hj : n * size = 0 <;> simp [hj]
    have hrun := run_storeCells_at P g (n * size) e ds 0 cur w hg (by simpa using hl) h1
    rw [hat] at ho
    obtain ⟨x, y, ho, hxx, hy⟩ := ho
    obtain ⟨j, hj, hsz⟩ := Option.map_eq_some_iff.1 hs
    have hx' : cur.toList.take (n * size) = xs := by
      have := congrArg (List.take (n * size)) htake
      rw [List.take_take, Nat.min_eq_left (by omega), ← hx, List.take_left] at this
      rw [← hx]; exact this
    have hF' : Fr X w0 (w.setRow g (spl cur.toList (n * size) ds).toArray) (es.set i (.own b e size (.slice (some ⟨g, 0, none⟩) (n + 1) c) (n + 1) (xs ++ ds))) := by
      refine hF.put hi (setRow_grown w g _) ⟨?_, .inr ⟨g, c, (spl cur.toList (n * size) ds).toArray, rfl, hbg, setRow_heap w g _ _ e _ hg, hnc, hcm, ?_, ?_⟩⟩ (.inl rfl)
      · rw [List.length_append, hx, hd, Nat.add_mul, Nat.one_mul]
      · rw [List.size_toArray, spl_length hl, hcl]
      · show ((spl cur.toList (n * size) ds).toArray).toList.take ((n + 1) * size) = xs ++ ds
        rw [List.toList_toArray, Nat.add_mul, Nat.one_mul]
        unfold spl
        rw [hx', List.take_append_of_le_length (by rw [List.length_append, hx, hd]; exact Nat.le_refl _), List.take_of_length_le (by rw [List.length_append, hx, hd]; exact Nat.le_refl _)]
    unfold Oper.wp execOp
    simp only [ho, hxx, hy, Instr.storeAt, Instr.sureAddr, storeVar, Sem.run_bind, Sem.run_pure, Result.andThen_ok]
    have hrun' : (storeCells ⟨g, n * size, none⟩ ds).run P w = .ok () (w.setRow g (spl cur.toList (n * size) ds).toArray) := by simpa [spl] using hrun
    have hsz' : j.size = ds.length := by rw [hsz, hd]
    simp [sizeOf, typeInfo, hj, hsz', Value.cells, hrun']
    exact k _ hF' (by simp)
end
end
end Go.Proofs.YtdekogmegdhjoaaDoor
