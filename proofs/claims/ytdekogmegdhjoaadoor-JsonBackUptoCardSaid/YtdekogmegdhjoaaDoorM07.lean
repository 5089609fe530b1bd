/-
  Layer 6: values on the heap. No program is named here.
  Layer 6: the walk of the program's reader of a member's name.
  Layer 6 in plain words: how far values go.
-/
import Derived.Test.YtdekogmegdhjoaaDoorM06
import Derived.Test.YtdekogmegdhjoaaDoorM03
namespace Go.Proofs.YtdekogmegdhjoaaDoor
open Go.RowKit

def strv (s : List UInt8) : Value := .string ⟨s.toArray⟩
theorem strv_one (l : List (List UInt8)) : ∀ u ∈ l.map strv, u.oneCell' = true := by
  intro u hu
  obtain ⟨s, _, rfl⟩ := List.mem_map.1 hu
  rfl
mutual
/-- A value's cells, and what is known of the blocks that they lead to. -/
def VT : JV → List Value → List Ent → Prop
  | .mk k n t ns ks, cs, es => ∃ (An : Option Addr) (nn cn : Nat) (Ak : Option Addr) (nk ck : Nat) (xs : List Value) (TE : List Ent), nn ≤ cn ∧ nk ≤ ck ∧
      cs = vlL k n ⟨t.toArray⟩ (.slice An nn cn) (.slice Ak nk ck) ∧ es = .rd An 1 nn (ns.map strv) :: .rd Ak 5 nk xs :: TE ∧ VTL ks xs TE
/-- .. of several values, one behind the other. -/
def VTL : List JV → List Value → List Ent → Prop
  | [], xs, TE => xs = [] ∧ TE = []
  | v :: vs, xs, TE => ∃ (cs ys : List Value) (E1 E2 : List Ent), xs = cs ++ ys ∧ TE = E1 ++ E2 ∧ VT v cs E1 ∧ VTL vs ys E2
end
mutual
/-- A value reads as its cells, in blocks of which S holds. -/
def VRd (w : World) (S : Nat → Prop) : JV → List Value → Prop
  | .mk k n t ns ks, cs => ∃ (An : Option Addr) (nn cn : Nat) (Ak : Option Addr) (nk ck : Nat) (xs : List Value), nn ≤ cn ∧ nk ≤ ck ∧
      cs = vlL k n ⟨t.toArray⟩ (.slice An nn cn) (.slice Ak nk ck) ∧ Rd w S An 1 nn (ns.map strv) ∧ Rd w S Ak 5 nk xs ∧ VRdL w S ks xs
def VRdL (w : World) (S : Nat → Prop) : List JV → List Value → Prop
  | [], xs => xs = []
  | v :: vs, xs => ∃ (cs ys : List Value), xs = cs ++ ys ∧ VRd w S v cs ∧ VRdL w S vs ys
end
theorem VT.mk_ {k n : Int} {t : List UInt8} {ns : List (List UInt8)} {ks : List JV} {An Ak : Option Addr} {nn cn nk ck : Nat} {xs : List Value} {TE : List Ent} (h1 : nn ≤ cn) (h2 : nk ≤ ck) (h : VTL ks xs TE) :
    VT (.mk k n t ns ks) (vlL k n ⟨t.toArray⟩ (.slice An nn cn) (.slice Ak nk ck)) (.rd An 1 nn (ns.map strv) :: .rd Ak 5 nk xs :: TE) := by
  unfold VT
  exact ⟨_, _, _, _, _, _, _, _, h1, h2, rfl, rfl, h⟩
theorem VT.leaf {k n : Int} {t : List UInt8} : VT (.mk k n t [] []) (vlL k n ⟨t.toArray⟩ (.slice none 0 0) (.slice none 0 0)) [.rd none 1 0 [], .rd none 5 0 []] :=
  VT.mk_ (Nat.le_refl _) (Nat.le_refl _) (by unfold VTL; exact ⟨rfl, rfl⟩)
theorem VT.len {v : JV} {cs : List Value} {es : List Ent} (h : VT v cs es) : cs.length = 5 := by
  cases v
  unfold VT at h
  obtain ⟨_, _, _, _, _, _, _, _, _, _, rfl, _⟩ := h
  rfl
theorem VT.one {v : JV} {cs : List Value} {es : List Ent} (h : VT v cs es) : ∀ u ∈ cs, u.oneCell' = true := by
  cases v
  unfold VT at h
  obtain ⟨_, _, _, _, _, _, _, _, _, _, rfl, _⟩ := h
  exact vlL_one
theorem VTL.snoc : ∀ {ks : List JV} {v : JV} {xs cs : List Value} {TE es : List Ent}, VTL ks xs TE → VT v cs es → VTL (ks ++ [v]) (xs ++ cs) (TE ++ es)
  | [], v, xs, cs, TE, es, h, hv => by
    unfold VTL at h
    obtain ⟨rfl, rfl⟩ := h
    rw [List.nil_append, List.nil_append, List.nil_append, VTL]
    exact ⟨cs, [], es, [], by simp, by simp, hv, by unfold VTL; exact ⟨rfl, rfl⟩⟩
  | k :: ks, v, xs, cs, TE, es, h, hv => by
    rw [VTL] at h
    obtain ⟨c1, ys, E1, E2, rfl, rfl, h1, h2⟩ := h
    rw [List.cons_append, VTL]
    exact ⟨c1, ys ++ cs, E1, E2 ++ es, by simp, by simp, h1, VTL.snoc h2 hv⟩
theorem VTL.nil : VTL [] [] [] := by unfold VTL; exact ⟨rfl, rfl⟩
theorem VTL.len : ∀ {ks : List JV} {xs : List Value} {TE : List Ent}, VTL ks xs TE → xs.length = ks.length * 5
  | [], xs, TE, h => by unfold VTL at h; rw [h.1]; rfl
  | k :: ks, xs, TE, h => by
    rw [VTL] at h
    obtain ⟨c1, ys, E1, E2, rfl, rfl, h1, h2⟩ := h
    rw [List.length_append, h1.len, VTL.len h2, List.length_cons]
    omega
theorem VTL.one : ∀ {ks : List JV} {xs : List Value} {TE : List Ent}, VTL ks xs TE → ∀ u ∈ xs, u.oneCell' = true
  | [], xs, TE, h, u, hu => by unfold VTL at h; rw [h.1] at hu; cases hu
  | k :: ks, xs, TE, h, u, hu => by
    rw [VTL] at h
    obtain ⟨c1, ys, E1, E2, rfl, rfl, h1, h2⟩ := h
    rcases List.mem_append.1 hu with hu | hu
    · exact h1.one u hu
    · exact VTL.one h2 u hu
theorem rd_of_ent {w : World} {S : Nat → Prop} {A : Option Addr} {size n : Nat} {xs : List Value} (h : (Ent.rd A size n xs).holds w) (hS : ∀ b, (Ent.rd A size n xs).block = some b → S b) : Rd w S A size n xs :=
  ⟨h.1.len, h.1.some_, fun hn => by
    have hA := h.1.some_ hn
    refine hS _ ?_
    show A.map (·.block) = _
    rw [hA]; rfl, h.1.cell⟩
mutual
theorem VT.rd {w : World} {S : Nat → Prop} : ∀ (v : JV) {cs : List Value} {es : List Ent}, VT v cs es → (∀ e ∈ es, e.holds w ∧ ∀ b, e.block = some b → S b) → VRd w S v cs
  | .mk k n t ns ks, cs, es, h, hh => by
    rw [VT] at h
    obtain ⟨An, nn, cn, Ak, nk, ck, xs, TE, h1, h2, rfl, rfl, h3⟩ := h
    rw [VRd]
    exact ⟨An, nn, cn, Ak, nk, ck, xs, h1, h2, rfl, rd_of_ent (hh _ (by simp)).1 (hh _ (by simp)).2, rd_of_ent (hh (.rd Ak 5 nk xs) (by simp)).1 (hh (.rd Ak 5 nk xs) (by simp)).2, VTL.rd ks h3 fun e he => hh e (by simp [he])⟩
theorem VTL.rd {w : World} {S : Nat → Prop} : ∀ (vs : List JV) {xs : List Value} {TE : List Ent}, VTL vs xs TE → (∀ e ∈ TE, e.holds w ∧ ∀ b, e.block = some b → S b) → VRdL w S vs xs
  | [], xs, TE, h, _ => by rw [VTL] at h; rw [VRdL]; exact h.1
  | v :: vs, xs, TE, h, hh => by
    rw [VTL] at h
    obtain ⟨cs, ys, E1, E2, rfl, rfl, h1, h2⟩ := h
    rw [VRdL]
    exact ⟨cs, ys, rfl, VT.rd v h1 fun e he => hh e (by simp [he]), VTL.rd vs h2 fun e he => hh e (by simp [he])⟩
end
mutual
theorem VRd.keep {w w' : World} {S S' : Nat → Prop} (hS : ∀ k, S k → S' k) (hk : ∀ k, S k → w'.heap[k]? = w.heap[k]?) : ∀ (v : JV) {cs : List Value}, VRd w S v cs → VRd w' S' v cs
  | .mk k n t ns ks, cs, h => by
    rw [VRd] at h ⊢
    obtain ⟨An, nn, cn, Ak, nk, ck, xs, h1, h2, rfl, h3, h4, h5⟩ := h
    exact ⟨An, nn, cn, Ak, nk, ck, xs, h1, h2, rfl, (h3.same hk).mono hS, (h4.same hk).mono hS, VRdL.keep hS hk ks h5⟩
theorem VRdL.keep {w w' : World} {S S' : Nat → Prop} (hS : ∀ k, S k → S' k) (hk : ∀ k, S k → w'.heap[k]? = w.heap[k]?) : ∀ (vs : List JV) {xs : List Value}, VRdL w S vs xs → VRdL w' S' vs xs
  | [], xs, h => by rw [VRdL] at h ⊢; exact h
  | v :: vs, xs, h => by
    rw [VRdL] at h ⊢
    obtain ⟨cs, ys, rfl, h1, h2⟩ := h
    exact ⟨cs, ys, rfl, VRd.keep hS hk v h1, VRdL.keep hS hk vs h2⟩
end

section
variable {X : List Nat} {w0 w w' : World} {es es' : List Ent}
theorem apart_pairs {l : List Ent} : (∀ (i j : Nat) (e f : Ent), l[i]? = some e → l[j]? = some f → i ≠ j → e.apart f) ↔ l.Pairwise Ent.apart := by
  constructor
  · intro h
    rw [List.pairwise_iff_getElem]
    intro i j hi hj hij
    exact h i j _ _ (List.getElem?_eq_getElem hi) (List.getElem?_eq_getElem hj) (by omega)
  · intro h i j e f he hf hij
    rw [List.pairwise_iff_getElem] at h
    obtain ⟨hi, rfl⟩ := List.getElem?_eq_some_iff.1 he
    obtain ⟨hj, rfl⟩ := List.getElem?_eq_some_iff.1 hf
    rcases Nat.lt_or_gt_of_ne hij with h1 | h1
    · exact h i j hi hj h1
    · exact (h j i hj hi h1).symm
/-- The entries in another order; fewer of them. -/
theorem Fr.perm (h : Fr X w0 w es) (hp : es.Perm es') : Fr X w0 w es' :=
  ⟨h.os, h.tape, h.output, h.size, h.block, fun i e he => by
    obtain ⟨j, hj⟩ := List.mem_iff_getElem?.1 (hp.mem_iff.2 (List.mem_of_getElem? he))
    exact h.holds j e hj, fun i e he => by
    obtain ⟨j, hj⟩ := List.mem_iff_getElem?.1 (hp.mem_iff.2 (List.mem_of_getElem? he))
    exact h.fresh j e hj, apart_pairs.2 ((hp.pairwise_iff (fun h => h.symm)).1 (apart_pairs.1 h.apart))⟩
theorem Fr.sub (h : Fr X w0 w es) (hs : es'.Sublist es) : Fr X w0 w es' :=
  ⟨h.os, h.tape, h.output, h.size, h.block, fun i e he => by
    obtain ⟨j, hj⟩ := List.mem_iff_getElem?.1 (hs.subset (List.mem_of_getElem? he))
    exact h.holds j e hj, fun i e he => by
    obtain ⟨j, hj⟩ := List.mem_iff_getElem?.1 (hs.subset (List.mem_of_getElem? he))
    exact h.fresh j e hj, apart_pairs.2 ((apart_pairs.1 h.apart).sublist hs)⟩
/-- A callee that was handed the block, has changed it, and tells of more. -/
theorem Fr.putG {g : Nat} {t : TypeId} {cs cs' : List Value} (hF : Fr X w0 w es) {i : Nat} (hi : es[i]? = some (.blk g t cs)) (h : Fr [g] w w' (.blk g t cs' :: es')) : Fr X w0 w' (es.set i (.blk g t cs') ++ es') := by
  have hil : i < es.length := (List.getElem?_eq_some_iff.1 hi).1
  have key : ∀ (L : List Ent), Fr [g] w w' (.blk g t cs' :: L) → Fr X w0 w' (L ++ es.set i (.blk g t cs')) := by
    intro L
    induction L with
    | nil => intro h; exact hF.putF hi h
    | cons e L ih =>
      intro h
      refine (ih h.drop1).push (h.holds 1 e rfl) fun b hb => ?_
      have hwb : w.heap.size ≤ b := by
        rcases h.fresh 1 e rfl b hb with h1 | h1
        · exact h1
        · have hbg : b = g := by simpa using h1
          subst hbg
          rcases h.apart 0 1 _ _ rfl rfl (by omega) with h2 | h2
          · cases h2
          · exact absurd hb.symm h2
      refine ⟨.inl (Nat.le_trans hF.size hwb), fun j f hj he => ?_⟩
      rw [List.getElem?_append] at hj
      split at hj
      · rcases h.apart 1 (j + 2) e f rfl hj (by omega) with h2 | h2
        · rw [h2] at hb; cases hb
        · exact h2 (hb.trans he.symm)
      · rcases set_mem (List.mem_of_getElem? hj) with rfl | hm
        · injection he with he
          have := hF.lt hi
          omega
        · obtain ⟨q, hq⟩ := List.mem_iff_getElem?.1 hm
          have := Ent.lt (hF.holds q f hq) he
          omega
  exact (key es' h).perm List.perm_append_comm
theorem grown_refl (w : World) (r : Option Nat) : w.grownBy w r := ⟨rfl, rfl, rfl, Nat.le_refl _, fun _ _ _ => rfl⟩
/-- A slice that is not written any more. -/
theorem Fr.toRd (hF : Fr X w0 w es) {i b : Nat} {e : TypeId} {size n m c : Nat} {A : Option Addr} {xs : List Value} (hi : es[i]? = some (.own b e size (.slice A n c) m xs)) : Fr X w0 w (es.set i (.rd A size n xs)) := by
  have hbl : (Ent.rd A size n xs).block = (Ent.own b e size (.slice A n c) m xs).block := by
    cases A <;> rfl
  refine hF.put hi (grown_refl w _) ⟨hF.rdOwn hi, fun a ha => ?_⟩ (.inl hbl)
  refine Ent.lt (hF.holds i _ hi) (b := a.block) ?_
  rw [← hbl, ha]; rfl
theorem Fr.pushNone (hF : Fr X w0 w es) (size : Nat) : Fr X w0 w (.rd none size 0 [] :: es) :=
  hF.push ⟨⟨by simp, fun h => absurd h (by omega), fun h => absurd h (by omega), fun j u hu => by simp at hu⟩, fun a ha => by cases ha⟩ fun b hb => by cases hb
section
variable {P : Program} {o : Oper} {a : Act} {K : Act → World → Prop} {Q : Exit → Act → World → Prop}
/-- The last element of a slice that the call owns is stored, of several cells. -/
theorem wp_fstO (hF : Fr X w0 w es) {i b : Nat} {e e' : TypeId} {size n c : Nat} {A : Option Addr} {xs zs ds : List Value} (hi : es[i]? = some (.own b e size (.slice A (n + 1) c) (n + 1) (xs ++ zs))) (hx : xs.length = n * size)
    (ho : IsSt o a e' (atp A (n * size)) (.agg ds.toArray)) (hs : (P.info? e').map (·.size) = some size) (hd : ds.length = size) (h1 : ∀ u ∈ ds, u.oneCell' = true)
    (k : ∀ w', Fr X w0 w' (es.set i (.own b e size (.slice A (n + 1) c) (n + 1) (xs ++ ds))) → w'.heap.size = w.heap.size → K (a.put o.dst undef) w') : o.wp P a w K Q := by
  have hown : w.ownsRow b e size (.slice A (n + 1) c) (n + 1) (xs ++ zs) := hF.holds i _ hi
  rcases hown.2 with ⟨hv, _⟩ | ⟨g, cap, cur, hv, hbg, hg, hnc, hcm, hcs, htake⟩
  · injection hv with _ h2; omega
  · injection hv with hA hn hc
    subst hA hc
    have hmul : (n + 1) * size ≤ c * size := Nat.mul_le_mul_right _ hnc
    rw [Nat.add_mul, Nat.one_mul] at hmul htake
    have hcl : cur.toList.length = c * size := by rw [Array.length_toList]; exact hcs
    have hl : n * size + ds.length ≤ cur.toList.length := by rw [hcl, hd]; exact hmul
    have hat : atp (some ⟨g, 0, none⟩) (n * size) = ⟨g, n * size, none⟩ := by
      unfold atp Addr.add
      by_cases hj : n * size = 0 <;> simp [hj]
    have hrun := run_storeCells_at P g (n * size) e ds 0 cur w hg (by simpa using hl) h1
    rw [hat] at ho
    obtain ⟨x, y, ho, hxx, hy⟩ := ho
    obtain ⟨j, hj, hsz⟩ := Option.map_eq_some_iff.1 hs
    have hx' : cur.toList.take (n * size) = xs := by
      have := congrArg (List.take (n * size)) htake
      rw [List.take_take, Nat.min_eq_left (by omega), ← hx, List.take_left] at this
      rw [← hx]; exact this
    have hF' : Fr X w0 (w.setRow g (spl cur.toList (n * size) ds).toArray) (es.set i (.own b e size (.slice (some ⟨g, 0, none⟩) (n + 1) c) (n + 1) (xs ++ ds))) := by
      refine hF.put hi (setRow_grown w g _) ⟨?_, .inr ⟨g, c, (spl cur.toList (n * size) ds).toArray, rfl, hbg, setRow_heap w g _ _ e _ hg, hnc, hcm, ?_, ?_⟩⟩ (.inl rfl)
      · rw [List.length_append, hx, hd, Nat.add_mul, Nat.one_mul]
      · rw [List.size_toArray, spl_length hl, hcl]
      · show ((spl cur.toList (n * size) ds).toArray).toList.take ((n + 1) * size) = xs ++ ds
        rw [List.toList_toArray, Nat.add_mul, Nat.one_mul]
        unfold spl
        rw [hx', List.take_append_of_le_length (by rw [List.length_append, hx, hd]; exact Nat.le_refl _), List.take_of_length_le (by rw [List.length_append, hx, hd]; exact Nat.le_refl _)]
    unfold Oper.wp execOp
    simp only [ho, hxx, hy, Instr.storeAt, Instr.sureAddr, storeVar, Sem.run_bind, Sem.run_pure, Result.andThen_ok]
    have hrun' : (storeCells ⟨g, n * size, none⟩ ds).run P w = .ok () (w.setRow g (spl cur.toList (n * size) ds).toArray) := by simpa [spl] using hrun
    have hsz' : j.size = ds.length := by rw [hsz, hd]
    simp [sizeOf, typeInfo, hj, hsz', Value.cells, hrun']
    exact k _ hF' (by simp)
end
end
end Go.Proofs.YtdekogmegdhjoaaDoor

namespace Go.Proofs.YtdekogmegdhjoaaDoor
open Go.RowKit
set_option linter.unusedSimpArgs false

theorem T_strs : SlT Tryd.prog 24 9 1 16 (.string ByteArray.empty) := ⟨Tryd.underlying24, by kernel_rfl, rfl, by decide⟩
theorem jTextL_len {b : List UInt8} : ∀ {f p : Nat} {out s : List UInt8} {q : Nat}, jTextL b f p out = .ok (s, q) → p < q ∧ q ≤ b.length
  | 0, p, out, s, q, h => by cases h
  | f + 1, p, out, s, q, h => by
    unfold jTextL at h
    cases hx : b[p]? with
    | none => rw [hx] at h; cases h
    | some c =>
      have hp := (List.getElem?_eq_some_iff.1 hx).1
      rw [hx] at h
      simp only [] at h
      split at h
      · obtain ⟨_, rfl⟩ := ok_pair h
        omega
      · split at h
        · cases he : jEscape b p with
          | error x => rw [he] at h; cases h
          | ok r =>
            obtain ⟨e, q1⟩ := r
            rw [he] at h
            have h1 := jEscape_len he
            have h2 := jTextL_len h
            omega
        · split at h
          · cases h
          · split at h
            · cases h
            · have h2 := jTextL_len h
              omega
theorem jText_len {b : List UInt8} {p q : Nat} {s : List UInt8} (h : jText b p = .ok (s, q)) : p + 1 < q ∧ q ≤ b.length := by
  unfold jText at h
  cases hw : jWord b [34] p with
  | error x => rw [hw] at h; cases h
  | ok q1 =>
    rw [hw] at h
    have h1 := (jWord_le hw).1
    have h2 := jTextL_len h
    simp at h1
    omega
theorem jName_len {b : List UInt8} {p q : Nat} {ns : List (List UInt8)} {s : List UInt8} (h : jName b ns p = .ok (s, q)) : p + 1 < q ∧ q ≤ b.length := by
  unfold jName at h
  cases hT : jText b p with
  | error x => rw [hT] at h; cases h
  | ok r =>
    obtain ⟨s1, q1⟩ := r
    rw [hT] at h
    have h1 := jText_len hT
    simp only [] at h
    split at h
    · cases h
    · cases hw : jWord b [58] (jBlanks b q1) with
      | error x => rw [hw] at h; cases h
      | ok r =>
        rw [hw] at h
        obtain ⟨_, rfl⟩ := ok_pair h
        have h2 := jWord_le hw
        have h3 := jBlanks_ge b q1
        have h4 := jBlanks_ge b r
        have h5 := jBlanks_le b (p := r) (h2.2.resolve_left (by simp))
        simp at h2
        omega
theorem strs_one1 (x : ByteArray) : ∀ u ∈ [Value.string x], u.oneCell' = true := by
  intro u hu
  rw [List.mem_singleton.1 hu]; rfl
theorem vlL_3 {k n : Int} {t : ByteArray} {a b a' : Value} : spl (vlL k n t a b) 3 [a'] = vlL k n t a' b := rfl
theorem vlL_4 {k n : Int} {t : ByteArray} {a b b' : Value} : spl (vlL k n t a b) 4 [b'] = vlL k n t a b' := rfl
/-- A name is told: it stands behind the others. -/
def ToldNm (w0 : World) (g gv : Nat) (A : Option Addr) (n c m : Nat) (names : List (List UInt8)) (kv : Value) (rest : List Ent) (x : List UInt8 × Nat) (e : Ending) (w' : World) : Prop :=
  ∃ An cn, e = .returned (.tuple #[]) ∧ names.length + 1 ≤ cn ∧ Fr [g] w0 w' (.own w0.heap.size 9 1 (.slice An (names.length + 1) cn) (names.length + 1) ((names ++ [x.1]).map strv) :: .blk gv 27 (vlL 6 0 ⟨#[]⟩ (.slice An (names.length + 1) cn) kv) :: .blk g 63 (rdrL A n c x.2 m) :: rest)

set_option maxRecDepth 20000 in
set_option maxHeartbeats 6400000 in
theorem name_any (w0 w : World) (g gv : Nat) (A : Option Addr) (n c p m B : Nat) (b : List UInt8) (names : List (List UInt8)) (An : Option Addr) (nn cn : Nat) (kv : Value) (rest : List Ent) (hL : LibsAt B w0) (hg : B ≤ g) (hB : B ≤ w0.heap.size) (hn : n ≤ 65536) (hnc : n ≤ c) (hp : p ≤ n) (hr : Rd w0 (· < B) A 1 n (b.map bv)) (hnn : nn ≤ 65536) (hnl : names.length = nn) (hcn : nn ≤ cn)
    (hF : Fr [g] w0 w (.own w0.heap.size 9 1 (.slice An nn cn) nn (names.map strv) :: .blk gv 27 (vlL 6 0 ⟨#[]⟩ (.slice An nn cn) kv) :: .blk g 63 (rdrL A n c p m) :: rest)) :
    Calls Tryd.prog 57 #[.pointer (some ⟨g, 0, none⟩), .pointer (some ⟨gv, 0, none⟩)] w (JEndP w0 g (jName b names p) (ToldNm w0 g gv A n c m names kv rest)) := by
  have hl := box hr.bytes_len
  replace hnl := box hnl
  have htx := box (text_any g A n c p m B b w (hL.on (hF.belowG hg hB)) (hF.blk (i := 2) rfl) hg (Nat.le_trans hB hF.size) hn hnc hp (hF.rdB hg hB hr))
  cases hT : jText b p with
  | error z =>
    have hj : Box (jName b names p = .error z) := box (by unfold jName; rw [hT])
    rw [hT] at htx
    unfold JEndP at htx
    simp only [] at htx
    clear hT
    go_enter Tryd.func57, Tryd.ntmps57
    go_wp2_with (first | (with_reducible refine lst (by with_unfolding_all rfl) (wp_fld2 hF Tryd.underlying3 rfl (by with_unfolding_all exact ⟨_, rfl, rfl⟩) rfl ?_)))
    refine htx.out.mono ?_
    rintro e w1 ⟨rfl, hg1⟩
    dsimp only [flt]
    go_wp2
    exact ⟨rfl, by unfold JEndP; rw [hj.out]; exact ⟨rfl, grown_trans hF.grown hg1⟩⟩
  | ok r =>
    obtain ⟨s, q⟩ := r
    have hlen := jText_len hT
    rw [hl.out] at hlen
    have hpq := hlen.1
    have hqn := hlen.2
    clear hlen
    rw [hT] at htx
    unfold JEndP ToldS at htx
    simp only [] at htx
    have hjm : Box (s ∈ names → jName b names p = .error (p, 7)) := box (fun h => by unfold jName; rw [hT]; simp only []; rw [if_pos h])
    have hjn : Box (s ∉ names → jName b names p = match jWord b [58] (jBlanks b q) with
      | .error x => .error x
      | .ok r => .ok (s, jBlanks b r)) := box (fun h => by unfold jName; rw [hT]; simp only []; rw [if_neg h]; cases jWord b [58] (jBlanks b q) <;> rfl)
    clear hT
    go_enter Tryd.func57, Tryd.ntmps57
    go_wp2_with (first | (with_reducible refine lst (by with_unfolding_all rfl) (wp_fld2 hF Tryd.underlying3 rfl (by with_unfolding_all exact ⟨_, rfl, rfl⟩) rfl ?_)))
    refine htx.out.mono ?_
    rintro e w1 ⟨rfl, h1⟩
    have hF1 := hF.putF (i := 2) rfl h1
    simp only [List.set_cons_succ, List.set_cons_zero] at hF1
    clear htx h1 hF
    go_wp2_with (first | (with_reducible refine lst (by with_unfolding_all rfl) (wp_fld1 hF1 Tryd.underlying24 rfl (by with_unfolding_all exact ⟨_, rfl, rfl⟩) rfl ?_)))
    go_loopg [19] nn (fun k i wr => ∃ j, j ≤ nn ∧ Box (k = nn - j) ∧ i = .int .i64 (j : Int) ∧ Box (∀ t ∈ names.take j, s ≠ t) ∧ wr = w1)
    case atStart => exact ⟨0, by omega, box rfl, rfl, box (by simp), rfl⟩
    case round =>
      obtain ⟨j, hj, hk, rfl, hno, rfl⟩ := hrel
      have hro := hF1.rdOwn (i := 0) rfl
      by_cases hlt : j < nn
      · obtain ⟨t, ht⟩ : ∃ t, names[j]? = some t := ⟨names[j]'(by rw [hnl.out]; exact hlt), by simp⟩
        have hts : Box ((names.map strv)[j]? = some (.string ⟨t.toArray⟩)) := box (by rw [List.getElem?_map, ht]; rfl)
        have htk : names.take (j + 1) = names.take j ++ [t] := by rw [List.take_add_one, ht]; rfl
        by_cases hst : s = t
        · have hend := box (hjm.out (by rw [hst]; exact List.mem_of_getElem? ht))
          have hfl := box (fun v w => fail_any v p 7 w)
          subst hst
          clear ht htk
          go_wp2_with (first | (with_reducible refine lst (by with_unfolding_all rfl) (wp_indexAddr T_strs hro (by with_unfolding_all exact ⟨_, _, _, _, rfl, rfl, rfl⟩) (by omega) (by omega) ?_)) | (with_reducible refine lst (by with_unfolding_all rfl) (wp_load1C hro hts Tryd.underlying9 rfl (by with_unfolding_all exact ⟨_, rfl, rfl⟩) (by first | (simp; done) | (simp; omega) | omega) ?_)))
          refine (hfl.out _ _).mono ?_
          rintro e w2 ⟨rfl, rfl⟩
          dsimp only [flt]
          go_wp2
          exact ⟨rfl, by unfold JEndP; rw [hend.out]; exact ⟨rfl, hF1.grown⟩⟩
        · have hno2 : Box (∀ t ∈ names.take (j + 1), s ≠ t) := box (fun u hu => by
            rw [htk] at hu
            rcases List.mem_append.1 hu with hu | hu
            · exact hno.out u hu
            · rw [List.mem_singleton.1 hu]; exact hst)
          have hst2 : (s == t) = false := by rw [beq_eq_false_iff_ne]; exact hst
          replace hst := box hst
          clear ht htk
          go_wp2_with (first | (with_reducible refine lst (by with_unfolding_all rfl) (wp_indexAddr T_strs hro (by with_unfolding_all exact ⟨_, _, _, _, rfl, rfl, rfl⟩) (by omega) (by omega) ?_)) | (with_reducible refine lst (by with_unfolding_all rfl) (wp_load1C hro hts Tryd.underlying9 rfl (by with_unfolding_all exact ⟨_, rfl, rfl⟩) (by first | (simp; done) | (simp; omega) | omega) ?_)))
          go_roundg (nn - (j + 1))
          case rel => exact ⟨j + 1, by omega, box rfl, by go_num, hno2, rfl⟩
          case measure => have := hk.out; omega
      · have hns : s ∉ names := fun hm => by
          obtain rfl : j = nn := by omega
          have h2 := hno.out s
          rw [List.take_of_length_le (by rw [hnl.out]; exact Nat.le_refl _)] at h2
          exact h2 hm rfl
        have hjn2 := box (hjn.out hns)
        clear hns hjn hjm hno hk
        go_wp2_with (first | (with_reducible refine lst (by with_unfolding_all rfl) (wp_fld1 hF1 Tryd.underlying24 rfl (by with_unfolding_all exact ⟨_, rfl, rfl⟩) rfl ?_)) | ((with_reducible refine lst (by with_unfolding_all rfl) (wp_fbsl T_strs hF1 (vs := [.string ⟨s.toArray⟩]) (by with_unfolding_all rfl) (by with_unfolding_all rfl) (by with_unfolding_all rfl) (by decide) (by simp [Value.cells]) ?_)); intro w3 g3 hF3 hz3) | ((with_reducible refine lst (by with_unfolding_all rfl) (wp_fappG T_strs hF3 (i := 1) rfl (Nat.le_refl _) hF3.rdOwn0 (strs_one1 _) (by with_unfolding_all exact ⟨_, _, rfl, rfl, rfl⟩) (by unfold maxLen; omega) (by omega) ?_)); intro v4 w4 hF4 hz4; simp only [List.set_cons_zero, List.set_cons_succ] at hF4; obtain ⟨A4, c4, rfl, hc4⟩ := hF4.ownParts (i := 1) rfl) | ((with_reducible refine lst (by with_unfolding_all rfl) (wp_fst2 hF4 (by with_unfolding_all exact ⟨_, _, rfl, rfl, rfl⟩) (by kernel_rfl) rfl rfl (by rw [vlL_len]; decide) (vlL_3 (a' := .slice A4 (nn + 1) c4)) ?_)); intro w5 hF5 hz5))
        have hF6 := hF5.tail
        clear hF5 hF4 hF3
        have hq1 : jBlanks b q ≤ n := by have := jBlanks_le b (p := q) (by rw [hl.out]; exact hqn); rw [hl.out] at this; exact this
        have hbl := box (blanks_any g A n c q m B b w5 (hF6.blk (i := 2) rfl) hg (Nat.le_trans hB hF6.size) (by omega) hqn (hF6.rdB hg hB hr))
        refine hbl.out.mono ?_
        rintro e w7 ⟨rfl, h7⟩
        have hF7 := hF6.putF (i := 2) rfl h7
        simp only [List.set_cons_succ, List.set_cons_zero] at hF7
        clear hbl h7 hF6
        have hwd := box (word_any g A n c (jBlanks b q) m B b ⟨#[58]⟩ w7 (hF7.blk (i := 2) rfl) hg (Nat.le_trans hB hF7.size) (by omega) hq1 (by decide) (hF7.rdB hg hB hr))
        rw [show ((⟨#[58]⟩ : ByteArray).data.toList) = [58] from rfl] at hwd
        have hj3 := hjn2.out
        cases hW : jWord b [58] (jBlanks b q) with
        | error z =>
          rw [hW] at hwd hj3
          replace hj3 := box hj3
          unfold JPost at hwd
          simp only [] at hwd
          clear hW hjn2
          go_wp2_with fail
          refine hwd.out.mono ?_
          rintro e w8 ⟨rfl, hg8⟩
          dsimp only [flt]
          go_wp2
          exact ⟨rfl, by unfold JEndP; rw [hj3.out]; exact ⟨rfl, grown_trans hF7.grown hg8⟩⟩
        | ok r =>
          have hrn := (jWord_le hW).2.resolve_left (by simp)
          rw [hl.out] at hrn
          rw [hW] at hwd hj3
          replace hj3 := box hj3
          unfold JPost at hwd
          simp only [] at hwd
          clear hW hjn2
          go_wp2_with fail
          refine hwd.out.mono ?_
          rintro e w8 ⟨rfl, h8⟩
          have hF8 := hF7.putF (i := 2) rfl h8
          simp only [List.set_cons_succ, List.set_cons_zero] at hF8
          clear hwd h8 hF7
          have hbl := box (blanks_any g A n c r m B b w8 (hF8.blk (i := 2) rfl) hg (Nat.le_trans hB hF8.size) (by omega) hrn (hF8.rdB hg hB hr))
          go_wp2_with fail
          refine hbl.out.mono ?_
          rintro e w9 ⟨rfl, h9⟩
          have hF9 := hF8.putF (i := 2) rfl h9
          simp only [List.set_cons_succ, List.set_cons_zero] at hF9
          clear hbl h9 hF8
          go_wp2_with fail
          go_end0
          unfold JEndP
          rw [hj3.out]
          have hnl2 := hnl.out
          subst hnl2
          exact ⟨A4, c4, rfl, hc4, by rw [List.map_append]; exact hF9⟩
end Go.Proofs.YtdekogmegdhjoaaDoor

namespace Go.Proofs.YtdekogmegdhjoaaDoor

theorem jNext_ok {b : List UInt8} {p : Nat} {c : UInt8} (h : jNext b p = .ok c) : b[p]? = some c := by
  unfold jNext at h
  cases hx : b[p]? with
  | none => rw [hx] at h; cases h
  | some x => rw [hx] at h; injection h with h; rw [h]
/-- One step of a list or an object. -/
theorem jManyL_step {b : List UInt8} {kind : Int} {fin : UInt8} {val : Nat → Nat → JR (JV × Nat × Nat)} {f p m : Nat} {names : List (List UInt8)} {kids : List JV} {x : JV × Nat × Nat} (h : jManyL b kind fin val (f + 1) p m names kids = .ok x) :
    ∃ s q v r m' c, (if kind = 6 then jName b names p else .ok ([], p)) = .ok (s, q) ∧ val q m = .ok (v, r, m') ∧ b[jBlanks b r]? = some c ∧
      (x = (.mk kind 0 [] (if kind = 6 then names ++ [s] else names) (kids ++ [v]), jBlanks b r + 1, m') ∨
        jManyL b kind fin val f (jBlanks b (jBlanks b r + 1)) m' (if kind = 6 then names ++ [s] else names) (kids ++ [v]) = .ok x) := by
  rw [jManyL] at h
  cases h1 : (if kind = 6 then jName b names p else .ok ([], p)) with
  | error z => rw [h1] at h; cases h
  | ok r =>
    obtain ⟨s, q⟩ := r
    rw [h1] at h
    simp only [] at h
    cases h2 : val q m with
    | error z => rw [h2] at h; cases h
    | ok r =>
      obtain ⟨v, r, m'⟩ := r
      rw [h2] at h
      simp only [] at h
      cases h3 : jNext b (jBlanks b r) with
      | error z => rw [h3] at h; cases h
      | ok c =>
        rw [h3] at h
        simp only [] at h
        refine ⟨s, q, v, r, m', c, rfl, h2, jNext_ok h3, ?_⟩
        by_cases hc : c = fin
        · rw [if_pos hc] at h
          injection h with h
          exact .inl h.symm
        · rw [if_neg hc] at h
          cases h4 : jWord b [44] (jBlanks b r) with
          | error z => rw [h4] at h; cases h
          | ok t =>
            rw [h4] at h
            simp only [] at h
            obtain rfl : t = jBlanks b r + 1 := (jWord_le h4).1
            exact .inr h
/-- What a value's reader goes by. -/
def ValLen (b : List UInt8) (val : Nat → Nat → JR (JV × Nat × Nat)) : Prop := ∀ (p m : Nat) (v : JV) (q m' : Nat), m ≤ 4096 → val p m = .ok (v, q, m') → p < q ∧ q ≤ b.length ∧ m < m' ∧ m' ≤ 4096
theorem jManyL_len {b : List UInt8} {kind : Int} {fin : UInt8} {val : Nat → Nat → JR (JV × Nat × Nat)} (hv : ValLen b val) : ∀ {f p m : Nat} {names : List (List UInt8)} {kids : List JV} {v : JV} {q m' : Nat}, m ≤ 4096 → jManyL b kind fin val f p m names kids = .ok (v, q, m') → p < q ∧ q ≤ b.length ∧ m < m' ∧ m' ≤ 4096
  | 0, _, _, _, _, _, _, _, _, h => by cases h
  | f + 1, p, m, names, kids, v, q, m', hm, h => by
    obtain ⟨s, q1, v1, r, m1, c, h1, h2, h3, h4⟩ := jManyL_step h
    have hq1 : p ≤ q1 := by
      split at h1
      · have := jName_len h1; omega
      · injection h1 with h1; injection h1 with _ h1; omega
    have hv1 := hv _ _ _ _ _ hm h2
    have hr := jBlanks_ge b r
    have hb := (List.getElem?_eq_some_iff.1 h3).1
    rcases h4 with h4 | h4
    · injection h4 with h4 h5
      injection h5 with h5 h6
      omega
    · have h5 := jManyL_len hv hv1.2.2.2 h4
      have := jBlanks_ge b (jBlanks b r + 1)
      omega
theorem jMany_len {b : List UInt8} {kind : Int} {fin : UInt8} {val : Option (Nat → Nat → JR (JV × Nat × Nat))} (hv : ∀ f, val = some f → ValLen b f) {p m : Nat} {v : JV} {q m' : Nat} (hm : m ≤ 4096) (h : jMany b kind fin val p m = .ok (v, q, m')) : p < q ∧ q ≤ b.length ∧ m ≤ m' ∧ m' ≤ 4096 := by
  unfold jMany at h
  cases val with
  | none => cases h
  | some f =>
    simp only [] at h
    cases h3 : jNext b (jBlanks b (p + 1)) with
    | error z => rw [h3] at h; cases h
    | ok c =>
      rw [h3] at h
      simp only [] at h
      have hb := (List.getElem?_eq_some_iff.1 (jNext_ok h3)).1
      have hg := jBlanks_ge b (p + 1)
      split at h
      · injection h with h
        injection h with _ h
        injection h with h1 h2
        omega
      · have := jManyL_len (hv f rfl) hm h
        omega
theorem jNumber_len {b : List UInt8} {p q : Nat} {x : Int} (hp : p < b.length) (h : jNumber b p = .ok (x, q)) : p < q ∧ q ≤ b.length := by
  unfold jNumber at h
  simp only [] at h
  cases hj : jNum ((b.drop p).takeWhile jNumC) with
  | none => rw [hj] at h; cases h
  | some v =>
    rw [hj] at h
    obtain ⟨_, rfl⟩ := ok_pair h
    have h1 : ((b.drop p).takeWhile jNumC).length ≠ 0 := fun h0 => by
      rw [List.eq_nil_of_length_eq_zero h0] at hj
      cases hj
    have h2 := (List.takeWhile_sublist jNumC (l := b.drop p)).length_le
    rw [List.length_drop] at h2
    omega
theorem jValueW_len {b : List UInt8} {val : Option (Nat → Nat → JR (JV × Nat × Nat))} (hv : ∀ f, val = some f → ValLen b f) {p m : Nat} {v : JV} {q m' : Nat} (hm : m ≤ 4096) (h : jValueW b val p m = .ok (v, q, m')) : p < q ∧ q ≤ b.length ∧ m < m' ∧ m' ≤ 4096 := by
  unfold jValueW at h
  cases hx : b[p]? with
  | none => rw [hx] at h; cases h
  | some c =>
    have hp := (List.getElem?_eq_some_iff.1 hx).1
    rw [hx] at h
    simp only [] at h
    split at h
    · cases h
    · rename_i hm4
      have lit : ∀ {l : List UInt8} {u : JV}, l ≠ [] → jLit b l u p (m + 1) = .ok (v, q, m') → p < q ∧ q ≤ b.length ∧ m < m' ∧ m' ≤ 4096 := fun {l u} hl hj => by
        unfold jLit at hj
        cases hw : jWord b l p with
        | error z => rw [hw] at hj; cases hj
        | ok t =>
          rw [hw] at hj
          simp only [] at hj
          injection hj with hj
          injection hj with _ hj
          injection hj with h1 h2
          have h3 := jWord_le hw
          have h4 := h3.2.resolve_left hl
          have h5 : 0 < l.length := List.length_pos_iff.2 hl
          omega
      split at h
      · exact lit (by simp) h
      · split at h
        · exact lit (by simp) h
        · split at h
          · exact lit (by simp) h
          · split at h
            · cases hn : jNumber b p with
              | error z => rw [hn] at h; cases h
              | ok r =>
                obtain ⟨x, t⟩ := r
                rw [hn] at h
                injection h with h
                injection h with _ h
                injection h with h1 h2
                have := jNumber_len hp hn
                omega
            · split at h
              · cases hn : jText b p with
                | error z => rw [hn] at h; cases h
                | ok r =>
                  obtain ⟨x, t⟩ := r
                  rw [hn] at h
                  injection h with h
                  injection h with _ h
                  injection h with h1 h2
                  have := jText_len hn
                  omega
              · split at h
                · have := jMany_len hv (by omega) h
                  omega
                · split at h
                  · have := jMany_len hv (by omega) h
                    omega
                  · cases h
theorem jValue_len {b : List UInt8} : ∀ (d : Nat), ValLen b (jValue b d)
  | 0, p, m, v, q, m', hm, h => jValueW_len (val := none) (fun f hf => by cases hf) hm h
  | d + 1, p, m, v, q, m', hm, h => jValueW_len (val := some (jValue b d)) (fun f hf => by injection hf with hf; subst hf; exact jValue_len d) hm h
end Go.Proofs.YtdekogmegdhjoaaDoor
