/-
  Frames of known blocks, joined: what a call hands back in blocks of its own. No program is named here.
-/
import Derived.Test.YtdekogmegdhjoaaDoorFr5
namespace Go.Proofs.YtdekogmegdhjoaaDoor
open Go.RowKit

section
variable {X : List Nat} {w0 w w' : World} {es es' : List Ent}
theorem app_at {α : Type} {l l' : List α} {i : Nat} {x : α} (h : (l ++ l')[i]? = some x) : (l[i]? = some x ∧ i < l.length) ∨ (l'[i - l.length]? = some x ∧ l.length ≤ i) := by
  rcases Nat.lt_or_ge i l.length with h1 | h1
  · rw [List.getElem?_append_left h1] at h; exact .inl ⟨h, h1⟩
  · rw [List.getElem?_append_right h1] at h; exact .inr ⟨h, h1⟩
theorem Fr.join (h : Fr X w0 w es) (h' : Fr [] w w' es') : Fr X w0 w' (es' ++ es) := by
  have hg := h.grow (grown_of_below h'.below)
  have old : ∀ {i : Nat} {e : Ent}, es'[i]? = some e → ∀ b, e.block = some b → w.heap.size ≤ b := fun {i e} hi b hb => by simpa using h'.fresh i e hi b hb
  have part : ∀ {i j : Nat} {e f : Ent}, es'[i]? = some e → es[j]? = some f → e.apart f := fun {i j e f} hi hj => by
    unfold Ent.apart
    cases hb : e.block with
    | none => exact .inl rfl
    | some b => exact .inr fun he => h.old hj (old hi b hb) he.symm
  refine ⟨hg.os, hg.tape, hg.output, hg.size, hg.block, fun i e hi => ?_, fun i e hi b hb => ?_, fun i j e f hi hj hij => ?_⟩
  · rcases app_at hi with ⟨h1, _⟩ | ⟨h1, _⟩
    · exact h'.holds i e h1
    · exact hg.holds _ e h1
  · rcases app_at hi with ⟨h1, _⟩ | ⟨h1, _⟩
    · exact .inl (Nat.le_trans h.size (old h1 b hb))
    · exact h.fresh _ e h1 b hb
  · rcases app_at hi with ⟨h1, i1⟩ | ⟨h1, i1⟩
    · rcases app_at hj with ⟨h2, j1⟩ | ⟨h2, j1⟩
      · exact h'.apart i j e f h1 h2 hij
      · exact part h1 h2
    · rcases app_at hj with ⟨h2, j1⟩ | ⟨h2, j1⟩
      · exact (part h2 h1).symm
      · exact h.apart _ _ e f h1 h2 (by omega)
/-- Some of the entries, by their places. -/
theorem Fr.picks (h : Fr X w0 w es) (is : List Nat) {fs : List Ent} (hx : is.map (fun i => es[i]?) = fs.map some) (nd : is.Nodup) : Fr X w0 w fs := by
  have key : ∀ (j : Nat) (f : Ent), fs[j]? = some f → ∃ i, is[j]? = some i ∧ es[i]? = some f := fun j f hj => by
    have h1 : (is.map (fun i => es[i]?))[j]? = some (some f) := by rw [hx, List.getElem?_map, hj]; rfl
    rw [List.getElem?_map] at h1
    cases hi : is[j]? with
    | none => rw [hi] at h1; cases h1
    | some i => rw [hi] at h1; exact ⟨i, rfl, by simpa using h1⟩
  refine ⟨h.os, h.tape, h.output, h.size, h.block, fun j f hj => ?_, fun j f hj b hb => ?_, fun j k f f' hj hk hjk => ?_⟩
  · obtain ⟨i, _, hi⟩ := key j f hj; exact h.holds i f hi
  · obtain ⟨i, _, hi⟩ := key j f hj; exact h.fresh i f hi b hb
  · obtain ⟨i, h1, hi⟩ := key j f hj
    obtain ⟨i', h2, hi'⟩ := key k f' hk
    refine h.apart i i' f f' hi hi' fun he => hjk ?_
    subst he
    obtain ⟨l1, e1⟩ := List.getElem?_eq_some_iff.1 h1
    obtain ⟨l2, e2⟩ := List.getElem?_eq_some_iff.1 h2
    have hp := List.pairwise_iff_getElem.1 nd
    rcases Nat.lt_trichotomy j k with h3 | h3 | h3
    · exact absurd (e1.trans e2.symm) (hp j k l1 l2 h3)
    · exact h3
    · exact absurd (e2.trans e1.symm) (hp k j l2 l1 h3)
/-- A slice that is none owns nothing. -/
theorem Fr.none_ (h : Fr X w0 w es) (b : Nat) (e : TypeId) (size : Nat) : Fr X w0 w (.own b e size (.slice none 0 0) 0 [] :: es) :=
  h.push (e := .own b e size (.slice none 0 0) 0 []) (World.ownsRow_nil _ _ _ _) fun b hb => by cases hb
theorem own_parts {b : Nat} {e : TypeId} {size n : Nat} {v : Value} {xs : List Value} (h : w.ownsRow b e size v n xs) : ∃ A c, v = .slice A n c ∧ n ≤ c := by
  rcases h.2 with ⟨h1, h2⟩ | ⟨g, cap, cur, h1, _, _, h2, _⟩
  · subst h2; exact ⟨none, 0, h1, Nat.le_refl _⟩
  · exact ⟨_, _, h1, h2⟩
theorem Fr.ownParts (h : Fr X w0 w es) {i b : Nat} {e : TypeId} {size n : Nat} {v : Value} {xs : List Value} (hi : es[i]? = some (.own b e size v n xs)) : ∃ A c, v = .slice A n c ∧ n ≤ c := own_parts (w := w) (h.holds i _ hi)
end
end Go.Proofs.YtdekogmegdhjoaaDoor
