/-
  A cheap look at a region's order: the look that the kit's quiet walk asks for, out of a list of numbers. No program is named here.
-/
import Derived.Deep.Quiet
import Derived.BigQuiet
namespace Go.Proofs.YtdekogmegdhjoaaDoor

/-- What an operation waits for, where it writes, what it looks at. -/
abbrev LexS := List Nat × Option Nat × List Nat
def lexSum (ops : Array Oper) (o : Oper) : LexS := ((o.after.toList.filter (Region.binds .any)).map (·.on), o.dst, o.looksAt ops)
def lexApart (x y : LexS) : Bool :=
  (match x.2.1 with
   | some d => !y.2.2.contains d && y.2.1 != some d
   | none => true) &&
  (match y.2.1 with
   | some d => !x.2.2.contains d
   | none => true)
def lexTail (k : Nat) (x : LexS) : List LexS → Bool
  | [] => true
  | y :: l => (y.1.contains k || lexApart x y) && lexTail k x l
def lexChk : Nat → List LexS → Bool
  | _, [] => true
  | k, x :: l => x.1.all (fun i => decide (i < k)) && lexTail k x l && lexChk (k + 1) l
theorem lexApart_spec {ops : Array Oper} {x y : Oper} (h : lexApart (lexSum ops x) (lexSum ops y) = true) : x.apart ops y = true := h
theorem lexTail_spec {k : Nat} {x y : LexS} : ∀ {l : List LexS}, lexTail k x l = true → y ∈ l → y.1.contains k = true ∨ lexApart x y = true
  | z :: l, h, hm => by
    simp only [lexTail, Bool.and_eq_true, Bool.or_eq_true] at h
    rcases List.mem_cons.1 hm with rfl | hm
    · exact h.1
    · exact lexTail_spec h.2 hm
theorem lexFrom_of {l : List Oper} : ∀ (f k : Nat) (listed : Array Bool), f + k = l.length → (∀ j, j < l.length → listed[j]? = some (decide (j < k))) → lexChk k ((l.map (lexSum l.toArray)).drop k) = true → Region.lexFrom .any l.toArray f k listed = true
  | 0, k, listed, hk, hL, _ => by
    simp only [Region.lexFrom, Region.ready, List.isEmpty_iff, List.filter_eq_nil_iff, List.mem_range]
    intro i hi
    have hi' : i < l.length := by simpa using hi
    have := hL i hi'
    simp [this, show i < k by omega]
  | f + 1, k, listed, hk, hL, hc => by
    have hkl : k < l.length := by omega
    rw [List.drop_eq_getElem_cons (by simpa using hkl)] at hc
    simp only [lexChk, Bool.and_eq_true, List.all_eq_true, decide_eq_true_eq, List.getElem_map] at hc
    obtain ⟨⟨h1, h2⟩, h3⟩ := hc
    have hop : l.toArray[k]? = some l[k] := by simp [hkl]
    simp only [Region.lexFrom, Bool.and_eq_true]
    refine ⟨⟨?_, ?_⟩, ?_⟩
    · simp only [List.contains_iff_mem, Region.ready, List.mem_filter, List.mem_range, Bool.and_eq_true]
      refine ⟨by simpa using hkl, ?_, ?_⟩
      · simp [hL k hkl]
      · rw [hop]
        simp only [Option.map_some, Option.getD_some, Array.all_eq_true_iff_forall_mem]
        intro e he
        cases hb : Region.binds .any e with
        | false => rfl
        | true =>
          have hlt := h1 e.on (by
            simp only [lexSum, List.mem_map, List.mem_filter]
            exact ⟨e, ⟨by simpa using he, hb⟩, rfl⟩)
          simp [hL e.on (by omega), hlt]
    · unfold Region.free
      rw [hop]
      simp only [List.all_eq_true, List.mem_range]
      intro j hj
      have hj' : j < l.length := by simpa using hj
      rcases Nat.lt_trichotomy j k with hjk | hjk | hjk
      · simp [hL j hj', hjk]
      · simp [hjk]
      · have hoj : l.toArray[j]? = some l[j] := by simp [hj']
        rw [hoj]
        simp only [Bool.or_eq_true]
        right
        have hm : lexSum l.toArray l[j] ∈ (l.map (lexSum l.toArray)).drop (k + 1) := by
          rw [List.mem_iff_getElem?]
          refine ⟨j - (k + 1), ?_⟩
          rw [List.getElem?_drop, show k + 1 + (j - (k + 1)) = j by omega, List.getElem?_map, List.getElem?_eq_getElem hj']
          rfl
        rcases lexTail_spec h2 hm with h4 | h4
        · left
          simp only [lexSum, List.contains_iff_mem, List.mem_map, List.mem_filter] at h4
          obtain ⟨e, ⟨he, hb⟩, hon⟩ := h4
          rw [Array.any_eq_true']
          exact ⟨e, by simpa using he, by simp [hb, hon]⟩
        · exact .inr (lexApart_spec h4)
    · refine lexFrom_of f (k + 1) _ (by omega) (fun j hj => ?_) h3
      rw [Array.getElem?_setIfInBounds]
      have hs : k < listed.size := (Array.getElem?_eq_some_iff.1 (hL k hkl)).1
      by_cases hkj : k = j
      · rw [if_pos hkj, if_pos hs]; simp [hkj]
      · rw [if_neg hkj, hL j hj]
        congr 1
        by_cases hlt : j < k
        · simp [hlt]; omega
        · simp [hlt]; omega
theorem lex_of {l : List Oper} (S : List LexS) (hs : Region.noSelect l.toArray = true) (h : l.map (lexSum l.toArray) = S) (hc : lexChk 0 S = true) : Region.lexB .any l.toArray = true := by
  unfold Region.lexB
  rw [hs, Bool.true_and]
  refine lexFrom_of _ 0 _ (by simp) (fun j hj => ?_) (by rw [h]; exact hc)
  simp [hj]
end Go.Proofs.YtdekogmegdhjoaaDoor
