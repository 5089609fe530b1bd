/-
  Layer 7 in plain words: what is shown is read back, and what is read is shown. No program is named here.
-/
import Derived.Test.YtgcoebndhnijgaaDoorNShow
namespace Go.Proofs.YtgcoebndhnijgaaDoor
open Go.RowKit

theorem acc_no {c : UInt8} (hc : smallB c = false ∧ c ≠ 47 ∧ c ≠ 46 ∧ c ≠ 95 ∧ c ≠ 45) : ∀ (l : List UInt8) (q : Nat), acc q l = true → c ∉ l
  | [], _, _ => by simp
  | d :: l, q, h => by
    rw [acc] at h
    cases hs : step q d with
    | none => rw [hs] at h; cases h
    | some q' =>
      rw [hs] at h
      have ih := acc_no hc l q' h
      intro hm
      rcases List.mem_cons.1 hm with rfl | hm
      · rw [step_other hc] at hs; cases hs
      · exact ih hm
theorem repo_no {c : UInt8} (hc : smallB c = false ∧ c ≠ 47 ∧ c ≠ 46 ∧ c ≠ 95 ∧ c ≠ 45) {l : List UInt8} (h : repoB l = true) : c ∉ l := by
  unfold repoB at h
  rw [Bool.and_eq_true] at h
  exact acc_no hc l 0 h.1
theorem tag_no {c : UInt8} (hc : tagA c = false) {l : List UInt8} (h : tagB l = true) : c ∉ l := by
  unfold tagB at h
  simp only [Bool.and_eq_true] at h
  intro hm
  have := List.all_eq_true.1 h.2 c hm
  rw [hc] at this; cases this
theorem find_app {c : UInt8} : ∀ {l : List UInt8} (m : List UInt8), c ∉ l → findN c (l ++ c :: m) = l.length
  | [], m, _ => by simp [findN]
  | d :: l, m, h => by
    rw [List.cons_append, findN, if_neg (fun e => h (by simp [e])), find_app m (fun hm => h (by simp [hm]))]
    simp
theorem find_none {c : UInt8} : ∀ {l : List UInt8}, c ∉ l → findN c l = l.length
  | [], _ => rfl
  | d :: l, h => by
    rw [findN, if_neg (fun e => h (by simp [e])), find_none (fun hm => h (by simp [hm]))]
    simp
theorem cut_app {c : UInt8} {l m : List UInt8} (h : c ∉ l) : cutA c (l ++ c :: m) = l ∧ cutZ c (l ++ c :: m) = m ∧ cutOk c (l ++ c :: m) = true := by
  unfold cutA cutZ cutOk
  rw [find_app m h]
  refine ⟨by simp, ?_, by simp⟩
  rw [show l.length + 1 = (l ++ [c]).length by simp, show l ++ c :: m = (l ++ [c]) ++ m by simp, List.drop_left]
theorem cut_none {c : UInt8} {l : List UInt8} (h : c ∉ l) : cutA c l = l ∧ cutZ c l = [] ∧ cutOk c l = false := by
  unfold cutA cutZ cutOk
  rw [find_none h]
  exact ⟨by simp, by simp, by simp⟩
theorem at64 : smallB 64 = false ∧ (64 : UInt8) ≠ 47 ∧ (64 : UInt8) ≠ 46 ∧ (64 : UInt8) ≠ 95 ∧ (64 : UInt8) ≠ 45 := by decide
theorem at58 : smallB 58 = false ∧ (58 : UInt8) ≠ 47 ∧ (58 : UInt8) ≠ 46 ∧ (58 : UInt8) ≠ 95 ∧ (58 : UInt8) ≠ 45 := by decide
theorem bs_eta (s : ByteArray) : bs s.data.toList = s := str_eta s
theorem show_code (r : NRef) : (showR r).1 = 0 ∨ (showR r).1 = 70 ∨ (showR r).1 = 71 := by
  unfold showR
  split
  · exact .inr (.inl rfl)
  · split
    · exact .inr (.inr rfl)
    · exact .inl rfl
theorem parse_code (l : List UInt8) : (parseR l).1 = 0 ∨ (parseR l).1 = 70 ∨ (parseR l).1 = 71 ∨ (parseR l).1 = 20 := by
  unfold parseR
  split
  · exact .inr (.inl rfl)
  · split
    · exact .inr (.inr (.inl rfl))
    · split
      · cases dgP (pSum l) with
        | none => exact .inr (.inr (.inr rfl))
        | some d => exact .inl rfl
      · exact .inl rfl
/-- What is shown is read back. -/
theorem show_back {r : NRef} (hd : r.d.length = 32) (h : (showR r).1 = 0) : parseR (showR r).2 = (0, ⟨r.repo, r.tag, r.pin, if r.pin = true then r.d else zeros⟩) := by
  obtain ⟨repo, tag, pin, d⟩ := r
  have hok : repoB repo.data.toList = true := by
    cases hq : repoB repo.data.toList with
    | true => rfl
    | false => rw [show_no1 (r := ⟨repo, tag, pin, d⟩) hq] at h; cases h
  have htok : (!tag.data.toList.isEmpty && !tagB tag.data.toList) = false := by
    cases hq : (!tag.data.toList.isEmpty && !tagB tag.data.toList) with
    | false => rfl
    | true =>
      obtain ⟨h1, h2⟩ := and_not hq
      rw [show_no2 (r := ⟨repo, tag, pin, d⟩) hok (by simpa using h1) h2] at h; cases h
  rw [show_yes (r := ⟨repo, tag, pin, d⟩) hok htok]
  simp only []
  have hr64 := repo_no at64 hok
  have hr58 := repo_no at58 hok
  -- the head: all that stands ahead of '@'
  have head : ∀ (H : List UInt8), H = repo.data.toList ++ (if tag.data.toList.isEmpty = true then [] else 58 :: tag.data.toList) → (64 : UInt8) ∉ H ∧ cutA 58 H = repo.data.toList ∧ cutZ 58 H = tag.data.toList ∧ cutOk 58 H = !tag.data.toList.isEmpty := by
    intro H hH
    cases he : tag.data.toList.isEmpty with
    | true =>
      rw [if_pos he, List.append_nil] at hH
      subst hH
      obtain ⟨a, b, c⟩ := cut_none hr58
      exact ⟨hr64, a, by rw [b, List.isEmpty_iff.1 he], by rw [c]; rfl⟩
    | false =>
      rw [if_neg (by simp [he])] at hH
      subst hH
      rw [he] at htok
      have ht : tagB tag.data.toList = true := not_of htok
      have h64 := tag_no (c := 64) (by decide) ht
      obtain ⟨a, b, c⟩ := cut_app (m := tag.data.toList) hr58
      refine ⟨fun hm => ?_, a, b, c⟩
      rcases List.mem_append.1 hm with hm | hm
      · exact hr64 hm
      · rcases List.mem_cons.1 hm with hm | hm
        · cases hm
        · exact h64 hm
  obtain ⟨H, hH⟩ : ∃ H, H = repo.data.toList ++ (if tag.data.toList.isEmpty = true then [] else 58 :: tag.data.toList) := ⟨_, rfl⟩
  obtain ⟨k1, k2, k3, k4⟩ := head H hH
  rw [← List.append_assoc, ← hH]
  cases pin with
  | true =>
    simp only [if_true]
    obtain ⟨a, b, c⟩ := cut_app (m := dgT d) k1
    have e1 : pRepo (H ++ 64 :: dgT d) = repo.data.toList := by unfold pRepo; rw [a, k2]
    have e2 : pTag (H ++ 64 :: dgT d) = tag.data.toList := by unfold pTag; rw [a, k3]
    have e3 : pTagged (H ++ 64 :: dgT d) = !tag.data.toList.isEmpty := by unfold pTagged; rw [a, k4]
    rw [parse_pin (d := d) (by rw [e1]; exact hok) (by rw [e2, e3]; exact htok) c (by unfold pSum; rw [b]; exact dgP_T hd), e1, e2, bs_eta, bs_eta]
  | false =>
    simp only [Bool.false_eq_true, if_false, List.append_nil]
    obtain ⟨a, b, c⟩ := cut_none k1
    have e1 : pRepo H = repo.data.toList := by unfold pRepo; rw [a, k2]
    have e2 : pTag H = tag.data.toList := by unfold pTag; rw [a, k3]
    have e3 : pTagged H = !tag.data.toList.isEmpty := by unfold pTagged; rw [a, k4]
    rw [parse_free (by rw [e1]; exact hok) (by rw [e2, e3]; exact htok) c, e1, e2, bs_eta, bs_eta]
theorem cut_join {c : UInt8} : ∀ (l : List UInt8), cutOk c l = true → cutA c l ++ c :: cutZ c l = l
  | [], h => by simp [cutOk, findN] at h
  | d :: l, h => by
    unfold cutA cutZ cutOk findN at *
    by_cases hd : d = c
    · subst hd; rw [if_pos rfl]; rfl
    · rw [if_neg hd] at h ⊢
      have := cut_join (c := c) l (by unfold cutOk; simpa using h)
      unfold cutA cutZ at this
      rw [List.take_succ_cons, List.drop_succ_cons, List.cons_append, this]
theorem cut_whole {c : UInt8} {l : List UInt8} (h : cutOk c l = false) : cutA c l = l ∧ cutZ c l = [] := by
  have hle := findN_le c l
  unfold cutOk at h
  have : ¬ findN c l < l.length := by simpa using h
  unfold cutA cutZ
  exact ⟨List.take_of_length_le (by omega), List.drop_of_length_le (by omega)⟩
theorem bs_data (l : List UInt8) : (bs l).data.toList = l := str_mk l
/-- What is read is shown as it was. -/
theorem parse_show {l : List UInt8} (h : (parseR l).1 = 0) : showR (parseR l).2 = (0, l) := by
  have hok : repoB (pRepo l) = true := by
    cases hq : repoB (pRepo l) with
    | true => rfl
    | false => rw [parse_no1 hq] at h; cases h
  have htok : (pTagged l && !tagB (pTag l)) = false := by
    cases hq : (pTagged l && !tagB (pTag l)) with
    | false => rfl
    | true => obtain ⟨h1, h2⟩ := and_not hq; rw [parse_no2 hok h1 h2] at h; cases h
  -- the head
  have head : pRepo l ++ (if (pTag l).isEmpty = true then [] else 58 :: pTag l) = cutA 64 l ∧ (!(pTag l).isEmpty && !tagB (pTag l)) = false := by
    cases ht : pTagged l with
    | true =>
      rw [ht] at htok
      have htg := not_of htok
      have hne : (pTag l).isEmpty = false := by
        cases hq : pTag l with
        | nil => rw [hq] at htg; cases htg
        | cons a b => rfl
      rw [hne, if_neg (by simp), htg]
      exact ⟨cut_join _ ht, rfl⟩
    | false =>
      obtain ⟨a, b⟩ := cut_whole ht
      have e1 : pRepo l = cutA 64 l := a
      have e2 : pTag l = [] := b
      rw [e1, e2]
      exact ⟨by simp, rfl⟩
  obtain ⟨hh, htag⟩ := head
  cases hp : pPin l with
  | true =>
    cases hdg : dgP (pSum l) with
    | none => rw [parse_no3 hok htok hp hdg] at h; cases h
    | some d =>
      rw [parse_pin hok htok hp hdg, show_yes (by rw [bs_data]; exact hok) (by rw [bs_data]; exact htag)]
      simp only [bs_data, if_true]
      rw [dgT_P hdg, ← List.append_assoc, hh]
      exact congrArg _ (cut_join _ hp)
  | false =>
    rw [parse_free hok htok hp, show_yes (by rw [bs_data]; exact hok) (by rw [bs_data]; exact htag)]
    simp only [bs_data, Bool.false_eq_true, if_false]
    rw [List.append_nil, hh]
    exact congrArg _ (cut_whole hp).1
end Go.Proofs.YtgcoebndhnijgaaDoor
