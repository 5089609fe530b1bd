/-
  Layer 6: the document's reader: its methods, before a fault and behind one.
-/
import Derived.Test.YtdekogmegdhjoaaDoorM16
import Derived.Test.YtdekogmegdhjoaaDoorM04
import Derived.Test.YtdekogmegdhjoaaDoorM09
namespace Go.Proofs.YtdekogmegdhjoaaDoor
open Go.RowKit
set_option linter.unusedSimpArgs false
set_option linter.unusedVariables false

/-- A reading stands so: it is K; or a fault stands in the reader. -/
def JS {α : Type} (J : JR α) (f wh : Nat) (K : JR α) : Prop := (0 = f ∧ 0 = wh ∧ J = K) ∨ (f ≠ 0 ∧ J = .error (wh, f))
/-- One reading behind the other. -/
def jb {α β : Type} (r : JR α) (k : α → JR β) : JR β := match r with
  | .ok a => k a
  | .error x => .error x
/-- What a method reads: nothing behind a fault. -/
def jr {α : Type} (f wh : Nat) (r : JR α) : JR α := if f = 0 then r else .error (wh, f)
theorem jr_ok {α : Type} {wh : Nat} {r : JR α} : jr 0 wh r = r := if_pos rfl
theorem jr_bad {α : Type} {f wh : Nat} {r : JR α} (h : f ≠ 0) : jr f wh r = .error (wh, f) := if_neg h
theorem JS.step {α β : Type} {J : JR β} {f wh f' wh' : Nat} {r : JR α} {k : α → JR β} {a : α} (h : JS J f wh (jb r k)) (h' : JS (jr f wh r) f' wh' (.ok a)) : JS J f' wh' (k a) := by
  rcases h with ⟨rfl, rfl, hJ⟩ | ⟨hf, hJ⟩
  · rw [jr_ok] at h'
    rcases h' with ⟨rfl, rfl, hr⟩ | ⟨hf', hr⟩
    · exact .inl ⟨rfl, rfl, by rw [hJ, hr]; rfl⟩
    · exact .inr ⟨hf', by rw [hJ, hr]; rfl⟩
  · rw [jr_bad hf] at h'
    rcases h' with ⟨_, _, hr⟩ | ⟨hf', hr⟩
    · cases hr
    · injection hr with hr
      injection hr with h1 h2
      subst h1 h2
      exact .inr ⟨hf, hJ⟩
theorem JS.bad {α β : Type} {J : JR β} {f wh f' wh' : Nat} {r : JR α} {k : α → JR β} (h : JS J f wh (jb r k)) (hf : f' ≠ 0) (h' : jr f wh r = .error (wh', f')) (K : JR β) : JS J f' wh' K := by
  rcases h with ⟨rfl, rfl, hJ⟩ | ⟨hf2, hJ⟩
  · rw [jr_ok] at h'
    exact .inr ⟨hf, by rw [hJ, h']; rfl⟩
  · rw [jr_bad hf2] at h'
    injection h' with h'
    injection h' with h1 h2
    subst h1 h2
    exact .inr ⟨hf2, hJ⟩
theorem JS.of_bad {α : Type} {J : JR α} {f wh : Nat} (h : f ≠ 0) (hJ : J = .error (wh, f)) (K : JR α) : JS J f wh K := .inr ⟨h, hJ⟩
theorem JS.wh0 {α : Type} {J : JR α} {f wh : Nat} {K : JR α} (h : JS J f wh K) (hf : f = 0) : wh = 0 := by
  rcases h with ⟨_, h, _⟩ | ⟨h, _⟩
  · exact h.symm
  · exact absurd hf h
theorem JS.eq {α : Type} {J : JR α} {f wh : Nat} {K : JR α} (h : JS J f wh K) (hf : f = 0) : J = K := by
  rcases h with ⟨_, _, h⟩ | ⟨h, _⟩
  · exact h
  · exact absurd hf h
theorem JS.err {α : Type} {J : JR α} {f wh : Nat} {K : JR α} (h : JS J f wh K) (hf : f ≠ 0) : J = .error (wh, f) := by
  rcases h with ⟨h, _, _⟩ | ⟨_, h⟩
  · exact absurd h.symm hf
  · exact h
theorem JS.congr {α : Type} {J : JR α} {f wh : Nat} {K K' : JR α} (h : JS J f wh K) (hk : f = 0 → K = K') : JS J f wh K' := by
  rcases h with ⟨h1, h2, h⟩ | ⟨h1, h⟩
  · exact .inl ⟨h1, h2, by rw [h, hk h1.symm]⟩
  · exact .inr ⟨h1, h⟩

/-- jName, one reading behind the other. -/
theorem jName_jb (b : List UInt8) (names : List (List UInt8)) (p : Nat) : jName b names p = jb (jText b p) fun x => jb (if x.1 ∈ names then (.error (p, 7) : JR Unit) else .ok ()) fun _ => jb (jWord b [58] (jBlanks b x.2)) fun r => .ok (x.1, jBlanks b r) := by
  unfold jName jb
  cases jText b p with
  | error x => rfl
  | ok x =>
    obtain ⟨s, q⟩ := x
    simp only []
    split
    · rfl
    · cases jWord b [58] (jBlanks b q) <;> rfl
/-- What stands in a list or an object behind a name. -/
def jC (b : List UInt8) (kind : Int) (fin : UInt8) (val : Nat → Nat → JR (JV × Nat × Nat)) (f q m : Nat) (names : List (List UInt8)) (kids : List JV) : JR (JV × Nat × Nat) :=
  jb (val q m) fun x => jb (jNext b (jBlanks b x.2.1)) fun c =>
    if c = fin then .ok (.mk kind 0 [] names (kids ++ [x.1]), jBlanks b x.2.1 + 1, x.2.2)
    else jb (jWord b [44] (jBlanks b x.2.1)) fun t => jManyL b kind fin val f (jBlanks b t) x.2.2 names (kids ++ [x.1])
theorem jC_eq (b : List UInt8) (kind : Int) (fin : UInt8) (val : Nat → Nat → JR (JV × Nat × Nat)) (f q m : Nat) (names : List (List UInt8)) (kids : List JV) : jC b kind fin val f q m names kids = match val q m with
      | .error x => .error x
      | .ok (v, r, m') =>
        match jNext b (jBlanks b r) with
        | .error x => .error x
        | .ok c =>
          if c = fin then .ok (.mk kind 0 [] names (kids ++ [v]), jBlanks b r + 1, m')
          else match jWord b [44] (jBlanks b r) with
            | .error x => .error x
            | .ok t => jManyL b kind fin val f (jBlanks b t) m' names (kids ++ [v]) := by
  unfold jC jb
  cases val q m with
  | error x => rfl
  | ok x =>
    obtain ⟨v, r, m'⟩ := x
    simp only []
    cases jNext b (jBlanks b r) with
    | error x => rfl
    | ok c =>
      simp only []
      split
      · rfl
      · cases jWord b [44] (jBlanks b r) <;> rfl
theorem jManyL_5 (b : List UInt8) (fin : UInt8) (val : Nat → Nat → JR (JV × Nat × Nat)) (f p m : Nat) (names : List (List UInt8)) (kids : List JV) : jManyL b 5 fin val (f + 1) p m names kids = jC b 5 fin val f p m names kids := by
  rw [jC_eq, jManyL_go (s := []) (q := p) (by rw [if_neg (by decide)]), if_neg (by decide)]
  rfl
theorem jManyL_6 (b : List UInt8) (fin : UInt8) (val : Nat → Nat → JR (JV × Nat × Nat)) (f p m : Nat) (names : List (List UInt8)) (kids : List JV) : jManyL b 6 fin val (f + 1) p m names kids = jb (jName b names p) fun x => jC b 6 fin val f x.2 m (names ++ [x.1]) kids := by
  cases h : jName b names p with
  | error x => exact jManyL_bad (by rw [if_pos rfl, h])
  | ok x => rw [jManyL_go (s := x.1) (q := x.2) (by rw [if_pos rfl, h]), if_pos rfl]; show _ = jC b 6 fin val f x.2 m (names ++ [x.1]) kids; rw [jC_eq]; rfl
theorem jManyL_none {b : List UInt8} {kind : Int} {fin : UInt8} {d f p m : Nat} {names : List (List UInt8)} {kids : List JV} (hk : kind = 5 ∨ kind = 6) (hx : b[p]? = none) : jManyL b kind fin (jValue b d) (f + 1) p m names kids = .error (b.length, 9) := by
  rcases hk with rfl | rfl
  · rw [jManyL_5]
    have hv : jValue b d p m = .error (b.length, 9) := by
      cases d with
      | zero => rw [jValue]; unfold jValueW; rw [hx]
      | succ d => rw [jValue]; unfold jValueW; rw [hx]
    unfold jC
    rw [hv]
    rfl
  · rw [jManyL_6, jName_jb]
    have ht : jText b p = .error (b.length, 9) := by
      unfold jText
      rw [jWord_end hx]
    rw [ht]
    rfl
/-- How a list or an object begins. -/
def mK (b : List UInt8) (kind : Int) (fin : UInt8) (val : Nat → Nat → JR (JV × Nat × Nat)) (mb : Bool) (f p m : Nat) (names : List (List UInt8)) (kids : List JV) : JR (JV × Nat × Nat) :=
  if mb = true then jManyL b kind fin val f p m names kids
  else jb (jNext b p) fun c => if c = fin then .ok (.mk kind 0 [] [] [], p + 1, m) else jManyL b kind fin val f p m names kids
theorem jMany_mK (b : List UInt8) (kind : Int) (fin : UInt8) (val : Nat → Nat → JR (JV × Nat × Nat)) (p m : Nat) : jMany b kind fin (some val) p m = mK b kind fin val false (b.length + 1 - (p + 1)) (jBlanks b (p + 1)) m [] [] := by
  unfold jMany mK jb
  rw [if_neg (by decide)]
  cases jNext b (jBlanks b (p + 1)) <;> rfl
theorem mK_none {b : List UInt8} {kind : Int} {fin : UInt8} {d f p m : Nat} {mb : Bool} {names : List (List UInt8)} {kids : List JV} (hk : kind = 5 ∨ kind = 6) (hx : b[p]? = none) : mK b kind fin (jValue b d) mb (f + 1) p m names kids = .error (b.length, 9) := by
  unfold mK
  split
  · exact jManyL_none hk hx
  · unfold jNext
    rw [hx]
    rfl
theorem mK_in {b : List UInt8} {kind : Int} {fin x : UInt8} {val : Nat → Nat → JR (JV × Nat × Nat)} {f p m : Nat} {mb : Bool} {names : List (List UInt8)} {kids : List JV} (hx : b[p]? = some x) (h : mb = true ∨ x ≠ fin) : mK b kind fin val mb f p m names kids = jManyL b kind fin val f p m names kids := by
  unfold mK
  split
  · rfl
  · rename_i hm
    unfold jNext
    rw [hx]
    show (if x = fin then _ else _) = _
    rw [if_neg (h.resolve_left hm)]
theorem mK_end {b : List UInt8} {kind : Int} {fin : UInt8} {val : Nat → Nat → JR (JV × Nat × Nat)} {f p m : Nat} {names : List (List UInt8)} {kids : List JV} (hx : b[p]? = some fin) : mK b kind fin val false f p m names kids = .ok (.mk kind 0 [] [] [], p + 1, m) := by
  unfold mK jNext
  rw [if_neg (by decide), hx]
  show (if fin = fin then _ else _) = _
  rw [if_pos rfl]

theorem RSt.u {w w' : World} {g : Nat} {A : Option Addr} {n c m : Nat} {J : JR Nat} (h : RSt w g A n c m J w') (he : JEr J) : ∃ p' f' wh' m', Fr [g] w w' [.blk g 68 (rrL A n c p' f' wh' m')] ∧ JS J f' wh' (.ok p') ∧ (f' = 0 → m = m') := by
  cases J with
  | ok q => exact ⟨q, 0, 0, m, h, .inl ⟨rfl, rfl, rfl⟩, fun _ => rfl⟩
  | error x =>
    obtain ⟨p', m', hF⟩ := h
    exact ⟨p', x.2, x.1, m', hF, .inr ⟨he x rfl, rfl⟩, fun h => absurd h (he x rfl)⟩
theorem rblanks_u {w : World} {g : Nat} {A : Option Addr} {n c p f wh m B : Nat} {b : List UInt8} (hh : w.heap[g]? = some (.cells (rrL A n c p f wh m).toArray 68 (0, 0))) (hg : B ≤ g) (hB : B ≤ w.heap.size) (hn : n ≤ 65536) (hp : f = 0 → p ≤ n) (hr : Rd w (· < B) A 1 n (b.map bv)) :
    Calls Tryd.prog 28 #[.pointer (some ⟨g, 0, none⟩)] w fun e w' => e = .returned (.tuple #[]) ∧ ∃ p', Fr [g] w w' [.blk g 68 (rrL A n c p' f wh m)] ∧ (f = 0 → p' = jBlanks b p) := by
  by_cases hf : f = 0
  · subst hf
    exact (rblanks_ok g A n c p wh m B b w hh hg hB (by omega) (hp rfl) hr).mono fun e w' h => ⟨h.1, _, h.2, fun _ => rfl⟩
  · exact (rblanks_bad g A n c p f wh m B b w hf hh hr).mono fun e w' h => ⟨h.1, _, h.2, fun h => absurd h hf⟩
theorem rword_u {w : World} {g : Nat} {A : Option Addr} {n c p f wh m B : Nat} {b : List UInt8} (s : ByteArray) (hs : s.size ≤ 1000) (hw : f = 0 → wh = 0) (hh : w.heap[g]? = some (.cells (rrL A n c p f wh m).toArray 68 (0, 0))) (hg : B ≤ g) (hB : B ≤ w.heap.size) (hn : n ≤ 65536) (hp : f = 0 → p ≤ n) (hr : Rd w (· < B) A 1 n (b.map bv)) :
    Calls Tryd.prog 43 #[.pointer (some ⟨g, 0, none⟩), .string s] w fun e w' => e = .returned (.tuple #[]) ∧ ∃ p' f' wh' m', Fr [g] w w' [.blk g 68 (rrL A n c p' f' wh' m')] ∧ JS (jr f wh (jWord b s.data.toList p)) f' wh' (.ok p') ∧ (f' = 0 → m = m') := by
  by_cases hf : f = 0
  · subst hf
    obtain rfl := hw rfl
    exact (rword_ok g A n c p m B b s w hh hg hB (by omega) (hp rfl) hs hr).mono fun e w' h => ⟨h.1, by rw [jr_ok]; exact h.2.u (jWord_er _ _ _)⟩
  · exact (rword_bad g A n c p f wh m s w hf hh).mono fun e w' h => ⟨h.1, _, _, _, _, h.2, .inr ⟨hf, jr_bad hf⟩, fun _ => rfl⟩
theorem rwant_u {w : World} {g : Nat} {A : Option Addr} {n c p f wh m B : Nat} {b : List UInt8} (hw : f = 0 → wh = 0) (hh : w.heap[g]? = some (.cells (rrL A n c p f wh m).toArray 68 (0, 0))) (hg : B ≤ g) (hB : B ≤ w.heap.size) (hn : n ≤ 65536) (hp : f = 0 → p ≤ n) (hr : Rd w (· < B) A 1 n (b.map bv)) :
    Calls Tryd.prog 42 #[.pointer (some ⟨g, 0, none⟩)] w fun e w' => ∃ (y f' wh' : Nat), e = .returned (.int .i64 (y : Int)) ∧ Fr [g] w w' [.blk g 68 (rrL A n c p f' wh' m)] ∧ ((∃ x : UInt8, b[p]? = some x ∧ y = x.toNat ∧ 0 = f' ∧ 0 = wh' ∧ JS (jr f wh (jNext b p)) f' wh' (.ok x)) ∨ (y = 256 ∧ f' ≠ 0 ∧ jr f wh (jNext b p) = .error (wh', f'))) := by
  by_cases hf : f = 0
  · subst hf
    obtain rfl := hw rfl
    cases hx : b[p]? with
    | some x => exact (rwant_in hx hh hr).mono fun e w' h => ⟨_, _, _, h.1, h.2, .inl ⟨x, rfl, rfl, rfl, rfl, .inl ⟨rfl, rfl, by rw [jr_ok]; unfold jNext; rw [hx]⟩⟩⟩
    | none => exact (rwant_end hx hh hr).mono fun e w' h => ⟨256, 9, n, h.1, h.2, .inr ⟨rfl, by decide, by rw [jr_ok]; unfold jNext; rw [hx, hr.bytes_len]⟩⟩
  · exact (rwant_bad hf hh hr).mono fun e w' h => ⟨256, f, wh, h.1, h.2, .inr ⟨rfl, hf, jr_bad hf⟩⟩
theorem rfail_u {w : World} {g : Nat} {A : Option Addr} {n c p f wh m : Nat} (x : Nat × Nat) (hx : x.2 ≠ 0) (hw : f = 0 → wh = 0) (hh : w.heap[g]? = some (.cells (rrL A n c p f wh m).toArray 68 (0, 0))) :
    Calls Tryd.prog 30 #[.pointer (some ⟨g, 0, none⟩), .int .i64 (x.1 : Int), .int .i64 (x.2 : Int)] w fun e w' => e = .returned (.tuple #[]) ∧ ∃ f' wh', f' ≠ 0 ∧ Fr [g] w w' [.blk g 68 (rrL A n c p f' wh' m)] ∧ ∀ α, (jr f wh (.error x) : JR α) = .error (wh', f') := by
  by_cases hf : f = 0
  · subst hf
    obtain rfl := hw rfl
    exact (rfail_ok g A n c p m x w hh).mono fun e w' h => ⟨h.1, _, _, hx, h.2, fun _ => jr_ok⟩
  · exact (rfail_bad g A n c p f wh m x.1 x.2 w hf hh).mono fun e w' h => ⟨h.1, _, _, hf, h.2, fun _ => jr_bad hf⟩
theorem rtext_u {w : World} {g : Nat} {A : Option Addr} {n c p m B : Nat} {b : List UInt8} (hh : w.heap[g]? = some (.cells (rrL A n c p 0 0 m).toArray 68 (0, 0))) (hg : B ≤ g) (hB : B ≤ w.heap.size) (hn : n ≤ 65536) (hnc : n ≤ c) (hp : p ≤ n) (hr : Rd w (· < B) A 1 n (b.map bv)) :
    Calls Tryd.prog 45 #[.pointer (some ⟨g, 0, none⟩)] w fun e w' => ∃ (s : List UInt8) (p' f' wh' m' : Nat), e = .returned (.string ⟨s.toArray⟩) ∧ Fr [g] w w' [.blk g 68 (rrL A n c p' f' wh' m')] ∧ JS (jText b p) f' wh' (.ok (s, p')) ∧ (f' = 0 → m = m') := by
  refine (rtext_ok g A n c p m B b w hh hg hB hn hnc hp hr).mono fun e w' h => ?_
  have her := jText_er b p
  unfold RTxt at h
  cases hT : jText b p with
  | ok r =>
    rw [hT] at h
    exact ⟨r.1, r.2, 0, 0, m, h.1, h.2, .inl ⟨rfl, rfl, rfl⟩, fun _ => rfl⟩
  | error x =>
    rw [hT] at h
    obtain ⟨s, p', m', he, hF⟩ := h
    exact ⟨s.data.toList, p', x.2, x.1, m', he, hF, .inr ⟨her x hT, rfl⟩, fun h => absurd h (her x hT)⟩
/-- A value is told, before a fault or behind one. -/
def RValU (w : World) (g : Nat) (A : Option Addr) (n c : Nat) (J : JR (JV × Nat × Nat)) (e : Ending) (w' : World) : Prop :=
  ∃ cs es v p' f' wh' m', e = .returned (.agg cs.toArray) ∧ VT v cs es ∧ Fr [g] w w' (.blk g 68 (rrL A n c p' f' wh' m') :: es) ∧ JS J f' wh' (.ok (v, p', m'))
theorem RVal.u {w w' : World} {g : Nat} {A : Option Addr} {n c : Nat} {J : JR (JV × Nat × Nat)} {e : Ending} (h : RVal w g A n c J e w') (he : JEr J) : RValU w g A n c J e w' := by
  obtain ⟨cs, es, rfl, h⟩ := h
  cases J with
  | ok x =>
    obtain ⟨v, q, m'⟩ := x
    exact ⟨cs, es, v, q, 0, 0, m', rfl, h.1, h.2, .inl ⟨rfl, rfl, rfl⟩⟩
  | error x =>
    obtain ⟨v, p', m', hv, hF⟩ := h
    exact ⟨cs, es, v, p', x.2, x.1, m', rfl, hv, hF, .inr ⟨he x rfl, rfl⟩⟩
theorem RVal.of {w w' : World} {g : Nat} {A : Option Addr} {n c p f wh m : Nat} {J : JR (JV × Nat × Nat)} {v : JV} {cs : List Value} {es : List Ent} (hv : VT v cs es) (hF : Fr [g] w w' (.blk g 68 (rrL A n c p f wh m) :: es)) (h : JS J f wh (.ok (v, p, m))) : RVal w g A n c J (.returned (.agg cs.toArray)) w' := by
  rcases h with ⟨rfl, rfl, rfl⟩ | ⟨hf, rfl⟩
  · exact ⟨cs, es, rfl, hv, hF⟩
  · exact ⟨cs, es, rfl, v, p, m, hv, hF⟩
/-- The reader of values keeps its word at a depth. -/
def RValueOk (d deep : Nat) : Prop := ∀ (w : World) (g : Nat) (A : Option Addr) (n c p f wh m B : Nat) (b : List UInt8), w.heap[g]? = some (.cells (rrL A n c p f wh m).toArray 68 (0, 0)) → B ≤ g → B ≤ w.heap.size → n ≤ 65536 → n ≤ c → (f = 0 → wh = 0) → (f = 0 → p ≤ n) → (f = 0 → m ≤ 4096) → Rd w (· < B) A 1 n (b.map bv) →
  Calls Tryd.prog 29 #[.pointer (some ⟨g, 0, none⟩), .int .i64 (deep : Int)] w (RValU w g A n c (jr f wh (jValue b d p m)))

end Go.Proofs.YtdekogmegdhjoaaDoor
