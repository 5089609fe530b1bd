/-
 Layer 6: a value that came in. No program is named here.
 Layer 7 in plain words: names of repositories, tags, media types. No program is named here.
 Layer 7 in plain words, further: where a sign stands first; pieces; tags; media types. No program is named here.
 Layer 1: plain laws on counts. No program is named here.
 Layer 1: plain laws on digits, numbers and texts. No program is named here.
 Layer 2 in plain words, as far as layer 7 needs it: the text of a sum. No program is named here.
 Layer 8 in plain words: manifests read. No program is named here.
 Layer 8: notes, descriptors and documents on the heap. No program is named here.
 Layer 6, plain law: what was read is small, and an object has a name for each member, and each once. No program is named here.
 Layer 7: the walks of small, sign (both texts).
 Layer 7: short laws.
 Layer 7: the library's variable.
 Layer 7 in plain words: references. No program is named here.
 Layer 7: the walks of half and IsMedia.
-/
import Derived.Test.YtlhicfpmlncomaaGreatDoorF05
import Derived.Test.YtlhicfpmlncomaaGreatDoorF07
import Derived.Test.YtlhicfpmlncomaaGreatDoorF02
import Derived.Lib.Split
import Derived.Lib.IndexMore
import Derived.Lib.SplitLaws
import Derived.Test.YtlhicfpmlncomaaGreatDoorF01
import Derived.Test.YtlhicfpmlncomaaGreatDoorRows
import Derived.Test.YtlhicfpmlncomaaGreatDoorF04
import Derived.Test.YtlhicfpmlncomaaGreatDoorF00
set_option linter.unusedSimpArgs false
set_option linter.unusedVariables false
namespace Go.Proofs.YtlhicfpmlncomaaGreatDoor
open Go.ChangeShapes Go.WideShapes Go.ChangeAt Go.RowKit
mutual
def jW : JV → Nat
 | .mk _ _ t ns ks => t.length + (ns.map (·.length + 1)).sum + jWL ks + 1
def jWL : List JV → Nat
 | [] => 0
 | v :: vs => jW v + jWL vs
end
mutual
def JI : JV → Prop
 | .mk k n _ _ ks => (-9223372036854775808 ≤ k ∧ k ≤ 9223372036854775807) ∧ (-9223372036854775808 ≤ n ∧ n ≤ 9223372036854775807) ∧ JIL ks
def JIL : List JV → Prop
 | [] => True
 | v :: vs => JI v ∧ JIL vs
end
theorem jWn_mem : ∀ {ns : List (List UInt8)} {s : List UInt8}, s ∈ ns → s.length + 1 ≤ (ns.map (·.length + 1)).sum
 | [], _, h => by cases h
 | n :: ns, s, h => by
  rw [List.map_cons, List.sum_cons]
  rcases List.mem_cons.1 h with rfl | h
  ·omega
  ·have := jWn_mem h; omega
theorem jWn_tail (ns : List (List UInt8)) : (ns.headD []).length + (ns.tail.map (·.length + 1)).sum ≤ (ns.map (·.length + 1)).sum := by
 cases ns with
 | nil => simp
 | cons n ns => simp [List.sum_cons]; try omega
mutual
theorem jW_full : ∀ (v : JV), JI v → (jFull v).length + 4 ≤ 30 * jW v
 | .mk k n t ns ks, h => by
  rw [JI] at h
  have hq := jQuote_len t
  have hi := itoa_len h.2.1.1 h.2.1.2
  have h5 := jWL_full ks true false ns h.2.2
  have h6 := jWL_full ks false false ns h.2.2
  rw [jFull, jW]
  split
  ·simp; omega
  split
  ·simp; omega
  split
  ·simp; omega
  split
  ·omega
  split
  ·omega
  split
  ·simp only [List.length_append, List.length_cons, List.length_nil]; omega
  ·simp only [List.length_append, List.length_cons, List.length_nil]; omega
theorem jWL_full : ∀ (ks : List JV) (obj more : Bool) (ns : List (List UInt8)), JIL ks → (jFullL obj more ns ks).length ≤ 30 * jWL ks + 6 * (ns.map (·.length + 1)).sum
 | [], obj, more, ns, _ => by rw [jFullL]; simp
 | v :: vs, obj, more, ns, h => by
  rw [JIL] at h
  have h1 := jW_full v h.1
  have h2 := jWL_full vs obj true ns.tail h.2
  have h3 := jQuote_len (ns.headD [])
  have h4 := jWn_tail ns
  rw [jFullL, jWL]
  have hp : 1 ≤ jW v := by cases v; rw [jW]; omega
  simp only [List.length_append]
  have e1 : (if more = true then [(44 : UInt8)] else []).length ≤ 1 := by split <;> simp
  have e2 : (if obj = true then jQuote (ns.headD []) ++ [58] else []).length ≤ 6 * (ns.headD []).length + 3 := by
   split
   ·simp only [List.length_append, List.length_cons, List.length_nil]; omega
   ·simp
  omega
end
theorem sum_le {α : Type} {H : Type} {g : α → Nat} : ∀ (l : List α) (es : List (DataW H × List MemPlace)), l.length = es.length → (∀ (i : Nat) (u : α) (e : DataW H × List MemPlace), l[i]? = some u → es[i]? = some e → g u ≤ Rows.uptoBulk e.1) → (l.map g).sum ≤ Rows.uptoBulkAll (es.map (·.1))
 | [], [], _, _ => by simp [Rows.uptoBulkAll]
 | u :: l, e :: es, hl, h => by
  have h0 := h 0 u e rfl rfl
  have h1 := sum_le (g := g) l es (by simpa using hl) (fun i u e hu he => h (i + 1) u e (by simpa using hu) (by simpa using he))
  simp only [List.map_cons, List.sum_cons, Rows.uptoBulkAll]
  omega
 | [], _ :: _, hl, _ => by simp at hl
 | _ :: _, [], hl, _ => by simp at hl
section
variable {H : Type} {enc : TypeId × Value → H} {P : Program} {W : World} {hd : Bool} {fuel : Nat}
theorem slR_in {α : Type} {t e : TypeId} {sz : Nat} (ht : P.underlying t = some (.slice e)) (hc : P.cellsOf e = sz) (hpos : 0 < sz) {f : α → List Value} {g : α → Nat} {p : α → Prop} (hel : ∀ m cs x, m < fuel → DataW.trod enc P W 0 (fun _ => true) hd m e cs = some x → ∃ u : α, cs = f u ∧ (f u).length = sz ∧ p u ∧ g u ≤ Rows.uptoBulk x.1)
  {cs : List Value} {x : DataW H × List MemPlace} (h : DataW.trod enc P W 0 (fun _ => true) hd fuel t cs = some x) :
  ∃ (A : Option Addr) (len cap : Nat) (l : List α), cs = [.slice A len cap] ∧ len ≤ cap ∧ l.length = len ∧ Rd W (· < W.heap.size) A sz len (l.flatMap f) ∧ (∀ u ∈ l, (f u).length = sz ∧ p u) ∧ (l.map g).sum + 1 ≤ Rows.uptoBulk x.1 := by
 rcases DataW.trod_slice ht h with ⟨hcs, hx⟩ | ⟨a, len, cap, es, rest, n, hfu, hcs, hx, _, hl, hm, hlen, hat, hsp, _⟩
 ·exact ⟨none, 0, 0, [], hcs, Nat.le_refl _, rfl, Rd.nil _ _ _ _, fun u hu => by simp at hu, by rw [hx]; simp [Rows.uptoBulk]⟩
 ·have key : ∀ i, i < len → ∃ u : α, W.cells? 0 (a.add (i * sz)) sz = some (f u) ∧ (f u).length = sz ∧ p u ∧ ∀ e, es[i]? = some e → g u ≤ Rows.uptoBulk e.1 := fun i hi => by
   have h1 := hat i hi
   rw [hc, List.getElem?_eq_getElem (by omega), Option.bind_eq_some_iff] at h1
   obtain ⟨cs', h2, h3⟩ := h1
   obtain ⟨u, rfl, h4, h5, h6⟩ := hel n _ _ (by omega) h3
   exact ⟨u, h2, h4, h5, fun e he => by
    rw [List.getElem?_eq_getElem (by omega)] at he
    injection he with he
    rw [← he]; exact h6⟩
  obtain ⟨l, hll, hp⟩ := list_of len key
  have hone : ∀ u ∈ l, (f u).length = sz ∧ p u := fun u hu => by
   obtain ⟨i, hi⟩ := List.mem_iff_getElem?.1 hu
   exact ⟨(hp i u hi).2.1, (hp i u hi).2.2.1⟩
  have hcell : ∀ j v, (l.flatMap f)[j]? = some v → W.cell? (a.add j) = some v := fun j v hv => by
   obtain ⟨u, h1, h2⟩ := flat_at hpos (fun u hu => (hone u hu).1) hv
   obtain ⟨h3, _⟩ := hp _ u h1
   obtain ⟨_, _, h5⟩ := World.cells?_some h3
   have h6 := h5 (j % sz) (Nat.mod_lt _ hpos)
   rw [add_add, Nat.mul_comm, Nat.div_add_mod] at h6
   rw [h6]; exact h2
  have hfl : (l.flatMap f).length = len * sz := by rw [flat_len (fun u hu => (hone u hu).1), hll]
  refine ⟨some a, len, cap, l, hcs, hl, hll, ⟨hfl, fun _ => rfl, fun h0 => ?_, hcell⟩, hone, ?_⟩
  ·have hlt : 0 < (l.flatMap f).length := by rw [hfl]; exact Nat.mul_pos h0 hpos
   have := hcell 0 _ (List.getElem?_eq_getElem hlt)
   have hb := World.block_lt_of_cell? W _ this
   have e : (a.add 0).block = a.block := by unfold Addr.add; split <;> rfl
   rw [e] at hb
   exact hb
  ·have := sum_le (g := g) l es (by omega) (fun i u e hu he => (hp i u hu).2.2.2 e he)
   rw [hx]
   show _ ≤ Rows.uptoBulk (DataW.slice _ _)
   simp only [Rows.uptoBulk]
   omega
structure JVT (P : Program) (t : TypeId) (fs : Array Field) (f0 f1 f2 f3 f4 : Field) (us : TypeId) : Prop where
 und : P.underlying t = some (.struct fs)
 size : P.cellsOf t = 5
 at_ : fs = #[f0, f1, f2, f3, f4]
 off : [f0, f1, f2, f3, f4].map (fun f => (f.offset, P.cellsOf f.type)) = [(0, 1), (1, 1), (2, 1), (3, 1), (4, 1)]
 typ : [f0, f1, f2, f3, f4].map (fun f => P.underlying f.type) = [some (.int .i64), some (.int .i64), some .string, some (.slice us), some (.slice t)]
 str : P.underlying us = some .string
 sone : P.cellsOf us = 1
end
end Go.Proofs.YtlhicfpmlncomaaGreatDoor

namespace Go.Proofs.YtlhicfpmlncomaaGreatDoor
open Go.RowKit
def smallB (c : UInt8) : Bool := decide (97 ≤ c.toNat ∧ c.toNat ≤ 122 ∨ 48 ≤ c.toNat ∧ c.toNat ≤ 57)
def signB (c : UInt8) : Bool := decide ((97 ≤ c.toNat ∧ c.toNat ≤ 122 ∨ 48 ≤ c.toNat ∧ c.toNat ≤ 57) ∨ 65 ≤ c.toNat ∧ c.toNat ≤ 90)
def step (q : Nat) (c : UInt8) : Option Nat :=
 if smallB c = true then some 1 else if c = 47 then (if q = 1 then some 0 else none) else if c = 46 then (if q = 1 then some 2 else none)
 else if c = 95 then (if q = 1 then some 3 else if q = 3 then some 2 else none) else if c = 45 then (if q = 1 ∨ q = 4 then some 4 else none) else none
def acc : Nat → List UInt8 → Bool
 | q, [] => q == 1
 | q, c :: l => match step q c with
  | none => false
  | some q' => acc q' l
theorem kind (c : UInt8) : smallB c = true ∨ c = 47 ∨ c = 46 ∨ c = 95 ∨ c = 45 ∨ (smallB c = false ∧ c ≠ 47 ∧ c ≠ 46 ∧ c ≠ 95 ∧ c ≠ 45) := by
 by_cases h : smallB c = true
 ·exact .inl h
 ·by_cases h1 : c = 47
  ·exact .inr (.inl h1)
  ·by_cases h2 : c = 46
   ·exact .inr (.inr (.inl h2))
   ·by_cases h3 : c = 95
    ·exact .inr (.inr (.inr (.inl h3)))
    ·by_cases h4 : c = 45
     ·exact .inr (.inr (.inr (.inr (.inl h4))))
     ·exact .inr (.inr (.inr (.inr (.inr ⟨by simpa using h, h1, h2, h3, h4⟩))))
end Go.Proofs.YtlhicfpmlncomaaGreatDoor

namespace Go.Proofs.YtlhicfpmlncomaaGreatDoor
open Go.RowKit
def findN (c : UInt8) : List UInt8 → Nat
 | [] => 0
 | d :: l => if d = c then 0 else findN c l + 1
theorem findN_le (c : UInt8) : ∀ l, findN c l ≤ l.length
 | [] => Nat.le_refl _
 | d :: l => by unfold findN; have := findN_le c l; split <;> simp <;> omega
theorem index_find (c : UInt8) : ∀ l : List UInt8, Lib.index l [c] = if findN c l < l.length then (findN c l : Int) else -1
 | [] => rfl
 | d :: l => by
  have ih := index_find c l
  unfold Lib.index findN
  by_cases h : d = c
  ·subst h
   rw [if_pos (by simp [List.isPrefixOf]), if_pos rfl, if_pos (by simp)]; rfl
  ·rw [if_neg (by simp [List.isPrefixOf]; exact fun e => h e.symm), if_neg h, ih]
   have := findN_le c l
   by_cases h2 : findN c l < l.length
   ·rw [if_pos h2, if_neg (by rw [beq_iff_eq]; omega), if_pos (by simpa using h2)]; simp
   ·rw [if_neg h2, if_pos (by rfl), if_neg (by simpa using h2)]
theorem cut_find (c : UInt8) (l : List UInt8) : Lib.cut l [c] = if findN c l < l.length then (l.take (findN c l), l.drop (findN c l + 1), true) else (l, [], false) := by
 unfold Lib.cut
 rw [index_find]
 by_cases h : findN c l < l.length
 ·rw [if_pos h, if_pos (by omega), if_pos h]; simp
 ·rw [if_neg h, if_neg (by omega), if_neg h]
theorem all_at {p : UInt8 → Bool} {l : List UInt8} (h : ∀ (j : Nat) c, l[j]? = some c → p c = true) : l.all p = true :=
 List.all_eq_true.2 fun c hc => by obtain ⟨j, hj⟩ := List.mem_iff_getElem?.1 hc; exact h j c hj
theorem all_not {p : UInt8 → Bool} {l : List UInt8} {k : Nat} {c : UInt8} (h : l[k]? = some c) (hc : p c = false) : l.all p = false := by
 cases ha : l.all p with
 | false => rfl
 | true => have := List.all_eq_true.1 ha c (List.mem_of_getElem? h); rw [hc] at this; cases this
/-! media types -/
def moreS : ByteArray := ⟨#[33, 35, 36, 38, 45, 94, 95, 46, 43]⟩
def moreB (c : UInt8) : Bool := moreS.data.toList.any (· == c)
theorem indexByte_any (c : UInt8) : ∀ l : List UInt8, decide (Lib.indexByte l c < 0) = !(l.any (· == c))
 | [] => rfl
 | d :: l => by
  have ih := indexByte_any c l
  have hge := Lib.indexByte_ge l c
  unfold Lib.indexByte
  rw [List.any_cons]
  by_cases h : (d == c) = true
  ·rw [if_pos h, h]; rfl
  ·have hf : (d == c) = false := by simpa using h
   rw [if_neg h, hf, Bool.false_or, ← ih]
   by_cases h2 : Lib.indexByte l c = -1
   ·rw [if_pos (beq_iff_eq.2 h2), h2]
   ·rw [if_neg (by rw [beq_iff_eq]; exact h2)]
    have h3 : ¬ Lib.indexByte l c < 0 := by omega
    have h4 : ¬ Lib.indexByte l c + 1 < 0 := by omega
    rw [decide_eq_false h3, decide_eq_false h4]
def restC (c : UInt8) : Bool := signB c || moreB c
def halfB : List UInt8 → Bool
 | [] => false
 | c :: l => signB c && l.all restC
def mediaB (l : List UInt8) : Bool := decide (findN 47 l < l.length) && decide (l.length ≤ 127) && (halfB (l.take (findN 47 l)) && halfB (l.drop (findN 47 l + 1)))
def macc : Nat → Bool → List UInt8 → Bool
 | h, b, [] => b && h == 2
 | h, b, c :: l => if c = 47 ∧ b = true then macc (h + 1) false l else if (signB c || (b && moreB c)) = true then macc h true l else false
theorem macc_big : ∀ (l : List UInt8) (h : Nat) (b : Bool), 3 ≤ h → macc h b l = false
 | [], h, b, hh => by have h2 : (h == 2) = false := by rw [beq_eq_false_iff_ne]; omega
                      rw [macc, h2, Bool.and_false]
 | c :: l, h, b, hh => by
  rw [macc]
  split
  ·exact macc_big l _ _ (by omega)
  ·split
   ·exact macc_big l _ _ hh
   ·rfl
theorem rest47 : restC 47 = false := by decide
theorem sign47 : signB 47 = false := by decide
theorem macc_rest : ∀ l : List UInt8, macc 2 true l = l.all restC
 | [] => rfl
 | c :: l => by
  rw [macc, List.all_cons]
  by_cases h : c = 47
  ·subst h; rw [if_pos ⟨rfl, rfl⟩, macc_big _ _ _ (by omega), rest47]; rfl
  ·rw [if_neg (fun hh => h hh.1)]
   simp only [Bool.true_and]
   show (if restC c = true then macc 2 true l else false) = (restC c && l.all restC)
   cases hr : restC c with
   | true => rw [if_pos rfl, macc_rest l]; rfl
   | false => rw [if_neg (by simp)]; rfl
theorem macc_half2 : ∀ l : List UInt8, macc 2 false l = halfB l
 | [] => rfl
 | c :: l => by
  rw [macc, if_neg (fun hh => by cases hh.2), halfB]
  simp only [Bool.false_and, Bool.or_false]
  cases hr : signB c with
  | true => rw [if_pos rfl, macc_rest l]; rfl
  | false => rw [if_neg (by simp)]; rfl
theorem macc_one : ∀ l : List UInt8, macc 1 true l = (decide (findN 47 l < l.length) && ((l.take (findN 47 l)).all restC && halfB (l.drop (findN 47 l + 1))))
 | [] => rfl
 | c :: l => by
  rw [macc]
  unfold findN
  by_cases h : c = 47
  ·subst h
   rw [if_pos ⟨rfl, rfl⟩, if_pos rfl, macc_half2]
   simp
  ·rw [if_neg (fun hh => h hh.1), if_neg h]
   simp only [Bool.true_and]
   show (if restC c = true then macc 1 true l else false) = _
   rw [macc_one l]
   cases hr : restC c with
   | true => rw [if_pos rfl]; simp [hr]
   | false => rw [if_neg (by simp)]; simp [hr]
theorem media_macc (l : List UInt8) : mediaB l = (macc 1 false l && decide (l.length ≤ 127)) := by
 have key : macc 1 false l = (decide (findN 47 l < l.length) && (halfB (l.take (findN 47 l)) && halfB (l.drop (findN 47 l + 1)))) := by
  cases l with
  | nil => rfl
  | cons c l =>
   rw [macc, if_neg (fun hh => by cases hh.2)]
   simp only [Bool.false_and, Bool.or_false]
   unfold findN
   by_cases h : c = 47
   ·subst h
    rw [if_pos rfl, if_neg (by rw [sign47]; simp)]
    simp [halfB]
   ·rw [if_neg h, macc_one l]
    simp only [List.take_succ_cons, halfB, List.drop_succ_cons, List.length_cons, Nat.add_lt_add_iff_right]
    cases hr : signB c with
    | true => rw [if_pos rfl]; simp
    | false => rw [if_neg (by simp)]; simp
 unfold mediaB
 rw [key]
 cases decide (findN 47 l < l.length) <;> cases decide (l.length ≤ 127) <;> simp
end Go.Proofs.YtlhicfpmlncomaaGreatDoor

namespace Go.Proofs.YtlhicfpmlncomaaGreatDoor
end Go.Proofs.YtlhicfpmlncomaaGreatDoor

namespace Go.Proofs.YtlhicfpmlncomaaGreatDoor
theorem hexv_hexd (x : UInt8) (h : x.toNat < 16) : hexv (hexd x) = some x := by
 have : ∀ n : Fin 16, hexv (hexd (UInt8.ofNat n.val)) = some (UInt8.ofNat n.val) := by decide +kernel
 have h2 := this ⟨x.toNat, h⟩
 simpa using h2
theorem hexd_hexv (c v : UInt8) (h : hexv c = some v) : hexd v = c ∧ v.toNat < 16 := by
 have : ∀ n : Fin 256, ((hexv (UInt8.ofNat n.val)).map (fun v => decide (hexd v = UInt8.ofNat n.val ∧ v.toNat < 16))).getD true = true := by decide +kernel
 have h2 := this ⟨c.toNat, c.toNat_lt⟩
 simp only [UInt8.ofNat_toNat] at h2
 rw [h] at h2
 exact of_decide_eq_true h2
theorem nib_back (d : UInt8) : 16 * (d / 16) + d % 16 = d := by
 have : ∀ n : Fin 256, 16 * (UInt8.ofNat n.val / 16) + UInt8.ofNat n.val % 16 = UInt8.ofNat n.val := by decide +kernel
 have h2 := this ⟨d.toNat, d.toNat_lt⟩
 simpa using h2
theorem nib_div (x y : UInt8) (hx : x.toNat < 16) (hy : y.toNat < 16) : (16 * x + y) / 16 = x ∧ (16 * x + y) % 16 = y := by
 have : ∀ n m : Fin 16, (16 * UInt8.ofNat n.val + UInt8.ofNat m.val) / 16 = UInt8.ofNat n.val ∧ (16 * UInt8.ofNat n.val + UInt8.ofNat m.val) % 16 = UInt8.ofNat m.val := by decide +kernel
 have h2 := this ⟨x.toNat, hx⟩ ⟨y.toNat, hy⟩
 simpa using h2
theorem unhex_hex : ∀ (l : List UInt8), unhexL (hexL l) = some l
 | [] => rfl
 | d :: l => by
  have h1 : (d / 16).toNat < 16 := by rw [UInt8.toNat_div]; have := d.toNat_lt; show d.toNat / 16 < 16; omega
  have h2 : (d % 16).toNat < 16 := by rw [UInt8.toNat_mod]; show d.toNat % 16 < 16; omega
  rw [hexL, unhexL, hexv_hexd _ h1, hexv_hexd _ h2, unhex_hex l]
  simp only []
  rw [nib_back]
theorem hex_unhex : ∀ (s r : List UInt8), unhexL s = some r → hexL r = s
 | [], r, h => by rw [unhexL] at h; injection h with h; subst h; rfl
 | [a], r, h => by rw [unhexL] at h; cases h
 | a :: b :: s, r, h => by
  rw [unhexL] at h
  cases ha : hexv a with
  | none => rw [ha] at h; cases h
  | some x =>
   cases hb : hexv b with
   | none => rw [ha, hb] at h; cases h
   | some y =>
    cases hs : unhexL s with
    | none => rw [ha, hb, hs] at h; cases h
    | some q =>
     rw [ha, hb, hs] at h
     injection h with h
     subst h
     have h1 := hexd_hexv a x ha
     have h2 := hexd_hexv b y hb
     have h3 := nib_div x y h1.2 h2.2
     rw [hexL, h3.1, h3.2, h1.1, h2.1, hex_unhex s q hs]
end Go.Proofs.YtlhicfpmlncomaaGreatDoor

namespace Go.Proofs.YtlhicfpmlncomaaGreatDoor
open Go.RowKit
def zeros : List UInt8 := List.replicate 32 0
theorem zeros_len : (zeros.map bv).length = 32 := by simp [zeros]
def sha7 : List UInt8 := [115, 104, 97, 50, 53, 54, 58]
def dgT (d : List UInt8) : List UInt8 := sha7 ++ hexL d
def dgP (l : List UInt8) : Option (List UInt8) := if l.length = 71 ∧ l.take 7 = sha7 then unhexL (l.drop 7) else none
theorem hexL_len2 : ∀ l : List UInt8, (hexL l).length = 2 * l.length
 | [] => rfl
 | d :: l => by rw [hexL]; simp [hexL_len2 l]; omega
theorem dgP_len {l d : List UInt8} (h : dgP l = some d) : d.length = 32 := by
 unfold dgP at h
 split at h
 ·rename_i hh
  have h1 := hex_unhex _ _ h
  have h2 := hexL_len2 d
  rw [h1, List.length_drop, hh.1] at h2
  omega
 ·cases h
theorem dgP_T {d : List UInt8} (h : d.length = 32) : dgP (dgT d) = some d := by
 unfold dgP dgT
 rw [if_pos ⟨by rw [List.length_append, hexL_len2, h]; rfl, by rw [List.take_append_of_le_length (by simp [sha7])]; rfl⟩, List.drop_append_of_le_length (by simp [sha7])]
 exact unhex_hex d
theorem dgP_no1 {l : List UInt8} (h : l.length ≠ 71) : dgP l = none := by unfold dgP; rw [if_neg (fun hh => h hh.1)]
theorem dgP_no2 {l : List UInt8} (h : l.take 7 ≠ sha7) : dgP l = none := by unfold dgP; rw [if_neg (fun hh => h hh.2)]
theorem dgP_yes {l : List UInt8} (h : l.length = 71) (h2 : l.take 7 = sha7) : dgP l = unhexL (l.drop 7) := by unfold dgP; rw [if_pos ⟨h, h2⟩]
end Go.Proofs.YtlhicfpmlncomaaGreatDoor

namespace Go.Proofs.YtlhicfpmlncomaaGreatDoor
structure MNote where
 key : List UInt8
 val : List UInt8
structure MDesc where
 media : List UInt8
 dig : List UInt8
 size : Int
 notes : List MNote
structure MDoc where
 media : List UInt8
 type : List UInt8
 config : MDesc
 edges : List MDesc
 subject : MDesc
 has : Bool
 notes : List MNote
def MDesc.zero : MDesc := ⟨[], zeros, 0, []⟩
def MDoc.zero : MDoc := ⟨[], [], .zero, [], .zero, false, []⟩
abbrev MR (α : Type) := Except Nat α
def kMedia : List UInt8 := [109, 101, 100, 105, 97, 84, 121, 112, 101]
def kDigest : List UInt8 := [100, 105, 103, 101, 115, 116]
def kSize : List UInt8 := [115, 105, 122, 101]
def kNotes : List UInt8 := [97, 110, 110, 111, 116, 97, 116, 105, 111, 110, 115]
def kVersion : List UInt8 := [115, 99, 104, 101, 109, 97, 86, 101, 114, 115, 105, 111, 110]
def kType : List UInt8 := [97, 114, 116, 105, 102, 97, 99, 116, 84, 121, 112, 101]
def kConfig : List UInt8 := [99, 111, 110, 102, 105, 103]
def kLayers : List UInt8 := [108, 97, 121, 101, 114, 115]
def kManifests : List UInt8 := [109, 97, 110, 105, 102, 101, 115, 116, 115]
def kSubject : List UInt8 := [115, 117, 98, 106, 101, 99, 116]
def sImage : List UInt8 := [97, 112, 112, 108, 105, 99, 97, 116, 105, 111, 110, 47, 118, 110, 100, 46, 111, 99, 105, 46, 105, 109, 97, 103, 101, 46, 109, 97, 110, 105, 102, 101, 115, 116, 46, 118, 49, 43, 106, 115, 111, 110]
def sIndex : List UInt8 := [97, 112, 112, 108, 105, 99, 97, 116, 105, 111, 110, 47, 118, 110, 100, 46, 111, 99, 105, 46, 105, 109, 97, 103, 101, 46, 105, 110, 100, 101, 120, 46, 118, 49, 43, 106, 115, 111, 110]
def mText (v : JV) : MR (List UInt8) := if v.kind = 4 then .ok v.text else .error 80
def mMedia (v : JV) : MR (List UInt8) := if v.kind = 4 then (if mediaB v.text = true then .ok v.text else .error 72) else .error 80
def mNotesL : List (List UInt8) → List JV → MR (List MNote)
 | n :: ns, k :: ks => if k.kind = 4 then (match mNotesL ns ks with | .ok l => .ok (⟨n, k.text⟩ :: l) | .error e => .error e) else .error 80
 | _, _ => .ok []
def mNotes (v : JV) : MR (List MNote) :=
 if v.kind = 6 then (if 32 < v.kids.length then .error 8 else mNotesL v.names v.kids) else .error 80
structure MHad where
 a : Bool
 b : Bool
 c : Bool
def mdStep (d : MDesc) (h : MHad) (n : List UInt8) (k : JV) : MR (MDesc × MHad) :=
 if n = kMedia then (match mMedia k with | .ok s => .ok ({ d with media := s }, { h with a := true }) | .error e => .error e)
 else if n = kDigest then (if k.kind = 4 then (match dgP k.text with | some x => .ok ({ d with dig := x }, { h with b := true }) | none => .error 20) else .error 80)
 else if n = kSize then (if k.kind = 3 then (if k.num < 0 ∨ 1099511627776 < k.num then .error 81 else .ok ({ d with size := k.num }, { h with c := true })) else .error 80)
 else if n = kNotes then (match mNotes k with | .ok l => .ok ({ d with notes := l }, h) | .error e => .error e)
 else .error 80
def mDescL : MDesc → MHad → List (List UInt8) → List JV → MR MDesc
 | d, h, n :: ns, k :: ks => match mdStep d h n k with
  | .ok (d', h') => mDescL d' h' ns ks
  | .error e => .error e
 | d, h, _, _ => if h.a = true ∧ h.b = true ∧ h.c = true then .ok d else .error 80
def mDesc (v : JV) : MR MDesc := if v.kind = 6 then mDescL .zero ⟨false, false, false⟩ v.names v.kids else .error 80
def mEdgesL : List JV → MR (List MDesc)
 | [] => .ok []
 | k :: ks => match mDesc k with
  | .ok d => (match mEdgesL ks with | .ok l => .ok (d :: l) | .error e => .error e)
  | .error e => .error e
def mEdges (v : JV) : MR (List MDesc) := if v.kind = 5 then (if 64 < v.kids.length then .error 8 else mEdgesL v.kids) else .error 80
structure MGot where
 v : Bool
 m : Bool
 c : Bool
 l : Bool
 i : Bool
def mStep (d : MDoc) (h : MGot) (n : List UInt8) (k : JV) : MR (MDoc × MGot) :=
 if n = kVersion then (if k.kind = 3 ∧ k.num = 2 then .ok (d, { h with v := true }) else .error 80)
 else if n = kMedia then (if k.kind = 4 then (if k.text = sImage ∨ k.text = sIndex then .ok ({ d with media := k.text }, { h with m := true }) else .error 72) else .error 80)
 else if n = kType then (match mMedia k with | .ok s => .ok ({ d with type := s }, h) | .error e => .error e)
 else if n = kConfig then (match mDesc k with | .ok x => .ok ({ d with config := x }, { h with c := true }) | .error e => .error e)
 else if n = kLayers then (match mEdges k with | .ok x => .ok ({ d with edges := x }, { h with l := true }) | .error e => .error e)
 else if n = kManifests then (match mEdges k with | .ok x => .ok ({ d with edges := x }, { h with i := true }) | .error e => .error e)
 else if n = kSubject then (match mDesc k with | .ok x => .ok ({ d with subject := x, has := true }, h) | .error e => .error e)
 else if n = kNotes then (match mNotes k with | .ok l => .ok ({ d with notes := l }, h) | .error e => .error e)
 else .error 80
def mWhole (d : MDoc) (h : MGot) : Bool := if d.media = sIndex then h.v && (h.m && (!h.c && (!h.l && h.i))) else h.v && (h.m && (h.c && (h.l && !h.i)))
def mReadL : MDoc → MGot → List (List UInt8) → List JV → MR MDoc
 | d, h, n :: ns, k :: ks => match mStep d h n k with
  | .ok (d', h') => mReadL d' h' ns ks
  | .error e => .error e
 | d, h, _, _ => if mWhole d h = true then .ok d else .error 80
def mRead (v : JV) : MR MDoc := if v.kind = 6 then mReadL .zero ⟨false, false, false, false, false⟩ v.names v.kids else .error 80
def mParse (b : List UInt8) : MR MDoc := match jParse b with
 | .ok v => mRead v
 | .error x => .error x.2
end Go.Proofs.YtlhicfpmlncomaaGreatDoor

namespace Go.Proofs.YtlhicfpmlncomaaGreatDoor
open Go.RowKit
theorem spl_mid {p q r ds : List Value} {off : Nat} (ho : p.length = off) (hq : q.length = ds.length) : spl (p ++ (q ++ r)) off ds = p ++ (ds ++ r) := by
 unfold spl
 rw [List.take_left' ho, List.append_assoc]
 congr 2
 rw [← ho, List.drop_append, List.drop_of_length_le (by omega), List.nil_append, Nat.add_sub_cancel_left, List.drop_left' hq]
theorem take_mid {p q r : List Value} {off n : Nat} (ho : p.length = off) (hq : q.length = n) : ((p ++ (q ++ r)).drop off).take n = q := by
 rw [List.drop_left' ho, List.take_left' hq]
theorem at_mid {p r : List Value} {x : Value} {off : Nat} (ho : p.length = off) : (p ++ x :: r)[off]? = some x := by
 rw [List.getElem?_append_right (by omega), ho, Nat.sub_self, List.getElem?_cons_zero]
theorem VRd.ones {w : World} {S : Nat → Prop} {v : JV} {cs : List Value} (h : VRd w S v cs) : ∀ u ∈ cs, u.oneCell' = true := by
 cases v
 rw [VRd] at h
 obtain ⟨_, _, _, _, _, _, _, _, _, rfl, _⟩ := h
 exact vlL_one
def ntL (x : MNote) : List Value := [strv x.key, strv x.val]
def ntsL (l : List MNote) : List Value := l.flatMap ntL
theorem ntL_len (x : MNote) : (ntL x).length = 2 := rfl
theorem ntL_one (x : MNote) : ∀ u ∈ ntL x, u.oneCell' = true := by
 intro u hu
 simp only [ntL, List.mem_cons, List.not_mem_nil, or_false] at hu
 rcases hu with rfl | rfl <;> rfl
theorem ntsL_len (l : List MNote) : (ntsL l).length = l.length * 2 := by
 induction l with
 | nil => rfl
 | cons x l ih => unfold ntsL at ih ⊢; rw [List.flatMap_cons, List.length_append, ih, ntL_len, List.length_cons]; omega
theorem ntsL_snoc (l : List MNote) (x : MNote) : ntsL (l ++ [x]) = ntsL l ++ ntL x := by simp [ntsL]
theorem ntsL_at {l : List MNote} {i : Nat} {x : MNote} (h : l[i]? = some x) : ((ntsL l).drop (i * 2)).take 2 = ntL x := by
 obtain ⟨hi, rfl⟩ := List.getElem?_eq_some_iff.1 h
 have h1 : l = l.take i ++ (l[i] :: l.drop (i + 1)) := by rw [← List.drop_eq_getElem_cons hi, List.take_append_drop]
 have h2 : ntsL l = ntsL (l.take i) ++ (ntL l[i] ++ ntsL (l.drop (i + 1))) := by
  have h3 := congrArg ntsL h1
  rw [h3]
  unfold ntsL
  rw [List.flatMap_append, List.flatMap_cons]
 rw [h2]
 exact take_mid (by rw [ntsL_len, List.length_take]; congr 1; omega) rfl
def dsL (m : List UInt8) (dig : List UInt8) (z : Int) (nt : Value) : List Value := [strv m] ++ (dig.map bv ++ [.int .i64 z, nt])
def ds0 : List Value := dsL [] zeros 0 (.slice none 0 0)
theorem dsL_len {m dig : List UInt8} {z : Int} {nt : Value} (h : dig.length = 32) : (dsL m dig z nt).length = 35 := by simp [dsL, h]
theorem ds0_len : ds0.length = 35 := dsL_len (by decide)
theorem dsL_one {m dig : List UInt8} {z : Int} {A : Option Addr} {n c : Nat} : ∀ u ∈ dsL m dig z (.slice A n c), u.oneCell' = true := by
 intro u hu
 simp only [dsL, List.mem_append, List.mem_cons, List.not_mem_nil, or_false] at hu
 rcases hu with rfl | hu | rfl | rfl
 ·rfl
 ·exact bv_one _ u hu
 ·rfl
 ·rfl
theorem ds0_one : ∀ u ∈ ds0, u.oneCell' = true := dsL_one
section
variable {m m' dig dig' : List UInt8} {z z' : Int} {nt nt' : Value}
theorem dsL_m0 : (dsL m dig z nt)[0]? = some (.string ⟨m.toArray⟩) := rfl
theorem dsL_0s : spl (dsL m dig z nt) 0 [.string ⟨m'.toArray⟩] = dsL m' dig z nt := rfl
theorem dsL_1 (h : dig.length = dig'.length) : spl (dsL m dig z nt) 1 (dig'.map bv) = dsL m dig' z nt := spl_mid rfl (by simp [h])
theorem dsL_33 (h : dig.length = 32) : spl (dsL m dig z nt) 33 [.int .i64 z'] = dsL m dig z' nt := by
 have := spl_mid (p := strv m :: dig.map bv) (q := [.int .i64 z]) (r := [nt]) (ds := [.int .i64 z']) (off := 33) (by simp [h]) rfl
 simpa [dsL] using this
theorem dsL_34 (h : dig.length = 32) : spl (dsL m dig z nt) 34 [nt'] = dsL m dig z nt' := by
 have := spl_mid (p := strv m :: (dig.map bv ++ [.int .i64 z])) (q := [nt]) (r := []) (ds := [nt']) (off := 34) (by simp [h]) rfl
 simpa [dsL] using this
theorem dsL_dig (h : dig.length = 32) : ((dsL m dig z nt).drop 1).take 32 = dig.map bv := take_mid rfl (by simp [h])
theorem dsL_size (h : dig.length = 32) : (dsL m dig z nt)[33]? = some (.int .i64 z) := by
 have := at_mid (p := strv m :: dig.map bv) (x := .int .i64 z) (r := [nt]) (off := 33) (by simp [h])
 simpa [dsL] using this
theorem dsL_notes (h : dig.length = 32) : (dsL m dig z nt)[34]? = some nt := by
 have := at_mid (p := strv m :: (dig.map bv ++ [.int .i64 z])) (x := nt) (r := []) (off := 34) (by simp [h])
 simpa [dsL] using this
end
def docL (m t : List UInt8) (cf : List Value) (eg : Value) (sj : List Value) (has : Bool) (nt : Value) : List Value := [strv m, strv t] ++ (cf ++ (eg :: (sj ++ [.bool has, nt])))
def doc0 : List Value := docL [] [] ds0 (.slice none 0 0) ds0 false (.slice none 0 0)
section
variable {m m' t t' : List UInt8} {cf cf' sj sj' : List Value} {eg eg' nt nt' : Value} {has has' : Bool}
theorem docL_len (h1 : cf.length = 35) (h2 : sj.length = 35) : (docL m t cf eg sj has nt).length = 75 := by simp [docL, h1, h2]
theorem doc0_len : doc0.length = 75 := docL_len ds0_len ds0_len
theorem docL_one (h1 : ∀ u ∈ cf, u.oneCell' = true) (h2 : ∀ u ∈ sj, u.oneCell' = true) (h3 : eg.oneCell' = true) (h4 : nt.oneCell' = true) : ∀ u ∈ docL m t cf eg sj has nt, u.oneCell' = true := by
 intro u hu
 simp only [docL, List.mem_append, List.mem_cons, List.not_mem_nil, or_false] at hu
 rcases hu with (rfl | rfl) | hu | rfl | hu | rfl | rfl
 ·rfl
 ·rfl
 ·exact h1 u hu
 ·exact h3
 ·exact h2 u hu
 ·rfl
 ·exact h4
theorem doc0_one : ∀ u ∈ doc0, u.oneCell' = true := docL_one ds0_one ds0_one rfl rfl
theorem docL_m0 : (docL m t cf eg sj has nt)[0]? = some (.string ⟨m.toArray⟩) := rfl
theorem docL_t0 : (docL m t cf eg sj has nt)[1]? = some (.string ⟨t.toArray⟩) := rfl
theorem docL_0s : spl (docL m t cf eg sj has nt) 0 [.string ⟨m'.toArray⟩] = docL m' t cf eg sj has nt := rfl
theorem docL_1s : spl (docL m t cf eg sj has nt) 1 [.string ⟨t'.toArray⟩] = docL m t' cf eg sj has nt := rfl
theorem docL_2 (h : cf.length = cf'.length) : spl (docL m t cf eg sj has nt) 2 cf' = docL m t cf' eg sj has nt := spl_mid rfl h
theorem docL_37 (h : cf.length = 35) : spl (docL m t cf eg sj has nt) 37 [eg'] = docL m t cf eg' sj has nt := by
 have := spl_mid (p := strv m :: strv t :: cf) (q := [eg]) (r := sj ++ [.bool has, nt]) (ds := [eg']) (off := 37) (by simp [h]) rfl
 simpa [docL] using this
theorem docL_38 (h : cf.length = 35) (h2 : sj.length = sj'.length) : spl (docL m t cf eg sj has nt) 38 sj' = docL m t cf eg sj' has nt := by
 have := spl_mid (p := strv m :: strv t :: (cf ++ [eg])) (q := sj) (r := [.bool has, nt]) (ds := sj') (off := 38) (by simp [h]) h2
 simpa [docL] using this
theorem docL_73 (h : cf.length = 35) (h2 : sj.length = 35) : spl (docL m t cf eg sj has nt) 73 [.bool has'] = docL m t cf eg sj has' nt := by
 have := spl_mid (p := strv m :: strv t :: (cf ++ (eg :: sj))) (q := [.bool has]) (r := [nt]) (ds := [.bool has']) (off := 73) (by simp [h, h2]) rfl
 simpa [docL] using this
theorem docL_74 (h : cf.length = 35) (h2 : sj.length = 35) : spl (docL m t cf eg sj has nt) 74 [nt'] = docL m t cf eg sj has nt' := by
 have := spl_mid (p := strv m :: strv t :: (cf ++ (eg :: (sj ++ [.bool has])))) (q := [nt]) (r := []) (ds := [nt']) (off := 74) (by simp [h, h2]) rfl
 simpa [docL] using this
theorem docL_cf (h : cf.length = 35) : ((docL m t cf eg sj has nt).drop 2).take 35 = cf := take_mid rfl h
theorem docL_eg (h : cf.length = 35) : (docL m t cf eg sj has nt)[37]? = some eg := by
 have := at_mid (p := strv m :: strv t :: cf) (x := eg) (r := sj ++ [.bool has, nt]) (off := 37) (by simp [h])
 simpa [docL] using this
theorem docL_sj (h : cf.length = 35) (h2 : sj.length = 35) : ((docL m t cf eg sj has nt).drop 38).take 35 = sj := by
 have := take_mid (p := strv m :: strv t :: (cf ++ [eg])) (q := sj) (r := [.bool has, nt]) (off := 38) (by simp [h]) h2
 simpa [docL] using this
theorem docL_has (h : cf.length = 35) (h2 : sj.length = 35) : (docL m t cf eg sj has nt)[73]? = some (.bool has) := by
 have := at_mid (p := strv m :: strv t :: (cf ++ (eg :: sj))) (x := .bool has) (r := [nt]) (off := 73) (by simp [h, h2])
 simpa [docL] using this
theorem docL_nt (h : cf.length = 35) (h2 : sj.length = 35) : (docL m t cf eg sj has nt)[74]? = some nt := by
 have := at_mid (p := strv m :: strv t :: (cf ++ (eg :: (sj ++ [.bool has])))) (x := nt) (r := []) (off := 74) (by simp [h, h2])
 simpa [docL] using this
end
def VN (l : List MNote) (nt : Value) (es : List Ent) : Prop := ∃ A n c, n ≤ c ∧ n = l.length ∧ nt = .slice A n c ∧ (n = 0 ∨ Ent.rd A 2 n (ntsL l) ∈ es)
def VD (d : MDesc) (cs : List Value) (es : List Ent) : Prop := ∃ nt, d.dig.length = 32 ∧ VN d.notes nt es ∧ cs = dsL d.media d.dig d.size nt
def VDL : List MDesc → List Value → List Ent → Prop
 | [], xs, _ => xs = []
 | d :: ds, xs, es => ∃ cs ys, xs = cs ++ ys ∧ VD d cs es ∧ VDL ds ys es
def VE (l : List MDesc) (v : Value) (es : List Ent) : Prop := ∃ A n c xs, n ≤ c ∧ n = l.length ∧ v = .slice A n c ∧ VDL l xs es ∧ (n = 0 ∨ Ent.rd A 35 n xs ∈ es)
def VDoc (d : MDoc) (cs : List Value) (es : List Ent) : Prop := ∃ cf eg sj nt, VD d.config cf es ∧ VE d.edges eg es ∧ VD d.subject sj es ∧ VN d.notes nt es ∧ cs = docL d.media d.type cf eg sj d.has nt
section
variable {es es' : List Ent}
theorem VN.mono {l : List MNote} {nt : Value} (h : VN l nt es) (hs : ∀ e ∈ es, e ∈ es') : VN l nt es' := by
 obtain ⟨A, n, c, h1, h2, h3, h4⟩ := h
 exact ⟨A, n, c, h1, h2, h3, h4.imp id (hs _)⟩
theorem VD.mono {d : MDesc} {cs : List Value} (h : VD d cs es) (hs : ∀ e ∈ es, e ∈ es') : VD d cs es' := by
 obtain ⟨nt, h1, h2, h3⟩ := h
 exact ⟨nt, h1, h2.mono hs, h3⟩
theorem VDL.mono : ∀ {ds : List MDesc} {xs : List Value}, VDL ds xs es → (∀ e ∈ es, e ∈ es') → VDL ds xs es'
 | [], _, h, _ => h
 | d :: ds, xs, h, hs => by
  obtain ⟨cs, ys, h1, h2, h3⟩ := h
  exact ⟨cs, ys, h1, h2.mono hs, h3.mono hs⟩
theorem VE.mono {l : List MDesc} {v : Value} (h : VE l v es) (hs : ∀ e ∈ es, e ∈ es') : VE l v es' := by
 obtain ⟨A, n, c, xs, h1, h2, h3, h4, h5⟩ := h
 exact ⟨A, n, c, xs, h1, h2, h3, h4.mono hs, h5.imp id (hs _)⟩
theorem VDoc.mono {d : MDoc} {cs : List Value} (h : VDoc d cs es) (hs : ∀ e ∈ es, e ∈ es') : VDoc d cs es' := by
 obtain ⟨cf, eg, sj, nt, h1, h2, h3, h4, h5⟩ := h
 exact ⟨cf, eg, sj, nt, h1.mono hs, h2.mono hs, h3.mono hs, h4.mono hs, h5⟩
theorem VN.nil {es : List Ent} : VN [] (.slice none 0 0) es := ⟨none, 0, 0, Nat.le_refl _, rfl, rfl, .inl rfl⟩
theorem VD.zero {es : List Ent} : VD .zero ds0 es := ⟨_, by decide, VN.nil, rfl⟩
theorem VE.nil {es : List Ent} : VE [] (.slice none 0 0) es := ⟨none, 0, 0, [], Nat.le_refl _, rfl, rfl, rfl, .inl rfl⟩
theorem VDoc.zero {es : List Ent} : VDoc .zero doc0 es := ⟨_, _, _, _, VD.zero, VE.nil, VD.zero, VN.nil, rfl⟩
theorem VN.one {l : List MNote} {nt : Value} (h : VN l nt es) : nt.oneCell' = true := by
 obtain ⟨A, n, c, _, _, rfl, _⟩ := h
 rfl
theorem VE.one {l : List MDesc} {v : Value} (h : VE l v es) : v.oneCell' = true := by
 obtain ⟨A, n, c, xs, _, _, rfl, _⟩ := h
 rfl
theorem VD.len {d : MDesc} {cs : List Value} (h : VD d cs es) : cs.length = 35 := by
 obtain ⟨nt, h1, _, rfl⟩ := h
 exact dsL_len h1
theorem VD.ones {d : MDesc} {cs : List Value} (h : VD d cs es) : ∀ u ∈ cs, u.oneCell' = true := by
 obtain ⟨nt, h1, ⟨A, n, c, _, _, rfl, _⟩, rfl⟩ := h
 exact dsL_one
theorem VDoc.len {d : MDoc} {cs : List Value} (h : VDoc d cs es) : cs.length = 75 := by
 obtain ⟨cf, eg, sj, nt, h1, _, h2, _, rfl⟩ := h
 exact docL_len h1.len h2.len
theorem VDoc.ones {d : MDoc} {cs : List Value} (h : VDoc d cs es) : ∀ u ∈ cs, u.oneCell' = true := by
 obtain ⟨cf, eg, sj, nt, h1, h2, h3, h4, rfl⟩ := h
 exact docL_one h1.ones h3.ones h2.one h4.one
theorem VDL.snoc : ∀ {ds : List MDesc} {d : MDesc} {xs cs : List Value}, VDL ds xs es → VD d cs es → VDL (ds ++ [d]) (xs ++ cs) es
 | [], d, xs, cs, h, hd => by
  rw [VDL] at h
  subst h
  exact ⟨cs, [], by simp, hd, rfl⟩
 | x :: ds, d, xs, cs, h, hd => by
  obtain ⟨c1, ys, rfl, h1, h2⟩ := h
  exact ⟨c1, ys ++ cs, by simp, h1, VDL.snoc h2 hd⟩
theorem VDL.len : ∀ {ds : List MDesc} {xs : List Value}, VDL ds xs es → xs.length = ds.length * 35
 | [], xs, h => by rw [VDL] at h; subst h; rfl
 | d :: ds, xs, h => by
  obtain ⟨c1, ys, rfl, h1, h2⟩ := h
  rw [List.length_append, h1.len, VDL.len h2, List.length_cons]; omega
theorem VDL.at : ∀ {ds : List MDesc} {xs : List Value} {i : Nat} {d : MDesc}, VDL ds xs es → ds[i]? = some d → VD d ((xs.drop (i * 35)).take 35) es
 | [], _, _, _, _, hi => by cases hi
 | x :: ds, xs, i, d, h, hi => by
  obtain ⟨c1, ys, rfl, h1, h2⟩ := h
  have hl := h1.len
  cases i with
  | zero =>
   injection hi with hi
   subst hi
   rw [Nat.zero_mul, List.drop_zero, List.take_left' hl]
   exact h1
  | succ i =>
   rw [show (i + 1) * 35 = c1.length + i * 35 by omega, ← List.drop_drop, List.drop_left]
   exact VDL.at h2 (by simpa using hi)
end
theorem Fr.rdM {X : List Nat} {w0 w : World} {es : List Ent} (hF : Fr X w0 w es) {A : Option Addr} {size n : Nat} {xs : List Value} (h : Ent.rd A size n xs ∈ es) : Rd w (· < w.heap.size) A size n xs := by
 obtain ⟨i, hi⟩ := List.mem_iff_getElem?.1 h
 exact hF.rd hi
theorem VN.rd {l : List MNote} {nt : Value} {X : List Nat} {w0 w : World} {es : List Ent} (h : VN l nt es) (hF : Fr X w0 w es) : ∃ A n c, n ≤ c ∧ n = l.length ∧ nt = .slice A n c ∧ Rd w (· < w.heap.size) A 2 n (ntsL l) := by
 obtain ⟨A, n, c, h1, h2, h3, h4⟩ := h
 refine ⟨A, n, c, h1, h2, h3, ?_⟩
 rcases h4 with h4 | h4
 ·subst h4
  rw [List.length_eq_zero_iff.1 h2.symm]
  exact Rd.nil _ _ _ _
 ·exact hF.rdM h4
theorem VE.rd {l : List MDesc} {v : Value} {X : List Nat} {w0 w : World} {es : List Ent} (h : VE l v es) (hF : Fr X w0 w es) : ∃ A n c xs, n ≤ c ∧ n = l.length ∧ v = .slice A n c ∧ VDL l xs es ∧ Rd w (· < w.heap.size) A 35 n xs := by
 obtain ⟨A, n, c, xs, h1, h2, h3, h4, h5⟩ := h
 refine ⟨A, n, c, xs, h1, h2, h3, h4, ?_⟩
 rcases h5 with h5 | h5
 ·subst h5
  rw [List.length_eq_zero_iff.1 h2.symm, VDL] at h4
  subst h4
  exact Rd.nil _ _ _ _
 ·exact hF.rdM h5
end Go.Proofs.YtlhicfpmlncomaaGreatDoor

namespace Go.Proofs.YtlhicfpmlncomaaGreatDoor
theorem jTextL_out {b : List UInt8} : ∀ {f p : Nat} {out s : List UInt8} {q : Nat}, jTextL b f p out = .ok (s, q) → s.length + 4 * p ≤ out.length + 4 * q
 | 0, p, out, s, q, h => by cases h
 | f + 1, p, out, s, q, h => by
  unfold jTextL at h
  cases hx : b[p]? with
  | none => rw [hx] at h; cases h
  | some c =>
   rw [hx] at h
   simp only [] at h
   split at h
   ·obtain ⟨rfl, rfl⟩ := ok_pair h
    omega
   ·split at h
    ·cases he : jEscape b p with
     | error x => rw [he] at h; cases h
     | ok r =>
      obtain ⟨e, q1⟩ := r
      rw [he] at h
      have h1 := jEscape_len he
      have h2 := jTextL_out h
      rw [List.length_append] at h2
      omega
    ·split at h
     ·cases h
     ·split at h
      ·cases h
      ·have h2 := jTextL_out h
       rw [List.length_append, List.length_take] at h2
       omega
theorem jText_out {b s : List UInt8} {p q : Nat} (h : jText b p = .ok (s, q)) : s.length ≤ 4 * b.length := by
 have hl := jText_len h
 unfold jText at h
 cases hw : jWord b [34] p with
 | error x => rw [hw] at h; cases h
 | ok q1 =>
  rw [hw] at h
  have h2 := jTextL_out h
  simp only [List.length_nil] at h2
  omega
mutual
def JOb : JV → Prop
 | .mk k _ t ns ks => t.length ≤ 1048576 ∧ ns.length ≤ 1048576 ∧ ks.length ≤ 1048576 ∧ (k = 6 → ns.length = ks.length ∧ ns.Nodup) ∧ JObL ks
def JObL : List JV → Prop
 | [] => True
 | v :: vs => JOb v ∧ JObL vs
end
theorem JObL_of : ∀ {ks : List JV}, (∀ k ∈ ks, JOb k) → JObL ks
 | [], _ => by rw [JObL]; trivial
 | k :: ks, h => by rw [JObL]; exact ⟨h k List.mem_cons_self, JObL_of fun x hx => h x (List.mem_cons_of_mem _ hx)⟩
theorem JObL.at : ∀ {ks : List JV} {k : JV}, JObL ks → k ∈ ks → JOb k
 | [], _, _, h => by cases h
 | x :: xs, k, h, hm => by
  rw [JObL] at h
  rcases List.mem_cons.1 hm with rfl | hm
  ·exact h.1
  ·exact JObL.at h.2 hm
theorem JOb.kid {v k : JV} (h : JOb v) (hk : k ∈ v.kids) : JOb k := by
 cases v
 rw [JOb] at h
 exact h.2.2.2.2.at hk
theorem JOb.small {v : JV} (h : JOb v) : v.text.length ≤ 1048576 ∧ v.names.length ≤ 1048576 ∧ v.kids.length ≤ 1048576 := by
 cases v
 rw [JOb] at h
 exact ⟨h.1, h.2.1, h.2.2.1⟩
theorem JOb.obj {v : JV} (h : JOb v) (hk : v.kind = 6) : v.names.length = v.kids.length ∧ v.names.Nodup := by
 cases v
 rw [JOb] at h
 exact h.2.2.2.1 hk
theorem JOb.leaf (k n : Int) (t : List UInt8) (ht : t.length ≤ 1048576) : JOb (.mk k n t [] []) := by
 rw [JOb]
 exact ⟨ht, by simp, by simp, fun _ => ⟨rfl, List.nodup_nil⟩, JObL_of (by simp)⟩
theorem jName_new {b : List UInt8} {ns : List (List UInt8)} {p q : Nat} {s : List UInt8} (h : jName b ns p = .ok (s, q)) : s ∉ ns := by
 unfold jName at h
 cases hT : jText b p with
 | error x => rw [hT] at h; cases h
 | ok r =>
  obtain ⟨s1, q1⟩ := r
  rw [hT] at h
  simp only [] at h
  split at h
  ·cases h
  ·rename_i hn
   cases hw : jWord b [58] (jBlanks b q1) with
   | error x => rw [hw] at h; cases h
   | ok r =>
    rw [hw] at h
    obtain ⟨rfl, _⟩ := ok_pair h
    exact hn
def ValOb (val : Nat → Nat → JR (JV × Nat × Nat)) : Prop := ∀ (p m : Nat) (x : JV × Nat × Nat), m ≤ 4096 → val p m = .ok x → JOb x.1
theorem jManyL_ob {b : List UInt8} {kind : Int} {fin : UInt8} {val : Nat → Nat → JR (JV × Nat × Nat)} (hl : ValLen b val) (hv : ValOb val) : ∀ {f p m : Nat} {names : List (List UInt8)} {kids : List JV} {x : JV × Nat × Nat}, m ≤ 4096 → kids.length ≤ m → names.length ≤ kids.length → (kind = 6 → names.length = kids.length ∧ names.Nodup) → (∀ v ∈ kids, JOb v) → jManyL b kind fin val f p m names kids = .ok x → JOb x.1
 | 0, _, _, _, _, _, _, _, _, _, _, h => by cases h
 | f + 1, p, m, names, kids, x, hm, hkm, hnk, hn, hks, h => by
  obtain ⟨s, q1, v1, r, m1, c, h1, h2, h3, h4⟩ := jManyL_step h
  have hv1 := hl _ _ _ _ _ hm h2
  have hkk : (kids ++ [v1]).length = kids.length + 1 := by simp
  have hn2 : (if kind = 6 then names ++ [s] else names).length ≤ kids.length + 1 := by
   split
   ·simp; omega
   ·omega
  have hnn : kind = 6 → (if kind = 6 then names ++ [s] else names).length = (kids ++ [v1]).length ∧ (if kind = 6 then names ++ [s] else names).Nodup := fun hk => by
   rw [if_pos hk] at h1
   rw [if_pos hk]
   have hnew := jName_new h1
   have h0 := hn hk
   refine ⟨by simp [h0.1], ?_⟩
   rw [List.nodup_append]
   exact ⟨h0.2, by simp, fun a ha b hb => by rw [List.mem_singleton.1 hb]; exact fun h => hnew (h ▸ ha)⟩
  have hall : ∀ v ∈ kids ++ [v1], JOb v := fun v hmem => by
   rcases List.mem_append.1 hmem with h | h
   ·exact hks v h
   ·rw [List.mem_singleton.1 h]; exact hv _ _ _ hm h2
  rcases h4 with h4 | h4
  ·subst h4
   rw [JOb]
   exact ⟨by simp, by omega, by omega, hnn, JObL_of hall⟩
  ·exact jManyL_ob hl hv hv1.2.2.2 (by omega) (by omega) hnn hall h4
theorem jMany_ob {b : List UInt8} {kind : Int} {fin : UInt8} {val : Option (Nat → Nat → JR (JV × Nat × Nat))} (hv : ∀ f, val = some f → ValLen b f ∧ ValOb f) {p m : Nat} {x : JV × Nat × Nat} (hm : m ≤ 4096) (h : jMany b kind fin val p m = .ok x) : JOb x.1 := by
 unfold jMany at h
 cases val with
 | none => cases h
 | some f =>
  simp only [] at h
  cases h3 : jNext b (jBlanks b (p + 1)) with
  | error z => rw [h3] at h; cases h
  | ok c =>
   rw [h3] at h
   simp only [] at h
   split at h
   ·injection h with h
    subst h
    exact JOb.leaf _ _ _ (by simp)
   ·exact jManyL_ob (hv f rfl).1 (hv f rfl).2 hm (by simp) (by simp) (fun _ => ⟨rfl, List.nodup_nil⟩) (by simp) h
theorem jLit_ob {b w : List UInt8} {u : JV} (hu : JOb u) {p m : Nat} {x : JV × Nat × Nat} (h : jLit b w u p m = .ok x) : JOb x.1 := by
 unfold jLit at h
 cases hw : jWord b w p with
 | error z => rw [hw] at h; cases h
 | ok t => rw [hw] at h; injection h with h; subst h; exact hu
theorem jValueW_ob {b : List UInt8} (hb : b.length ≤ 65536) {val : Option (Nat → Nat → JR (JV × Nat × Nat))} (hv : ∀ f, val = some f → ValLen b f ∧ ValOb f) {p m : Nat} {x : JV × Nat × Nat} (hm : m ≤ 4096) (h : jValueW b val p m = .ok x) : JOb x.1 := by
 unfold jValueW at h
 cases hx : b[p]? with
 | none => rw [hx] at h; cases h
 | some c =>
  rw [hx] at h
  simp only [] at h
  split at h
  ·cases h
  ·rename_i hm4
   split at h
   ·exact jLit_ob (JOb.leaf _ _ _ (by simp)) h
   ·split at h
    ·exact jLit_ob (JOb.leaf _ _ _ (by simp)) h
    ·split at h
     ·exact jLit_ob (JOb.leaf _ _ _ (by simp)) h
     ·split at h
      ·cases hn : jNumber b p with
       | error z => rw [hn] at h; cases h
       | ok r => rw [hn] at h; injection h with h; subst h; exact JOb.leaf _ _ _ (by simp)
      ·split at h
       ·cases hn : jText b p with
        | error z => rw [hn] at h; cases h
        | ok r => rw [hn] at h; injection h with h; subst h; exact JOb.leaf _ _ _ (by have := jText_out hn; omega)
       ·split at h
        ·exact jMany_ob hv (by omega) h
        ·split at h
         ·exact jMany_ob hv (by omega) h
         ·cases h
theorem jValue_ob {b : List UInt8} (hb : b.length ≤ 65536) : ∀ (d : Nat), ValOb (jValue b d)
 | 0, p, m, x, hm, h => jValueW_ob hb (val := none) (fun f hf => by cases hf) hm h
 | d + 1, p, m, x, hm, h => jValueW_ob hb (val := some (jValue b d)) (fun f hf => by injection hf with hf; subst hf; exact ⟨jValue_len d, jValue_ob hb d⟩) hm h
theorem jParse_ob {b : List UInt8} {v : JV} (h : jParse b = .ok v) : JOb v := by
 unfold jParse at h
 split at h
 ·cases h
 ·rename_i hb
  cases hv : jValue b 16 (jBlanks b 0) 0 with
  | error x => rw [hv] at h; cases h
  | ok y =>
   obtain ⟨u, p, m'⟩ := y
   rw [hv] at h
   simp only [] at h
   split at h
   ·cases h
   ·injection h with h
    subst h
    exact jValue_ob (by omega) 16 _ _ _ (by omega) hv
end Go.Proofs.YtlhicfpmlncomaaGreatDoor

namespace Go.Proofs.YtlhicfpmlncomaaGreatDoor
open Go.RowKit
theorem retB {a b : Bool} (h : a = b) : Ending.returned (.bool a) = .returned (.bool b) := by rw [h]
set_option maxRecDepth 20000 in
set_option maxHeartbeats 400000 in
theorem small_any (c : UInt8) (n : Int) (hn : n = (c.toNat : Int)) (w : World) : Calls Tryz.prog 139 #[.int .u8 n] w fun e w' => e = .returned (.bool (smallB c)) ∧ w = w' := by
 subst hn
 have clt : c.toNat < 256 := c.toNat_lt
 by_cases h1 : 97 ≤ c.toNat
 ·by_cases h2 : c.toNat ≤ 122
  ·have hr : Box (smallB c = true) := box (by unfold smallB; first | (simp; done) | (simp; omega))
   go_enter Tryz.func139, Tryz.ntmps139
   go_wp2
   go_ret
   exact ⟨retB (by first | exact hr.out.symm | (rw [hr.out]; (simp; done)) | (rw [hr.out]; (simp; omega))), rfl⟩
  ·have hr : Box (smallB c = false) := box (by unfold smallB; first | (simp; done) | (simp; omega))
   go_enter Tryz.func139, Tryz.ntmps139
   go_wp2
   go_ret
   exact ⟨retB (by first | exact hr.out.symm | (rw [hr.out]; (simp; done)) | (rw [hr.out]; (simp; omega))), rfl⟩
 ·by_cases h2 : 48 ≤ c.toNat
  ·by_cases h3 : c.toNat ≤ 57
   ·have hr : Box (smallB c = true) := box (by unfold smallB; first | (simp; done) | (simp; omega))
    go_enter Tryz.func139, Tryz.ntmps139
    go_wp2
    go_ret
    exact ⟨retB (by first | exact hr.out.symm | (rw [hr.out]; (simp; done)) | (rw [hr.out]; (simp; omega))), rfl⟩
   ·have hr : Box (smallB c = false) := box (by unfold smallB; first | (simp; done) | (simp; omega))
    go_enter Tryz.func139, Tryz.ntmps139
    go_wp2
    go_ret
    exact ⟨retB (by first | exact hr.out.symm | (rw [hr.out]; (simp; done)) | (rw [hr.out]; (simp; omega))), rfl⟩
  ·have hr : Box (smallB c = false) := box (by unfold smallB; first | (simp; done) | (simp; omega))
   go_enter Tryz.func139, Tryz.ntmps139
   go_wp2
   go_ret
   exact ⟨retB (by first | exact hr.out.symm | (rw [hr.out]; (simp; done)) | (rw [hr.out]; (simp; omega))), rfl⟩
set_option maxRecDepth 20000 in
set_option maxHeartbeats 400000 in
theorem smallF_any (c : UInt8) (n : Int) (hn : n = (c.toNat : Int)) (w : World) : Calls Tryz.prog 108 #[.int .u8 n] w fun e w' => e = .returned (.bool (smallB c)) ∧ w = w' := by
 subst hn
 have clt : c.toNat < 256 := c.toNat_lt
 by_cases h1 : 97 ≤ c.toNat
 ·by_cases h2 : c.toNat ≤ 122
  ·have hr : Box (smallB c = true) := box (by unfold smallB; first | (simp; done) | (simp; omega))
   go_enter Tryz.func108, Tryz.ntmps108
   go_wp2
   go_ret
   exact ⟨retB (by first | exact hr.out.symm | (rw [hr.out]; (simp; done)) | (rw [hr.out]; (simp; omega))), rfl⟩
  ·have hr : Box (smallB c = false) := box (by unfold smallB; first | (simp; done) | (simp; omega))
   go_enter Tryz.func108, Tryz.ntmps108
   go_wp2
   go_ret
   exact ⟨retB (by first | exact hr.out.symm | (rw [hr.out]; (simp; done)) | (rw [hr.out]; (simp; omega))), rfl⟩
 ·by_cases h2 : 48 ≤ c.toNat
  ·by_cases h3 : c.toNat ≤ 57
   ·have hr : Box (smallB c = true) := box (by unfold smallB; first | (simp; done) | (simp; omega))
    go_enter Tryz.func108, Tryz.ntmps108
    go_wp2
    go_ret
    exact ⟨retB (by first | exact hr.out.symm | (rw [hr.out]; (simp; done)) | (rw [hr.out]; (simp; omega))), rfl⟩
   ·have hr : Box (smallB c = false) := box (by unfold smallB; first | (simp; done) | (simp; omega))
    go_enter Tryz.func108, Tryz.ntmps108
    go_wp2
    go_ret
    exact ⟨retB (by first | exact hr.out.symm | (rw [hr.out]; (simp; done)) | (rw [hr.out]; (simp; omega))), rfl⟩
  ·have hr : Box (smallB c = false) := box (by unfold smallB; first | (simp; done) | (simp; omega))
   go_enter Tryz.func108, Tryz.ntmps108
   go_wp2
   go_ret
   exact ⟨retB (by first | exact hr.out.symm | (rw [hr.out]; (simp; done)) | (rw [hr.out]; (simp; omega))), rfl⟩
set_option maxRecDepth 20000 in
set_option maxHeartbeats 400000 in
theorem sign_any (c : UInt8) (n : Int) (hn : n = (c.toNat : Int)) (w : World) : Calls Tryz.prog 125 #[.int .u8 n] w fun e w' => e = .returned (.bool (signB c)) ∧ w = w' := by
 subst hn
 have clt : c.toNat < 256 := c.toNat_lt
 cases hs : smallB c with
 | true =>
  have hr : signB c = true := by simp [smallB] at hs; simp [signB]; omega
  rw [hr]
  replace hr := box hr
  go_enter Tryz.func125, Tryz.ntmps125
  go_wp2_with (refine (small_any c _ rfl _).mono ?_; rintro e w' ⟨rfl, rfl⟩)
  go_wp2
  go_ret
  exact ⟨rfl, rfl⟩
 | false =>
  have hs' := box hs
  have hx : Box (signB c = decide (65 ≤ c.toNat ∧ c.toNat ≤ 90)) := box (by simp [smallB] at hs; simp [signB]; omega)
  by_cases h1 : 65 ≤ c.toNat
  ·by_cases h2 : c.toNat ≤ 90
   ·have hr : Box (signB c = true) := box (by rw [hx.out]; first | (simp; done) | (simp; omega))
    go_enter Tryz.func125, Tryz.ntmps125
    go_wp2_with (refine (small_any c _ rfl _).mono ?_; rintro e w' ⟨rfl, rfl⟩)
    go_wp2
    go_ret
    exact ⟨retB (by first | exact hr.out.symm | (rw [hr.out]; (simp; done)) | (rw [hr.out]; (simp; omega))), rfl⟩
   ·have hr : Box (signB c = false) := box (by rw [hx.out]; first | (simp; done) | (simp; omega))
    go_enter Tryz.func125, Tryz.ntmps125
    go_wp2_with (refine (small_any c _ rfl _).mono ?_; rintro e w' ⟨rfl, rfl⟩)
    go_wp2
    go_ret
    exact ⟨retB (by first | exact hr.out.symm | (rw [hr.out]; (simp; done)) | (rw [hr.out]; (simp; omega))), rfl⟩
  ·have hr : Box (signB c = false) := box (by rw [hx.out]; first | (simp; done) | (simp; omega))
   go_enter Tryz.func125, Tryz.ntmps125
   go_wp2_with (refine (small_any c _ rfl _).mono ?_; rintro e w' ⟨rfl, rfl⟩)
   go_wp2
   go_ret
   exact ⟨retB (by first | exact hr.out.symm | (rw [hr.out]; (simp; done)) | (rw [hr.out]; (simp; omega))), rfl⟩
set_option maxRecDepth 20000 in
set_option maxHeartbeats 400000 in
theorem signF_any (c : UInt8) (n : Int) (hn : n = (c.toNat : Int)) (w : World) : Calls Tryz.prog 77 #[.int .u8 n] w fun e w' => e = .returned (.bool (signB c)) ∧ w = w' := by
 subst hn
 have clt : c.toNat < 256 := c.toNat_lt
 cases hs : smallB c with
 | true =>
  have hr : signB c = true := by simp [smallB] at hs; simp [signB]; omega
  rw [hr]
  replace hr := box hr
  go_enter Tryz.func77, Tryz.ntmps77
  go_wp2_with (refine (smallF_any c _ rfl _).mono ?_; rintro e w' ⟨rfl, rfl⟩)
  go_wp2
  go_ret
  exact ⟨rfl, rfl⟩
 | false =>
  have hs' := box hs
  have hx : Box (signB c = decide (65 ≤ c.toNat ∧ c.toNat ≤ 90)) := box (by simp [smallB] at hs; simp [signB]; omega)
  by_cases h1 : 65 ≤ c.toNat
  ·by_cases h2 : c.toNat ≤ 90
   ·have hr : Box (signB c = true) := box (by rw [hx.out]; first | (simp; done) | (simp; omega))
    go_enter Tryz.func77, Tryz.ntmps77
    go_wp2_with (refine (smallF_any c _ rfl _).mono ?_; rintro e w' ⟨rfl, rfl⟩)
    go_wp2
    go_ret
    exact ⟨retB (by first | exact hr.out.symm | (rw [hr.out]; (simp; done)) | (rw [hr.out]; (simp; omega))), rfl⟩
   ·have hr : Box (signB c = false) := box (by rw [hx.out]; first | (simp; done) | (simp; omega))
    go_enter Tryz.func77, Tryz.ntmps77
    go_wp2_with (refine (smallF_any c _ rfl _).mono ?_; rintro e w' ⟨rfl, rfl⟩)
    go_wp2
    go_ret
    exact ⟨retB (by first | exact hr.out.symm | (rw [hr.out]; (simp; done)) | (rw [hr.out]; (simp; omega))), rfl⟩
  ·have hr : Box (signB c = false) := box (by rw [hx.out]; first | (simp; done) | (simp; omega))
   go_enter Tryz.func77, Tryz.ntmps77
   go_wp2_with (refine (smallF_any c _ rfl _).mono ?_; rintro e w' ⟨rfl, rfl⟩)
   go_wp2
   go_ret
   exact ⟨retB (by first | exact hr.out.symm | (rw [hr.out]; (simp; done)) | (rw [hr.out]; (simp; omega))), rfl⟩
end Go.Proofs.YtlhicfpmlncomaaGreatDoor

namespace Go.Proofs.YtlhicfpmlncomaaGreatDoor
open Go.RowKit
theorem ext_list (s : ByteArray) (a : Nat) : (s.extract a s.size).data.toList = s.data.toList.drop a := Lib.extract_to_end s a
theorem ext_size (s : ByteArray) (a : Nat) : (s.extract a s.size).size = s.size - a := by rw [← str_len, ext_list, List.length_drop, str_len]
end Go.Proofs.YtlhicfpmlncomaaGreatDoor

namespace Go.Proofs.YtlhicfpmlncomaaGreatDoor
open Go.RowKit
def MaxW (w : World) : Prop := ∃ m : Int, w.cell? ⟨3, 0, none⟩ = some (.int .i64 m)
theorem MaxW.on {w w' : World} (h : MaxW w) (hb : Below w.heap.size w w') : MaxW w' := by
 obtain ⟨m, hm⟩ := h
 have hlt := World.block_lt_of_cell? w _ hm
 exact ⟨m, by rw [hb.cell (p := ⟨3, 0, none⟩) hlt]; exact hm⟩
end Go.Proofs.YtlhicfpmlncomaaGreatDoor

namespace Go.Proofs.YtlhicfpmlncomaaGreatDoor
open Go.RowKit
structure NRef where
 repo : ByteArray
 tag : ByteArray
 pin : Bool
 d : List UInt8
def rfL (a b p : Value) (dg : List Value) : List Value := a :: b :: p :: dg
def NRef.cells (r : NRef) : List Value := rfL (.string r.repo) (.string r.tag) (.bool r.pin) (r.d.map bv)
def NRef.zero : NRef := ⟨⟨#[]⟩, ⟨#[]⟩, false, zeros⟩
theorem rfL_length {a b p : Value} {dg : List Value} (h : dg.length = 32) : (rfL a b p dg).length = 35 := by simp [rfL, h]
theorem NRef.len (r : NRef) (h : r.d.length = 32) : r.cells.length = 35 := rfL_length (by simpa using h)
section
variable {a b p v : Value} {dg ds : List Value}
theorem rfL_dig {k : Nat} (h : dg.length = k) : ((rfL a b p dg).drop 3).take k = dg := by
 show dg.take k = dg
 rw [List.take_of_length_le (by omega)]
theorem rfL_one (h : ∀ u ∈ dg, u.oneCell' = true) (ha : a.oneCell' = true) (hb : b.oneCell' = true) (hp : p.oneCell' = true) : ∀ u ∈ rfL a b p dg, u.oneCell' = true := by
 intro u hu
 simp only [rfL, List.mem_cons] at hu
 rcases hu with rfl | rfl | rfl | hu
 all_goals first | assumption | exact h u hu
end
theorem NRef.one (r : NRef) : ∀ u ∈ r.cells, u.oneCell' = true := rfL_one (bv_one _) rfl rfl rfl
theorem NRef.dig (r : NRef) : (r.cells.drop 3).take (r.d.map bv).length = r.d.map bv := rfL_dig rfl
def bs (l : List UInt8) : ByteArray := ⟨l.toArray⟩
def cutL (c : UInt8) (l : List UInt8) : List UInt8 := l.take (findN c l)
def cutZ (c : UInt8) (l : List UInt8) : List UInt8 := l.drop (findN c l + 1)
def cutOk (c : UInt8) (l : List UInt8) : Bool := decide (findN c l < l.length)
theorem cutL_len (c : UInt8) (l : List UInt8) : (cutL c l).length ≤ l.length := by unfold cutL; simp; omega
theorem cutZ_len (c : UInt8) (l : List UInt8) : (cutZ c l).length ≤ l.length := by unfold cutZ; simp
end Go.Proofs.YtlhicfpmlncomaaGreatDoor

namespace Go.Proofs.YtlhicfpmlncomaaGreatDoor
open Go.RowKit
def halfC (j : Nat) (c : UInt8) : Bool := signB c || (decide (0 < j) && moreB c)
theorem half_bad {l : List UInt8} {k : Nat} {c : UInt8} (h : l[k]? = some c) (hc : halfC k c = false) : halfB l = false := by
 cases l with
 | nil => simp at h
 | cons d l =>
  rw [halfB]
  cases k with
  | zero => simp at h; subst h; simp [halfC] at hc; rw [hc]; rfl
  | succ k =>
   rw [all_not (k := k) (c := c) (by simpa using h) (by unfold halfC at hc; rw [decide_eq_true (Nat.succ_pos k), Bool.true_and] at hc; exact hc), Bool.and_false]
theorem half_good {l : List UInt8} (h : ∀ (j : Nat) c, l[j]? = some c → halfC j c = true) : halfB l = !l.isEmpty := by
 cases l with
 | nil => rfl
 | cons d l =>
  have h0 := h 0 d rfl
  simp [halfC] at h0
  rw [halfB, h0, all_at (l := l) (p := restC) fun j c hc => by
   have := h (j + 1) c (by simpa using hc)
   unfold halfC at this
   rw [decide_eq_true (Nat.succ_pos j), Bool.true_and] at this
   exact this]
  rfl
def ixv (d : UInt8) : Int := Lib.indexByte moreS.data.toList d
theorem ixv_more (d : UInt8) : decide (ixv d < 0) = !moreB d := indexByte_any d _
theorem ixb_any (d : UInt8) (w : World) : Calls Tryz.prog 126 #[.string moreS, .int .u8 (d.toNat : Int)] w fun e w' => e = .returned (.int .i64 (ixv d)) ∧ w = w' :=
 (Tryz.strings_IndexByte moreS (d.toNat : Int) w).mono fun _ _ ⟨h1, h2⟩ => ⟨by rw [h1]; unfold ixv; simp, h2.symm⟩
theorem str_empty (s : ByteArray) : s.toList.isEmpty = s.data.toList.isEmpty := by rw [ByteArray.toList_eq]
set_option maxRecDepth 20000 in
set_option maxHeartbeats 1600000 in
theorem half_any (s : ByteArray) (w : World) (hs : s.size ≤ 9223372036854775807) : Calls Tryz.prog 111 #[.string s] w fun e w' => e = .returned (.bool (halfB s.data.toList)) ∧ w = w' := by
 have hlb := box (str_len s)
 generalize hR : halfB s.data.toList = R
 replace hR := box hR
 go_enter Tryz.func111, Tryz.ntmps111
 go_wp2
 go_loop [6] (fun i => ∃ k : Nat, k ≤ s.size ∧ i = .int .i64 k ∧ Box (∀ (j : Nat) c, j < k → s.data.toList[j]? = some c → halfC j c = true)) (fun i => s.size - (intOf i).toNat)
 case atStart => exact ⟨0, by omega, rfl, box fun j c h => absurd h (by omega)⟩
 case round =>
  obtain ⟨k, hk, rfl, hall⟩ := hrel
  by_cases hlt : k < s.size
  ·obtain ⟨d, hd⟩ := str_at hlt
   have hix := fun W => run_strIx (P := Tryz.prog) uq9 hd (i := (k : Int)) rfl .i64 W
   have hgo : Box (halfC k d = true → ∀ (j : Nat) c, j < k + 1 → s.data.toList[j]? = some c → halfC j c = true) := box fun hta j c hj hc => by
    rcases Nat.lt_or_ge j k with h | h
    ·exact hall.out j c h hc
    ·obtain rfl : j = k := by omega
     rw [hd] at hc; injection hc with hc; subst hc; exact hta
   have hst : Box (halfC k d = false → R = false) := box fun h => by rw [← hR.out]; exact half_bad hd h
   clear hall hR
   replace hd := box hd
   cases hsg : signB d with
   | true =>
    have hta : Box (halfC k d = true) := box (by unfold halfC; rw [hsg]; rfl)
    go_wp2_with (go_at_call 125; refine (sign_any d _ rfl _).mono ?_; rintro e w' ⟨rfl, rfl⟩)
    go_round
    case rel => exact ⟨k + 1, by omega, by go_num, box (hgo.out hta.out)⟩
    case measure => simp [intOf]; omega
   | false =>
    rcases Nat.eq_zero_or_pos k with h0 | h0
    ·have hta : Box (halfC k d = false) := box (by unfold halfC; rw [hsg, decide_eq_false (by omega)]; rfl)
     have hk0 : ((k : Int) == 0) = true := by rw [beq_iff_eq]; omega
     clear h0
     go_wp2_with (go_at_call 125; refine (sign_any d _ rfl _).mono ?_; rintro e w' ⟨rfl, rfl⟩)
     go_ret
     exact ⟨by rw [hst.out hta.out]; rfl, rfl⟩
    ·have hk0 : ((k : Int) == 0) = false := by rw [beq_eq_false_iff_ne]; omega
     have hmx := ixv_more d
     cases hmo : moreB d with
     | true =>
      have hta : Box (halfC k d = true) := box (by unfold halfC; rw [hmo, decide_eq_true h0]; simp)
      have hx : decide (ixv d < 0) = false := by rw [hmx, hmo]; rfl
      clear hmx
      go_wp2_with (first | (go_at_call 125; refine (sign_any d _ rfl _).mono ?_; rintro e w' ⟨rfl, rfl⟩) | (go_at_call 126; refine (ixb_any d _).mono ?_; rintro e w' ⟨rfl, rfl⟩))
      go_round
      case rel => exact ⟨k + 1, by omega, by go_num, box (hgo.out hta.out)⟩
      case measure => simp [intOf]; omega
     | false =>
      have hta : Box (halfC k d = false) := box (by unfold halfC; rw [hmo, hsg]; simp)
      have hx : decide (ixv d < 0) = true := by rw [hmx, hmo]; rfl
      clear hmx
      go_wp2_with (first | (go_at_call 125; refine (sign_any d _ rfl _).mono ?_; rintro e w' ⟨rfl, rfl⟩) | (go_at_call 126; refine (ixb_any d _).mono ?_; rintro e w' ⟨rfl, rfl⟩))
      go_ret
      exact ⟨by rw [hst.out hta.out]; rfl, rfl⟩
  ·have hfin : Box (R = !s.toList.isEmpty) := box (by rw [← hR.out, str_empty]; exact half_good fun j c hc => hall.out j c (by have h1 := (List.getElem?_eq_some_iff.1 hc).1; have := hlb.out; omega) hc)
   clear hall hR
   cases hE : s.toList.isEmpty with
   | true =>
    have hfin2 : Box (R = false) := box (by rw [hfin.out, hE]; rfl)
    have hE2 : s.toList = [] := List.isEmpty_iff.1 hE
    go_wp2
    go_ret
    exact ⟨ret1 (by rw [hfin2.out]; first | rfl | (simp; done) | simp [hE2]), rfl⟩
   | false =>
    have hfin2 : Box (R = true) := box (by rw [hfin.out, hE]; rfl)
    go_wp2
    go_ret
    exact ⟨ret1 (by rw [hfin2.out]; first | rfl | (simp; done)), rfl⟩
theorem cut_any (c : UInt8) (s : ByteArray) (w : World) (hM : MaxW w) (hs : s.size < 4294967281) :
  Calls Tryz.prog 110 #[.string s, .string ⟨#[c]⟩] w fun e w' => e = .returned (.tuple #[.string ⟨(cutL c s.data.toList).toArray⟩, .string ⟨(cutZ c s.data.toList).toArray⟩, .bool (cutOk c s.data.toList)]) ∧ Below w.heap.size w w' := by
 obtain ⟨m, hm⟩ := hM
 refine (Tryz.strings_Cut s ⟨#[c]⟩ m w hs hm).mono fun e w' ⟨h1, n, h2⟩ => ⟨?_, ?_⟩
 ·rw [h1]
  have hc := cut_find c s.data.toList
  show Ending.returned (.tuple #[.string ⟨(Lib.cut s.data.toList [c]).1.toArray⟩, .string ⟨(Lib.cut s.data.toList [c]).2.1.toArray⟩, .bool (Lib.cut s.data.toList [c]).2.2]) = _
  rw [hc]
  unfold cutL cutZ cutOk
  have hle := findN_le c s.data.toList
  by_cases h : findN c s.data.toList < s.data.toList.length
  ·rw [if_pos h, decide_eq_true h]
  ·rw [if_neg h, decide_eq_false h, List.take_of_length_le (by omega), List.drop_of_length_le (by omega)]
 ·rw [h2]; exact below_drewN (Below.refl _ _) n
set_option maxRecDepth 20000 in
set_option maxHeartbeats 1600000 in
theorem media_any (s : ByteArray) (w : World) (hM : MaxW w) (hs : s.size < 4294967281) : Calls Tryz.prog 79 #[.string s] w fun e w' => e = .returned (.bool (mediaB s.data.toList)) ∧ Below w.heap.size w w' := by
 have hcut := box (cut_any 47 s w hM hs)
 have hla := cutL_len 47 s.data.toList
 have hlz := cutZ_len 47 s.data.toList
 rw [str_len] at hla hlz
 have hMB : Box (mediaB s.data.toList = (cutOk 47 s.data.toList && decide (s.size ≤ 127) && (halfB (cutL 47 s.data.toList) && halfB (cutZ 47 s.data.toList)))) := box (by
  rfl)
 have hhA := box (fun w => half_any ⟨(cutL 47 s.data.toList).toArray⟩ w (by rw [str_mk_size]; omega))
 have hhZ := box (fun w => half_any ⟨(cutZ 47 s.data.toList).toArray⟩ w (by rw [str_mk_size]; omega))
 simp only at hhA hhZ
 generalize mediaB s.data.toList = R at *
 generalize (⟨(cutL 47 s.data.toList).toArray⟩ : ByteArray) = a at *
 generalize (⟨(cutZ 47 s.data.toList).toArray⟩ : ByteArray) = z at *
 generalize halfB (cutL 47 s.data.toList) = ha at *
 generalize halfB (cutZ 47 s.data.toList) = hz at *
 generalize cutOk 47 s.data.toList = ok at *
 clear hla hlz
 cases ok with
 | false =>
  have hfin : Box (R = false) := box (by rw [hMB.out]; rfl)
  go_enter Tryz.func79, Tryz.ntmps79
  go_wp2_with (go_at_call 110; refine hcut.out.mono ?_; rintro e w1 ⟨rfl, hb1⟩)
  go_ret
  exact ⟨by rw [hfin.out]; rfl, hb1⟩
 | true =>
  by_cases h127 : s.size ≤ 127
  ·have hd : decide (s.size ≤ 127) = true := decide_eq_true h127
   cases ha with
   | false =>
    have hfin : Box (R = false) := box (by rw [hMB.out]; simp)
    clear hMB hd
    go_enter Tryz.func79, Tryz.ntmps79
    go_wp2_with (first | (go_at_call 110; refine hcut.out.mono ?_; rintro e w1 ⟨rfl, hb1⟩) | (go_at_call 111; refine (hhA.out _).mono ?_; rintro e w' ⟨rfl, rfl⟩))
    go_ret
    exact ⟨by rw [hfin.out]; rfl, hb1⟩
   | true =>
    have hfin : Box (R = hz) := box (by rw [hMB.out, hd]; simp)
    clear hMB hd
    go_enter Tryz.func79, Tryz.ntmps79
    go_wp2_with (go_at_call 110; refine hcut.out.mono ?_; rintro e w1 ⟨rfl, hb1⟩)
    refine (hhA.out _).mono ?_
    rintro e w' ⟨rfl, rfl⟩
    go_wp2_with (fail)
    refine (hhZ.out _).mono ?_
    rintro e w' ⟨rfl, rfl⟩
    go_wp2_with (fail)
    go_ret
    exact ⟨by rw [hfin.out]; rfl, hb1⟩
  ·have hfin : Box (R = false) := box (by rw [hMB.out, decide_eq_false h127]; simp)
   clear hMB
   go_enter Tryz.func79, Tryz.ntmps79
   go_wp2_with (go_at_call 110; refine hcut.out.mono ?_; rintro e w1 ⟨rfl, hb1⟩)
   go_ret
   exact ⟨by rw [hfin.out]; rfl, hb1⟩
end Go.Proofs.YtlhicfpmlncomaaGreatDoor
