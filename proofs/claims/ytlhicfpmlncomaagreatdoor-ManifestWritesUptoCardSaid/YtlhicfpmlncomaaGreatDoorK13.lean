/-
 Layer 6: values as they are written: in plain words; the walk of the program's written.
-/
import Derived.Test.YtlhicfpmlncomaaGreatDoorK07
import Derived.Test.YtlhicfpmlncomaaGreatDoorK02
import Derived.Test.YtlhicfpmlncomaaGreatDoorK12
import Derived.Test.YtlhicfpmlncomaaGreatDoorK00
set_option linter.unusedSimpArgs false
set_option linter.unusedVariables false
namespace Go.Proofs.YtlhicfpmlncomaaGreatDoor
open Go.RowKit
mutual
def jFull : JV → List UInt8
 | .mk k n t ns ks =>
  if k = 0 then [110, 117, 108, 108] else if k = 1 then [102, 97, 108, 115, 101] else if k = 2 then [116, 114, 117, 101]
  else if k = 3 then Lib.itoa n else if k = 4 then jQuote t
  else if k = 6 then [123] ++ jFullL true false ns ks ++ [125] else [91] ++ jFullL false false ns ks ++ [93]
def jFullL (obj : Bool) : Bool → List (List UInt8) → List JV → List UInt8
 | _, _, [] => []
 | more, ns, v :: vs => (if more then [44] else []) ++ ((if obj then jQuote (ns.headD []) ++ [58] else []) ++ (jFull v ++ jFullL obj true ns.tail vs))
end
mutual
def JOk : JV → Prop
 | .mk k n _ ns ks => (k = 0 ∨ k = 1 ∨ k = 2 ∨ (k = 3 ∧ -9223372036854775808 ≤ n ∧ n ≤ 9223372036854775807) ∨ k = 4) ∨ (k = 5 ∧ JOkL ks) ∨ (k = 6 ∧ ns.length = ks.length ∧ JOkL ks)
def JOkL : List JV → Prop
 | [] => True
 | v :: vs => JOk v ∧ JOkL vs
end
theorem JOkL.at : ∀ {ks : List JV} {i : Nat} {v : JV}, JOkL ks → ks[i]? = some v → JOk v
 | [], _, _, _, hv => by cases hv
 | k :: ks, i, v, h, hv => by
  rw [JOkL] at h
  cases i with
  | zero => injection hv with hv; subst hv; exact h.1
  | succ i => exact JOkL.at h.2 (by simpa using hv)
theorem jFullL_drop {obj more : Bool} {ns : List (List UInt8)} {ks : List JV} {i : Nat} {v : JV} (hv : ks[i]? = some v) :
  jFullL obj more (ns.drop i) (ks.drop i) = (if more then [44] else []) ++ ((if obj then jQuote ((ns.drop i).headD []) ++ [58] else []) ++ (jFull v ++ jFullL obj true (ns.drop (i + 1)) (ks.drop (i + 1)))) := by
 rw [List.drop_eq_getElem_cons (List.getElem?_eq_some_iff.1 hv).1, (List.getElem?_eq_some_iff.1 hv).2, jFullL, List.tail_drop]
theorem jQs_ge : ∀ (s : List UInt8), s.length ≤ (s.flatMap jQc).length
 | [] => Nat.le_refl _
 | c :: s => by
  rw [List.flatMap_cons, List.length_append, List.length_cons]
  have h1 : 1 ≤ (jQc c).length := by
   unfold jQc
   repeat' split
   all_goals simp
  have := jQs_ge s
  omega
theorem jQuote_ge (s : List UInt8) : s.length + 2 ≤ (jQuote s).length := by
 have := jQs_ge s
 unfold jQuote
 simp only [List.length_append, List.length_cons, List.length_nil]
 omega
theorem itoa_len {n : Int} (h0 : -9223372036854775808 ≤ n) (h1 : n ≤ 9223372036854775807) : (Lib.itoa n).length ≤ 20 := by
 unfold Lib.itoa
 split
 ·have := decDigits_len 18 n.natAbs (by omega)
  simp only [List.length_cons]; omega
 ·have := decDigits_len 18 n.toNat (by omega)
  omega
theorem Fr.appI {w0 w w' : World} {u : TypeId} {v v' : Value} {l l' : List UInt8} {rest : List Ent} (hF : Fr [] w0 w (Ent.bytes w0.heap.size u v l :: rest)) (hrest : ∀ e ∈ rest, ∃ g t cs, t ≠ u ∧ e = Ent.blk g t cs)
  (hb : Below w0.heap.size w w') (hk : Lib.OthersKept u none w w') (ho : w'.ownsRow w0.heap.size u 1 v' l'.length (l'.map bv)) : Fr [] w0 w' (Ent.bytes w0.heap.size u v' l' :: rest) := by
 have hT := hF.tail
 have hR : Fr [] w0 w' rest := by
  refine ⟨hb.os.trans hT.os, hb.tape.trans hT.tape, hb.output.trans hT.output, Nat.le_trans hT.size hb.size, fun k hk2 hx => (hb.block k hk2).trans (hT.block k hk2 hx), fun i e he => ?_, hT.fresh, hT.apart⟩
  obtain ⟨g, t, cs, ht, rfl⟩ := hrest e (List.mem_of_getElem? he)
  have h1 : w.heap[g]? = some (.cells cs.toArray t (0, 0)) := hT.holds i _ he
  exact hk g _ h1 (by simp) (fun c fz h => by injection h with _ h2 _; exact ht h2)
 refine hR.push (e := Ent.bytes w0.heap.size u v' l') ho fun b hbl => ?_
 have hlt := World.ownsRow.lt ho b hbl
 refine ⟨.inl hlt.1, fun i f hf he => ?_⟩
 obtain ⟨g, t, cs, ht, rfl⟩ := hrest f (List.mem_of_getElem? hf)
 injection he with he
 subst he
 have h1 : w'.heap[g]? = some (.cells cs.toArray t (0, 0)) := hR.holds i _ hf
 rcases ho.2 with ⟨rfl, _⟩ | ⟨g', cap, cur, rfl, _, hg', _⟩
 ·cases hbl
 ·have hbl' : some g' = some g := hbl
  injection hbl' with hbl'
  subst hbl'
  rw [h1] at hg'
  injection hg' with hg'
  injection hg' with _ h2 _
  exact ht h2
def WrPost (w0 : World) (rest : List Ent) (full : List UInt8) (e : Ending) (w' : World) : Prop :=
 ∃ v l, e = .returned v ∧ Box (l.length ≤ full.length ∧ (l = full ∨ 65536 < l.length)) ∧ Fr [] w0 w' (Ent.bytes w0.heap.size 5 v l :: rest)
def NotU8 (rest : List Ent) : Prop := ∀ e ∈ rest, ∃ g t cs, t ≠ 5 ∧ e = Ent.blk g t cs
theorem NotU8.cons {rest : List Ent} (h : NotU8 rest) {g : Nat} {t : TypeId} {cs : List Value} (ht : t ≠ 5) : NotU8 (.blk g t cs :: rest) := by
 intro e he
 rcases List.mem_cons.1 he with rfl | he
 ·exact ⟨_, _, _, ht, rfl⟩
 ·exact h e he
theorem VRd.one {w : World} {S : Nat → Prop} {v : JV} {cs : List Value} (h : VRd w S v cs) : ∀ u ∈ cs, u.oneCell' = true := by
 cases v
 rw [VRd] at h
 obtain ⟨_, _, _, _, _, _, _, _, _, rfl, _⟩ := h
 exact vlL_one
set_option maxRecDepth 20000 in
set_option maxHeartbeats 12800000 in
theorem written_leaf (w0 w : World) (k n : Int) (t : List UInt8) (ns : List (List UInt8)) (ks : List JV) (An : Option Addr) (nn cn : Nat) (Ak : Option Addr) (nk ck : Nat) (A : Option Addr) (c : Nat) (out : List UInt8) (rest : List Ent) (hk4 : k = 0 ∨ k = 1 ∨ k = 2 ∨ (k = 3 ∧ -9223372036854775808 ≤ n ∧ n ≤ 9223372036854775807) ∨ k = 4) (hL : LibsAt w0.heap.size w0)
  (hrest : NotU8 rest) (hroom : out.length + 6 * (jFull (.mk k n t ns ks)).length ≤ 140737480000000) (hF : Fr [] w0 w (Ent.bytes w0.heap.size 5 (.slice A out.length c) out :: rest)) :
  Calls Tryz.prog 84 #[.slice A out.length c, .agg (vlL k n ⟨t.toArray⟩ (.slice An nn cn) (.slice Ak nk ck)).toArray] w (WrPost w0 rest (out ++ jFull (.mk k n t ns ks))) := by
  rcases hk4 with hk | hk | hk | ⟨hk, hn0, hn1⟩ | hk
  ·subst hk
   have hfu : Box (jFull (.mk 0 n t ns ks) = [110, 117, 108, 108]) := box (by rw [jFull]; rfl)
   rw [hfu.out] at hroom
   go_enter Tryz.func84, Tryz.ntmps84
   go_wp2_with (first | ((with_reducible refine lsx (wp_fbox hF (cs := (vlL 0 n ⟨t.toArray⟩ (.slice An nn cn) (.slice Ak nk ck))) rfl (by with_unfolding_all rfl) (by with_unfolding_all rfl) ?_)); intro w1 g1 hF1 hz1) | (with_reducible refine lsx (wp_fld0 hF1 uq3 rfl (by with_unfolding_all exact ⟨_, rfl, rfl⟩) rfl ?_)) | ((with_reducible refine lsx (wp_fappS T_u8 uq9 hF1 (i := 1) rfl (Nat.le_refl _) (by with_unfolding_all exact ⟨_, _, rfl, rfl, rfl⟩) (by rw [show (⟨#[110, 117, 108, 108]⟩ : ByteArray).size = 4 from rfl]; simp at hroom; omega) ?_)); intro v2 w2 hF2 hz2; simp only [zZ, zN] at hF2))
   go_ret
   refine ⟨_, _, rfl, box ⟨Nat.le_refl _, .inl rfl⟩, ?_⟩
   rw [hfu.out]
   exact hF2.tail
  ·subst hk
   have hfu : Box (jFull (.mk 1 n t ns ks) = [102, 97, 108, 115, 101]) := box (by rw [jFull]; rfl)
   rw [hfu.out] at hroom
   go_enter Tryz.func84, Tryz.ntmps84
   go_wp2_with (first | ((with_reducible refine lsx (wp_fbox hF (cs := (vlL 1 n ⟨t.toArray⟩ (.slice An nn cn) (.slice Ak nk ck))) rfl (by with_unfolding_all rfl) (by with_unfolding_all rfl) ?_)); intro w1 g1 hF1 hz1) | (with_reducible refine lsx (wp_fld0 hF1 uq3 rfl (by with_unfolding_all exact ⟨_, rfl, rfl⟩) rfl ?_)) | ((with_reducible refine lsx (wp_fappS T_u8 uq9 hF1 (i := 1) rfl (Nat.le_refl _) (by with_unfolding_all exact ⟨_, _, rfl, rfl, rfl⟩) (by rw [show (⟨#[102, 97, 108, 115, 101]⟩ : ByteArray).size = 5 from rfl]; simp at hroom; omega) ?_)); intro v2 w2 hF2 hz2; simp only [zZ, zN] at hF2))
   go_ret
   refine ⟨_, _, rfl, box ⟨Nat.le_refl _, .inl rfl⟩, ?_⟩
   rw [hfu.out]
   exact hF2.tail
  ·subst hk
   have hfu : Box (jFull (.mk 2 n t ns ks) = [116, 114, 117, 101]) := box (by rw [jFull]; rfl)
   rw [hfu.out] at hroom
   go_enter Tryz.func84, Tryz.ntmps84
   go_wp2_with (first | ((with_reducible refine lsx (wp_fbox hF (cs := (vlL 2 n ⟨t.toArray⟩ (.slice An nn cn) (.slice Ak nk ck))) rfl (by with_unfolding_all rfl) (by with_unfolding_all rfl) ?_)); intro w1 g1 hF1 hz1) | (with_reducible refine lsx (wp_fld0 hF1 uq3 rfl (by with_unfolding_all exact ⟨_, rfl, rfl⟩) rfl ?_)) | ((with_reducible refine lsx (wp_fappS T_u8 uq9 hF1 (i := 1) rfl (Nat.le_refl _) (by with_unfolding_all exact ⟨_, _, rfl, rfl, rfl⟩) (by rw [show (⟨#[116, 114, 117, 101]⟩ : ByteArray).size = 4 from rfl]; simp at hroom; omega) ?_)); intro v2 w2 hF2 hz2; simp only [zZ, zN] at hF2))
   go_ret
   refine ⟨_, _, rfl, box ⟨Nat.le_refl _, .inl rfl⟩, ?_⟩
   rw [hfu.out]
   exact hF2.tail
  ·subst hk
   have hfu : Box (jFull (.mk 3 n t ns ks) = Lib.itoa n) := box (by rw [jFull]; rfl)
   rw [hfu.out] at hroom
   have hil := itoa_len hn0 hn1
   replace hn0 := box hn0
   replace hn1 := box hn1
   go_enter Tryz.func84, Tryz.ntmps84
   go_wp2_with (first | ((with_reducible refine lsx (wp_fbox hF (cs := (vlL 3 n ⟨t.toArray⟩ (.slice An nn cn) (.slice Ak nk ck))) rfl (by with_unfolding_all rfl) (by with_unfolding_all rfl) ?_)); intro w1 g1 hF1 hz1) | (with_reducible refine lsx (wp_fld0 hF1 uq3 rfl (by with_unfolding_all exact ⟨_, rfl, rfl⟩) rfl ?_)))
   have hF2 := hF1.perm (List.Perm.swap _ _ _)
   have hai := Tryz.strconv_AppendInt_10 w0.heap.size out.length n hn0.out hn1.out (.slice A out.length c) (out.map bv) w1 (hF2.own (i := 0) rfl).own hF2.size (by omega) ((hL.on hF2.below).pow)
   refine hai.mono ?_
   rintro e w3 ⟨v3, rfl, ho3, hb3, hk3⟩
   have e1 : out.map bv ++ Lib.byteCells (Lib.itoa n) = (out ++ Lib.itoa n).map bv := by rw [List.map_append]; rfl
   have e2 : out.length + (Lib.itoa n).length = (out ++ Lib.itoa n).length := by rw [List.length_append]
   rw [e1, e2] at ho3
   have hF3 := hF2.appI (hrest.cons (by decide)) hb3 hk3 ho3
   clear e1 e2 hai
   go_wp2_with fail
   go_ret
   refine ⟨_, _, rfl, box ⟨Nat.le_refl _, .inl rfl⟩, ?_⟩
   rw [hfu.out]
   exact hF3.drop1
  ·subst hk
   have hfu : Box (jFull (.mk 4 n t ns ks) = jQuote t) := box (by rw [jFull]; rfl)
   rw [hfu.out] at hroom
   have hqg := jQuote_ge t
   go_enter Tryz.func84, Tryz.ntmps84
   go_wp2_with (first | ((with_reducible refine lsx (wp_fbox hF (cs := (vlL 4 n ⟨t.toArray⟩ (.slice An nn cn) (.slice Ak nk ck))) rfl (by with_unfolding_all rfl) (by with_unfolding_all rfl) ?_)); intro w1 g1 hF1 hz1) | (with_reducible refine lsx (wp_fld0 hF1 uq3 rfl (by with_unfolding_all exact ⟨_, rfl, rfl⟩) rfl ?_)) | (with_reducible refine lsx (wp_fld0 hF1 uq9 rfl (by with_unfolding_all exact ⟨_, rfl, rfl⟩) rfl ?_)))
   have hF2 := hF1.perm (List.Perm.swap _ _ _)
   have hq := quoted_any [] w0 w1 A c out _ ⟨t.toArray⟩ (by rw [str_mk_size]; omega) hF2
   refine hq.mono ?_
   rintro e w3 ⟨v3, rfl, hF3⟩
   clear hq
   go_wp2_with fail
   go_ret
   refine ⟨_, _, rfl, box ⟨Nat.le_refl _, .inl rfl⟩, ?_⟩
   rw [hfu.out]
   exact hF3.drop1
set_option maxRecDepth 20000 in
set_option maxHeartbeats 25600000 in
theorem written_any (N : Nat) : ∀ (v : JV) (cs : List Value) (w0 w : World) (A : Option Addr) (c : Nat) (out : List UInt8) (rest : List Ent), SizeOf.sizeOf v ≤ N → VRd w0 (· < w0.heap.size) v cs → JSm v → JOk v → LibsAt w0.heap.size w0 → NotU8 rest → out.length + 6 * (jFull v).length ≤ 140737480000000 →
  Fr [] w0 w (Ent.bytes w0.heap.size 5 (.slice A out.length c) out :: rest) →
  Calls Tryz.prog 84 #[.slice A out.length c, .agg cs.toArray] w (WrPost w0 rest (out ++ jFull v)) := by
 induction N with
 | zero => intro v _ _ _ _ _ _ _ h; cases v; simp only [JV.mk.sizeOf_spec] at h; omega
 | succ N ih =>
  intro v cs w0 w A c out rest hN hv hsm hok hL hrest hroom hF
  obtain ⟨k, n, t, ns, ks⟩ := v
  rw [VRd] at hv
  obtain ⟨An, nn, cn, Ak, nk, ck, xk, hcn, hck, rfl, hrn, hrk, hvk⟩ := hv
  rw [JSm] at hsm
  obtain ⟨hs1, hs2, hs3⟩ := hsm
  have hnk : ks.length = nk := by have := hrk.len; rw [hvk.len] at this; omega
  rw [hnk] at hs2
  replace hnk := box hnk
  replace hvk := box hvk
  replace hs3 := box hs3
  replace hN := box hN
  replace hrn := box hrn
  replace hrk := box hrk
  have hnn : ns.length = nn := by have := hrn.out.len; simpa using this
  rw [hnn] at hs1
  replace hnn := box hnn
  rw [JOk] at hok
  rcases hok with hk | hk | hk
  ·exact written_leaf w0 w k n t ns ks An nn cn Ak nk ck A c out rest hk hL hrest hroom hF
  ·obtain ⟨rfl, hok⟩ := hk
   replace hok := box hok
   have hfu : Box (jFull (.mk 5 n t ns ks) = [91] ++ jFullL false false ns ks ++ [93]) := box (by rw [jFull]; rfl)
   have hfl : ([91] ++ jFullL false false ns ks ++ [93]).length = (jFull (.mk 5 n t ns ks)).length := by rw [hfu.out]
   obtain ⟨FU, hFU⟩ : ∃ FU, FU = jFull (.mk 5 n t ns ks) := ⟨_, rfl⟩
   rw [← hFU] at hroom hfu
   rw [← hFU]
   have hFl1 : 1 ≤ FU.length := by rw [hfu.out]; simp
   clear hFU hfl
   go_enter Tryz.func84, Tryz.ntmps84
   go_wp2_with (first | ((with_reducible refine lsx (wp_fbox hF (cs := (vlL 5 n ⟨t.toArray⟩ (.slice An nn cn) (.slice Ak nk ck))) rfl (by with_unfolding_all rfl) (by with_unfolding_all rfl) ?_)); intro w1 g1 hF1 hz1) | (with_reducible refine lsx (wp_fld0 hF1 uq3 rfl (by with_unfolding_all exact ⟨_, rfl, rfl⟩) rfl ?_)) | ((with_reducible refine lsx (wp_fbsl T_u8 hF1 (vs := [bv 91]) (by with_unfolding_all rfl) (by with_unfolding_all rfl) (by with_unfolding_all rfl) (by decide) (by simp [bv, Value.cells]) ?_)); intro w2 g2 hF2 hz2; have hr2 : Rd w2 (· < w2.heap.size) (some ⟨g2, 0, none⟩) 1 1 ([91].map bv) := hF2.rdOwn0; replace hF2 : Fr _ _ w2 (Ent.bytes _ 5 (.slice (some ⟨g2, 0, none⟩) 1 1) [91] :: _) := hF2) | ((with_reducible refine lsx (wp_fapp2 T_u8 hF2 (Nat.le_refl _) hr2 (by with_unfolding_all exact ⟨_, _, rfl, rfl, rfl⟩) (by omega) ?_)); intro v3 w3 hF3 hz3) | (with_reducible refine lsx (wp_fld1 hF3 uq74 rfl (by with_unfolding_all exact ⟨_, rfl, rfl⟩) rfl ?_)))
   have hF4 := hF3.tail.perm (List.Perm.swap _ _ _)
   clear hF hF1 hF2 hF3
   go_loopg [0, 45] nk (fun gk v s wr => ∃ (i : Nat) (P O : List UInt8), i ≤ nk ∧ Box (gk = nk - i) ∧ s = .int .i64 (i : Int) ∧ Box (out ++ FU = P ++ jFullL false (decide (0 < i)) (ns.drop i) (ks.drop i) ++ [93]) ∧ out.length ≤ P.length ∧ Box (O.length ≤ P.length ∧ (O = P ∨ 65536 < O.length)) ∧ Fr [] w0 wr (Ent.bytes w0.heap.size 5 v O :: .blk g1 76 (vlL 5 n ⟨t.toArray⟩ (.slice An nn cn) (.slice Ak nk ck)) :: rest))
   case atStart => exact ⟨0, out ++ [91], out ++ [91], by omega, box rfl, rfl, box (by rw [hfu.out]; simp), by simp, box ⟨Nat.le_refl _, .inl rfl⟩, hF4⟩
   case round =>
    clear hF4
    obtain ⟨i, P, O, hi, hk, rfl, hfull, hoP, hO, hF⟩ := hrel
    have hkf : Box (gk = nk - i) := hk
    clear hk
    obtain ⟨Ao, co, rfl, hco, hro⟩ := (hF.own (i := 0) rfl).arg
    have hPl : P.length + 1 ≤ out.length + FU.length := by have := congrArg List.length hfull.out; simp only [List.length_append, List.length_cons, List.length_nil] at this; omega
    have hOl : O.length ≤ P.length := hO.out.1
    by_cases hlt : i < nk
    ·obtain ⟨vi, hvi⟩ : ∃ vi, ks[i]? = some vi := ⟨ks[i]'(by rw [hnk.out]; exact hlt), by simp⟩
     obtain ⟨ci, hci, hvri⟩ := hvk.out.at hvi
     have hcil := box hvri.len
     have hcio := box (VRd.one hvri)
     replace hci := box hci
     have hsi := box (hs3.out.at hvi)
     have hoki := box (hok.out.at hvi)
     have hsz : Box (SizeOf.sizeOf vi ≤ N) := box (by have := JV.size_kid (k := 5) (n := n) (t := t) (ns := ns) hvi; have := hN.out; omega)
     have hstep := box (hfull.out.trans (by rw [jFullL_drop hvi]))
     replace hvi := box hvi
     replace hvri := box hvri
     have hrk2 := hrk.out.below hF.below
     have hrn2 := hrn.out.below hF.below
     by_cases hbig : 65536 < O.length
     ·have d1 : decide ((65536 : Int) < (O.length : Int)) = true := decide_eq_true (by omega)
      replace hbig := box hbig
      clear hrn2
      go_wp2_with (first | (with_reducible refine lsx (wp_indexAddr T_vals hrk2 (by with_unfolding_all exact ⟨_, _, _, _, rfl, rfl, rfl⟩) (by omega) (by omega) ?_)) | (with_reducible refine lsx (wp_loadA hrk2 uq76 rfl (by with_unfolding_all exact ⟨_, rfl, rfl⟩) (ds := ci) (by rw [hcil.out]; kernel_rfl) (by rw [hcil.out]; with_unfolding_all exact hci.out) ?_)) | ((with_reducible refine lsx (wp_falloc hF (cs := vl0) (z := .agg (List.toArray (vl0))) rfl (by kernel_rfl) (by with_unfolding_all rfl) ?_)); intro w6 g6 hF6 hz6) | ((with_reducible refine lsx (wp_fstA0 hF6 (by with_unfolding_all exact ⟨_, _, rfl, rfl, rfl⟩) (by rw [hcil.out]; kernel_rfl) hcio.out (by rw [hcil.out, vlL_len]; decide) (spl_all (by rw [hcil.out, vlL_len])) ?_)); intro w7 hF7 hz7))
      go_ret
      exact ⟨_, _, rfl, box ⟨by simp only [List.length_append]; omega, .inr hbig.out⟩, hF7.tail.drop1⟩
     ·have hOP : O = P := hO.out.2.resolve_right hbig
      subst hOP
      have d1 : decide ((65536 : Int) < (O.length : Int)) = false := decide_eq_false (by omega)
      replace hbig := box hbig
      clear hO hfull
      by_cases h0 : 0 < i
      ·have hz : decide (0 < i) = true := decide_eq_true h0
       rw [hz] at hstep
       clear hz
       replace hstep : Box (out ++ FU = (O ++ [44]) ++ jFull vi ++ jFullL false true (ns.drop (i + 1)) (ks.drop (i + 1)) ++ [93]) := box (hstep.out.trans (by simp))
       have hrl : (O ++ [44]).length + (jFull vi).length + 1 ≤ out.length + FU.length := by have := congrArg List.length hstep.out; simp only [List.length_append, List.length_cons, List.length_nil] at this ⊢; omega
       have hbo : out.length ≤ (O ++ [44]).length := by first | omega | (simp only [List.length_append]; omega)
       clear hrn2
       go_wp2_with (first | (with_reducible refine lsx (wp_indexAddr T_vals hrk2 (by with_unfolding_all exact ⟨_, _, _, _, rfl, rfl, rfl⟩) (by omega) (by omega) ?_)) | (with_reducible refine lsx (wp_loadA hrk2 uq76 rfl (by with_unfolding_all exact ⟨_, rfl, rfl⟩) (ds := ci) (by rw [hcil.out]; kernel_rfl) (by rw [hcil.out]; with_unfolding_all exact hci.out) ?_)) | ((with_reducible refine lsx (wp_falloc hF (cs := vl0) (z := .agg (List.toArray (vl0))) rfl (by kernel_rfl) (by with_unfolding_all rfl) ?_)); intro w6 g6 hF6 hz6) | ((with_reducible refine lsx (wp_fstA0 hF6 (by with_unfolding_all exact ⟨_, _, rfl, rfl, rfl⟩) (by rw [hcil.out]; kernel_rfl) hcio.out (by rw [hcil.out, vlL_len]; decide) (spl_all (by rw [hcil.out, vlL_len])) ?_)); intro w7 hF7 hz7) | ((with_reducible refine lsx (wp_fbsl T_u8 hF7 (vs := [bv 44]) (by with_unfolding_all rfl) (by with_unfolding_all rfl) (by with_unfolding_all rfl) (by decide) (by simp [bv, Value.cells]) ?_)); intro w8 g8 hF8 hz8; have hr8 : Rd w8 (· < w8.heap.size) (some ⟨g8, 0, none⟩) 1 1 ([44].map bv) := hF8.rdOwn0; replace hF8 : Fr _ _ w8 (Ent.bytes _ 5 (.slice (some ⟨g8, 0, none⟩) 1 1) [44] :: _) := hF8) | ((with_reducible refine lsx (wp_fapp2 T_u8 hF8 (Nat.le_refl _) hr8 (by with_unfolding_all exact ⟨_, _, rfl, rfl, rfl⟩) (by omega) ?_)); intro v9 w9 hF9 hz9) | (with_reducible refine lsx (wp_fld3 hF9 uq3 rfl (by with_unfolding_all exact ⟨_, rfl, rfl⟩) rfl ?_)) | (with_reducible refine lsx (wp_fldA1 hF9 uq76 rfl (by with_unfolding_all exact ⟨_, rfl, rfl⟩) (ds := ci) (by rw [hcil.out]; kernel_rfl) (take_all _) ?_)))
       have hF14 := hF9.tail.perm (List.Perm.swap _ _ _)
       obtain ⟨A14, c14, hv14, hc14, hr14⟩ := (hF14.own (i := 0) rfl).arg
       subst hv14
       have hwr := ih vi ci w0 _ _ _ (O ++ [44]) _ hsz.out hvri.out hsi.out hoki.out hL ((hrest.cons (by decide)).cons (by decide)) (by omega) hF14
       refine hwr.mono ?_
       rintro e w15 ⟨v15, l15, rfl, hl15, hF15⟩
       clear hwr
       go_wp2_with fail
       go_roundg (nk - (i + 1))
       case rel => exact ⟨i + 1, (O ++ [44]) ++ jFull vi, l15, by omega, box rfl, by go_num, box (by rw [hstep.out, decide_eq_true (Nat.succ_pos _)]), by rw [List.length_append]; omega, hl15, hF15.drop1⟩
       case measure => have := hkf.out; omega
      ·obtain rfl : i = 0 := by omega
       replace hstep : Box (out ++ FU = (O) ++ jFull vi ++ jFullL false true (ns.drop (0 + 1)) (ks.drop (0 + 1)) ++ [93]) := box (hstep.out.trans (by simp))
       have hrl : (O).length + (jFull vi).length + 1 ≤ out.length + FU.length := by have := congrArg List.length hstep.out; simp only [List.length_append, List.length_cons, List.length_nil] at this ⊢; omega
       have hbo : out.length ≤ (O).length := by first | omega | (simp only [List.length_append]; omega)
       clear hrn2
       go_wp2_with (first | (with_reducible refine lsx (wp_indexAddr T_vals hrk2 (by with_unfolding_all exact ⟨_, _, _, _, rfl, rfl, rfl⟩) (by omega) (by omega) ?_)) | (with_reducible refine lsx (wp_loadA hrk2 uq76 rfl (by with_unfolding_all exact ⟨_, rfl, rfl⟩) (ds := ci) (by rw [hcil.out]; kernel_rfl) (by rw [hcil.out]; with_unfolding_all exact hci.out) ?_)) | ((with_reducible refine lsx (wp_falloc hF (cs := vl0) (z := .agg (List.toArray (vl0))) rfl (by kernel_rfl) (by with_unfolding_all rfl) ?_)); intro w6 g6 hF6 hz6) | ((with_reducible refine lsx (wp_fstA0 hF6 (by with_unfolding_all exact ⟨_, _, rfl, rfl, rfl⟩) (by rw [hcil.out]; kernel_rfl) hcio.out (by rw [hcil.out, vlL_len]; decide) (spl_all (by rw [hcil.out, vlL_len])) ?_)); intro w7 hF7 hz7) | (with_reducible refine lsx (wp_fld2 hF7 uq3 rfl (by with_unfolding_all exact ⟨_, rfl, rfl⟩) rfl ?_)) | (with_reducible refine lsx (wp_fldA0 hF7 uq76 rfl (by with_unfolding_all exact ⟨_, rfl, rfl⟩) (ds := ci) (by rw [hcil.out]; kernel_rfl) (take_all _) ?_)))
       have hF14 := hF7.perm (List.Perm.swap _ _ _)
       have hwr := ih vi ci w0 _ _ _ (O) _ hsz.out hvri.out hsi.out hoki.out hL ((hrest.cons (by decide)).cons (by decide)) (by omega) hF14
       refine hwr.mono ?_
       rintro e w15 ⟨v15, l15, rfl, hl15, hF15⟩
       clear hwr
       go_wp2_with fail
       go_roundg (nk - (0 + 1))
       case rel => exact ⟨0 + 1, (O) ++ jFull vi, l15, by omega, box rfl, by go_num, box (by rw [hstep.out, decide_eq_true (Nat.succ_pos _)]), by rw [List.length_append]; omega, hl15, hF15.drop1⟩
       case measure => have := hkf.out; omega
    ·have hin : nk = i := by omega
     subst hin
     have hend : Box (out ++ FU = P ++ [93]) := box (by
      rw [hfull.out, List.drop_of_length_le (l := ks) (by rw [hnk.out]; exact Nat.le_refl _), jFullL, List.append_nil])
     clear hfull hkf
     go_wp2_with (first | ((with_reducible refine lsx (wp_fbsl T_u8 hF (vs := [bv 93]) (by with_unfolding_all rfl) (by with_unfolding_all rfl) (by with_unfolding_all rfl) (by decide) (by simp [bv, Value.cells]) ?_)); intro w5 g5 hF5 hz5; have hr5 : Rd w5 (· < w5.heap.size) (some ⟨g5, 0, none⟩) 1 1 ([93].map bv) := hF5.rdOwn0; replace hF5 : Fr _ _ w5 (Ent.bytes _ 5 (.slice (some ⟨g5, 0, none⟩) 1 1) [93] :: _) := hF5) | ((with_reducible refine lsx (wp_fapp1 T_u8 hF5 (Nat.le_refl _) hr5 (by with_unfolding_all exact ⟨_, _, rfl, rfl, rfl⟩) (by omega) ?_)); intro v6 w6 hF6 hz6))
     go_ret
     refine ⟨_, _, rfl, box ⟨?_, ?_⟩, hF6.tail.drop1⟩
     ·rw [hend.out]; simp only [List.length_append, List.length_cons, List.length_nil]; omega
     ·rcases hO.out.2 with h | h
      ·left; rw [hend.out, h]
      ·right; simp only [List.length_append, List.length_cons, List.length_nil]; omega
  ·obtain ⟨rfl, hnk5, hok⟩ := hk
   replace hok := box hok
   have hnn5 := hnn.out
   rw [hnn5] at hnk5
   rw [hnk.out] at hnk5
   have hnnk : nk ≤ nn := by omega
   replace hnk5 := box hnk5
   clear hnn5
   have hfu : Box (jFull (.mk 6 n t ns ks) = [123] ++ jFullL true false ns ks ++ [125]) := box (by rw [jFull]; rfl)
   have hfl : ([123] ++ jFullL true false ns ks ++ [125]).length = (jFull (.mk 6 n t ns ks)).length := by rw [hfu.out]
   obtain ⟨FU, hFU⟩ : ∃ FU, FU = jFull (.mk 6 n t ns ks) := ⟨_, rfl⟩
   rw [← hFU] at hroom hfu
   rw [← hFU]
   have hFl1 : 1 ≤ FU.length := by rw [hfu.out]; simp
   clear hFU hfl
   go_enter Tryz.func84, Tryz.ntmps84
   go_wp2_with (first | ((with_reducible refine lsx (wp_fbox hF (cs := (vlL 6 n ⟨t.toArray⟩ (.slice An nn cn) (.slice Ak nk ck))) rfl (by with_unfolding_all rfl) (by with_unfolding_all rfl) ?_)); intro w1 g1 hF1 hz1) | (with_reducible refine lsx (wp_fld0 hF1 uq3 rfl (by with_unfolding_all exact ⟨_, rfl, rfl⟩) rfl ?_)) | ((with_reducible refine lsx (wp_fbsl T_u8 hF1 (vs := [bv 123]) (by with_unfolding_all rfl) (by with_unfolding_all rfl) (by with_unfolding_all rfl) (by decide) (by simp [bv, Value.cells]) ?_)); intro w2 g2 hF2 hz2; have hr2 : Rd w2 (· < w2.heap.size) (some ⟨g2, 0, none⟩) 1 1 ([123].map bv) := hF2.rdOwn0; replace hF2 : Fr _ _ w2 (Ent.bytes _ 5 (.slice (some ⟨g2, 0, none⟩) 1 1) [123] :: _) := hF2) | ((with_reducible refine lsx (wp_fapp2 T_u8 hF2 (Nat.le_refl _) hr2 (by with_unfolding_all exact ⟨_, _, rfl, rfl, rfl⟩) (by omega) ?_)); intro v3 w3 hF3 hz3) | (with_reducible refine lsx (wp_fld1 hF3 uq74 rfl (by with_unfolding_all exact ⟨_, rfl, rfl⟩) rfl ?_)))
   have hF4 := hF3.tail.perm (List.Perm.swap _ _ _)
   clear hF hF1 hF2 hF3
   go_loopg [0, 45] nk (fun gk v s wr => ∃ (i : Nat) (P O : List UInt8), i ≤ nk ∧ Box (gk = nk - i) ∧ s = .int .i64 (i : Int) ∧ Box (out ++ FU = P ++ jFullL true (decide (0 < i)) (ns.drop i) (ks.drop i) ++ [125]) ∧ out.length ≤ P.length ∧ Box (O.length ≤ P.length ∧ (O = P ∨ 65536 < O.length)) ∧ Fr [] w0 wr (Ent.bytes w0.heap.size 5 v O :: .blk g1 76 (vlL 6 n ⟨t.toArray⟩ (.slice An nn cn) (.slice Ak nk ck)) :: rest))
   case atStart => exact ⟨0, out ++ [123], out ++ [123], by omega, box rfl, rfl, box (by rw [hfu.out]; simp), by simp, box ⟨Nat.le_refl _, .inl rfl⟩, hF4⟩
   case round =>
    clear hF4
    obtain ⟨i, P, O, hi, hk, rfl, hfull, hoP, hO, hF⟩ := hrel
    have hkf : Box (gk = nk - i) := hk
    clear hk
    obtain ⟨Ao, co, rfl, hco, hro⟩ := (hF.own (i := 0) rfl).arg
    have hPl : P.length + 1 ≤ out.length + FU.length := by have := congrArg List.length hfull.out; simp only [List.length_append, List.length_cons, List.length_nil] at this; omega
    have hOl : O.length ≤ P.length := hO.out.1
    by_cases hlt : i < nk
    ·obtain ⟨vi, hvi⟩ : ∃ vi, ks[i]? = some vi := ⟨ks[i]'(by rw [hnk.out]; exact hlt), by simp⟩
     obtain ⟨ci, hci, hvri⟩ := hvk.out.at hvi
     have hcil := box hvri.len
     have hcio := box (VRd.one hvri)
     replace hci := box hci
     have hsi := box (hs3.out.at hvi)
     have hoki := box (hok.out.at hvi)
     have hsz : Box (SizeOf.sizeOf vi ≤ N) := box (by have := JV.size_kid (k := 6) (n := n) (t := t) (ns := ns) hvi; have := hN.out; omega)
     have hstep := box (hfull.out.trans (by rw [jFullL_drop hvi]))
     replace hvi := box hvi
     replace hvri := box hvri
     have hrk2 := hrk.out.below hF.below
     have hrn2 := hrn.out.below hF.below
     by_cases hbig : 65536 < O.length
     ·have d1 : decide ((65536 : Int) < (O.length : Int)) = true := decide_eq_true (by omega)
      replace hbig := box hbig
      clear hrn2
      go_wp2_with (first | (with_reducible refine lsx (wp_indexAddr T_vals hrk2 (by with_unfolding_all exact ⟨_, _, _, _, rfl, rfl, rfl⟩) (by omega) (by omega) ?_)) | (with_reducible refine lsx (wp_loadA hrk2 uq76 rfl (by with_unfolding_all exact ⟨_, rfl, rfl⟩) (ds := ci) (by rw [hcil.out]; kernel_rfl) (by rw [hcil.out]; with_unfolding_all exact hci.out) ?_)) | ((with_reducible refine lsx (wp_falloc hF (cs := vl0) (z := .agg (List.toArray (vl0))) rfl (by kernel_rfl) (by with_unfolding_all rfl) ?_)); intro w6 g6 hF6 hz6) | ((with_reducible refine lsx (wp_fstA0 hF6 (by with_unfolding_all exact ⟨_, _, rfl, rfl, rfl⟩) (by rw [hcil.out]; kernel_rfl) hcio.out (by rw [hcil.out, vlL_len]; decide) (spl_all (by rw [hcil.out, vlL_len])) ?_)); intro w7 hF7 hz7))
      go_ret
      exact ⟨_, _, rfl, box ⟨by simp only [List.length_append]; omega, .inr hbig.out⟩, hF7.tail.drop1⟩
     ·have hOP : O = P := hO.out.2.resolve_right hbig
      subst hOP
      have d1 : decide ((65536 : Int) < (O.length : Int)) = false := decide_eq_false (by omega)
      replace hbig := box hbig
      clear hO hfull
      by_cases h0 : 0 < i
      ·have hz : decide (0 < i) = true := decide_eq_true h0
       rw [hz] at hstep
       clear hz
       obtain ⟨s, hs⟩ : ∃ s, ns[i]? = some s := ⟨ns[i]'(by rw [hnn.out]; omega), by simp⟩
       have hss : Box ((ns.map strv)[i]? = some (.string ⟨s.toArray⟩)) := box (by rw [List.getElem?_map, hs]; rfl)
       have hhd : (ns.drop i).headD [] = s := by rw [List.drop_eq_getElem_cons (List.getElem?_eq_some_iff.1 hs).1, (List.getElem?_eq_some_iff.1 hs).2]; rfl
       rw [hhd] at hstep
       clear hhd hs
       have hqg := jQuote_ge s
       replace hstep : Box (out ++ FU = (O ++ [44] ++ (jQuote s ++ [58])) ++ jFull vi ++ jFullL true true (ns.drop (i + 1)) (ks.drop (i + 1)) ++ [125]) := box (hstep.out.trans (by simp))
       have hrl : (O ++ [44] ++ (jQuote s ++ [58])).length + (jFull vi).length + 1 ≤ out.length + FU.length := by have := congrArg List.length hstep.out; simp only [List.length_append, List.length_cons, List.length_nil] at this ⊢; omega
       have hbo : out.length ≤ (O ++ [44] ++ (jQuote s ++ [58])).length := by first | omega | (simp only [List.length_append]; omega)
       have hrl3 : ((O ++ [44]) ++ jQuote s).length + 1 ≤ 140737488355328 := by simp only [List.length_append, List.length_cons, List.length_nil] at hrl ⊢; omega
       have hrl2 : O.length + s.length + 4 ≤ out.length + FU.length := by simp only [List.length_append, List.length_cons, List.length_nil] at hrl; omega
       go_wp2_with (first | (with_reducible refine lsx (wp_indexAddr T_vals hrk2 (by with_unfolding_all exact ⟨_, _, _, _, rfl, rfl, rfl⟩) (by omega) (by omega) ?_)) | (with_reducible refine lsx (wp_loadA hrk2 uq76 rfl (by with_unfolding_all exact ⟨_, rfl, rfl⟩) (ds := ci) (by rw [hcil.out]; kernel_rfl) (by rw [hcil.out]; with_unfolding_all exact hci.out) ?_)) | ((with_reducible refine lsx (wp_falloc hF (cs := vl0) (z := .agg (List.toArray (vl0))) rfl (by kernel_rfl) (by with_unfolding_all rfl) ?_)); intro w6 g6 hF6 hz6) | ((with_reducible refine lsx (wp_fstA0 hF6 (by with_unfolding_all exact ⟨_, _, rfl, rfl, rfl⟩) (by rw [hcil.out]; kernel_rfl) hcio.out (by rw [hcil.out, vlL_len]; decide) (spl_all (by rw [hcil.out, vlL_len])) ?_)); intro w7 hF7 hz7) | ((with_reducible refine lsx (wp_fbsl T_u8 hF7 (vs := [bv 44]) (by with_unfolding_all rfl) (by with_unfolding_all rfl) (by with_unfolding_all rfl) (by decide) (by simp [bv, Value.cells]) ?_)); intro w8 g8 hF8 hz8; have hr8 : Rd w8 (· < w8.heap.size) (some ⟨g8, 0, none⟩) 1 1 ([44].map bv) := hF8.rdOwn0; replace hF8 : Fr _ _ w8 (Ent.bytes _ 5 (.slice (some ⟨g8, 0, none⟩) 1 1) [44] :: _) := hF8) | ((with_reducible refine lsx (wp_fapp2 T_u8 hF8 (Nat.le_refl _) hr8 (by with_unfolding_all exact ⟨_, _, rfl, rfl, rfl⟩) (by omega) ?_)); intro v9 w9 hF9 hz9) | (with_reducible refine lsx (wp_fld3 hF9 uq3 rfl (by with_unfolding_all exact ⟨_, rfl, rfl⟩) rfl ?_)) | (with_reducible refine lsx (wp_fld3 hF9 uq48 rfl (by with_unfolding_all exact ⟨_, rfl, rfl⟩) rfl ?_)) | (with_reducible refine lsx (wp_indexAddr T_strs (hrn.out.below hF9.below) (by with_unfolding_all exact ⟨_, _, _, _, rfl, rfl, rfl⟩) (by omega) (by omega) ?_)) | (with_reducible refine lsx (wp_load1C (hrn.out.below hF9.below) hss uq9 rfl (by with_unfolding_all exact ⟨_, rfl, rfl⟩) (by first | (simp; done) | (simp; omega) | omega) ?_)))
       have hF10 := hF9.tail.perm (List.Perm.swap _ _ _)
       obtain ⟨A10, c10, hv10, hc10, hr10⟩ := (hF10.own (i := 0) rfl).arg
       subst hv10
       have hq := quoted_any [] w0 _ _ _ (O ++ [44]) _ ⟨s.toArray⟩ (by rw [str_mk_size]; first | omega | (simp only [List.length_append, List.length_cons, List.length_nil]; omega)) hF10
       refine hq.mono ?_
       rintro e w11 ⟨v11, rfl, hF11⟩
       clear hq
       obtain ⟨Y, hY⟩ : ∃ Y, Y = (O ++ [44]) ++ jQuote (⟨s.toArray⟩ : ByteArray).data.toList := ⟨_, rfl⟩
       rw [← hY] at hF11
       replace hrl3 : Y.length + 1 ≤ 140737488355328 := by rw [hY]; exact hrl3
       replace hY := box hY
       clear hF10
       obtain ⟨A11, c11, rfl, hc11, hr11⟩ := (hF11.own (i := 0) rfl).arg
       go_wp2_with (first | ((with_reducible refine lsx (wp_fbsl T_u8 hF11 (vs := [bv 58]) (by with_unfolding_all rfl) (by with_unfolding_all rfl) (by with_unfolding_all rfl) (by decide) (by simp [bv, Value.cells]) ?_)); intro w12 g12 hF12 hz12; have hr12 : Rd w12 (· < w12.heap.size) (some ⟨g12, 0, none⟩) 1 1 ([58].map bv) := hF12.rdOwn0; replace hF12 : Fr _ _ w12 (Ent.bytes _ 5 (.slice (some ⟨g12, 0, none⟩) 1 1) [58] :: _) := hF12) | ((with_reducible refine lsx (wp_fapp1 T_u8 hF12 (Nat.le_refl _) hr12 (by with_unfolding_all exact ⟨_, _, rfl, rfl, rfl⟩) (by omega) ?_)); intro v13 w13 hF13 hz13) | (with_reducible refine lsx (wp_fldA2 hF13 uq76 rfl (by with_unfolding_all exact ⟨_, rfl, rfl⟩) (ds := ci) (by rw [hcil.out]; kernel_rfl) (take_all _) ?_)))
       have hF14 := hF13.tail
       rw [hY.out, List.append_assoc] at hF14
       obtain ⟨A14, c14, rfl, hc14, hr14⟩ := (hF14.own (i := 0) rfl).arg
       have hwr := ih vi ci w0 _ _ _ (O ++ [44] ++ (jQuote s ++ [58])) _ hsz.out hvri.out hsi.out hoki.out hL ((hrest.cons (by decide)).cons (by decide)) (by omega) hF14
       refine hwr.mono ?_
       rintro e w15 ⟨v15, l15, rfl, hl15, hF15⟩
       clear hwr
       go_wp2_with fail
       go_roundg (nk - (i + 1))
       case rel => exact ⟨i + 1, (O ++ [44] ++ (jQuote s ++ [58])) ++ jFull vi, l15, by omega, box rfl, by go_num, box (by rw [hstep.out, decide_eq_true (Nat.succ_pos _)]), by rw [List.length_append]; omega, hl15, hF15.drop1⟩
       case measure => have := hkf.out; omega
      ·obtain rfl : i = 0 := by omega
       obtain ⟨s, hs⟩ : ∃ s, ns[0]? = some s := ⟨ns[0]'(by rw [hnn.out]; omega), by simp⟩
       have hss : Box ((ns.map strv)[0]? = some (.string ⟨s.toArray⟩)) := box (by rw [List.getElem?_map, hs]; rfl)
       have hhd : (ns.drop 0).headD [] = s := by rw [List.drop_eq_getElem_cons (List.getElem?_eq_some_iff.1 hs).1, (List.getElem?_eq_some_iff.1 hs).2]; rfl
       rw [hhd] at hstep
       clear hhd hs
       have hqg := jQuote_ge s
       replace hstep : Box (out ++ FU = (O ++ (jQuote s ++ [58])) ++ jFull vi ++ jFullL true true (ns.drop (0 + 1)) (ks.drop (0 + 1)) ++ [125]) := box (hstep.out.trans (by simp))
       have hrl : (O ++ (jQuote s ++ [58])).length + (jFull vi).length + 1 ≤ out.length + FU.length := by have := congrArg List.length hstep.out; simp only [List.length_append, List.length_cons, List.length_nil] at this ⊢; omega
       have hbo : out.length ≤ (O ++ (jQuote s ++ [58])).length := by first | omega | (simp only [List.length_append]; omega)
       have hrl3 : ((O) ++ jQuote s).length + 1 ≤ 140737488355328 := by simp only [List.length_append, List.length_cons, List.length_nil] at hrl ⊢; omega
       have hrl2 : O.length + s.length + 4 ≤ out.length + FU.length := by simp only [List.length_append, List.length_cons, List.length_nil] at hrl; omega
       go_wp2_with (first | (with_reducible refine lsx (wp_indexAddr T_vals hrk2 (by with_unfolding_all exact ⟨_, _, _, _, rfl, rfl, rfl⟩) (by omega) (by omega) ?_)) | (with_reducible refine lsx (wp_loadA hrk2 uq76 rfl (by with_unfolding_all exact ⟨_, rfl, rfl⟩) (ds := ci) (by rw [hcil.out]; kernel_rfl) (by rw [hcil.out]; with_unfolding_all exact hci.out) ?_)) | ((with_reducible refine lsx (wp_falloc hF (cs := vl0) (z := .agg (List.toArray (vl0))) rfl (by kernel_rfl) (by with_unfolding_all rfl) ?_)); intro w6 g6 hF6 hz6) | ((with_reducible refine lsx (wp_fstA0 hF6 (by with_unfolding_all exact ⟨_, _, rfl, rfl, rfl⟩) (by rw [hcil.out]; kernel_rfl) hcio.out (by rw [hcil.out, vlL_len]; decide) (spl_all (by rw [hcil.out, vlL_len])) ?_)); intro w7 hF7 hz7) | (with_reducible refine lsx (wp_fld2 hF7 uq3 rfl (by with_unfolding_all exact ⟨_, rfl, rfl⟩) rfl ?_)) | (with_reducible refine lsx (wp_fld2 hF7 uq48 rfl (by with_unfolding_all exact ⟨_, rfl, rfl⟩) rfl ?_)) | (with_reducible refine lsx (wp_indexAddr T_strs (hrn.out.below hF7.below) (by with_unfolding_all exact ⟨_, _, _, _, rfl, rfl, rfl⟩) (by omega) (by omega) ?_)) | (with_reducible refine lsx (wp_load1C (hrn.out.below hF7.below) hss uq9 rfl (by with_unfolding_all exact ⟨_, rfl, rfl⟩) (by first | (simp; done) | (simp; omega) | omega) ?_)))
       have hF10 := hF7.perm (List.Perm.swap _ _ _)
       have hq := quoted_any [] w0 _ _ _ (O) _ ⟨s.toArray⟩ (by rw [str_mk_size]; first | omega | (simp only [List.length_append, List.length_cons, List.length_nil]; omega)) hF10
       refine hq.mono ?_
       rintro e w11 ⟨v11, rfl, hF11⟩
       clear hq
       obtain ⟨Y, hY⟩ : ∃ Y, Y = (O) ++ jQuote (⟨s.toArray⟩ : ByteArray).data.toList := ⟨_, rfl⟩
       rw [← hY] at hF11
       replace hrl3 : Y.length + 1 ≤ 140737488355328 := by rw [hY]; exact hrl3
       replace hY := box hY
       clear hF10
       obtain ⟨A11, c11, rfl, hc11, hr11⟩ := (hF11.own (i := 0) rfl).arg
       go_wp2_with (first | ((with_reducible refine lsx (wp_fbsl T_u8 hF11 (vs := [bv 58]) (by with_unfolding_all rfl) (by with_unfolding_all rfl) (by with_unfolding_all rfl) (by decide) (by simp [bv, Value.cells]) ?_)); intro w12 g12 hF12 hz12; have hr12 : Rd w12 (· < w12.heap.size) (some ⟨g12, 0, none⟩) 1 1 ([58].map bv) := hF12.rdOwn0; replace hF12 : Fr _ _ w12 (Ent.bytes _ 5 (.slice (some ⟨g12, 0, none⟩) 1 1) [58] :: _) := hF12) | ((with_reducible refine lsx (wp_fapp1 T_u8 hF12 (Nat.le_refl _) hr12 (by with_unfolding_all exact ⟨_, _, rfl, rfl, rfl⟩) (by omega) ?_)); intro v13 w13 hF13 hz13) | (with_reducible refine lsx (wp_fldA2 hF13 uq76 rfl (by with_unfolding_all exact ⟨_, rfl, rfl⟩) (ds := ci) (by rw [hcil.out]; kernel_rfl) (take_all _) ?_)))
       have hF14 := hF13.tail
       rw [hY.out, List.append_assoc] at hF14
       obtain ⟨A14, c14, rfl, hc14, hr14⟩ := (hF14.own (i := 0) rfl).arg
       have hwr := ih vi ci w0 _ _ _ (O ++ (jQuote s ++ [58])) _ hsz.out hvri.out hsi.out hoki.out hL ((hrest.cons (by decide)).cons (by decide)) (by omega) hF14
       refine hwr.mono ?_
       rintro e w15 ⟨v15, l15, rfl, hl15, hF15⟩
       clear hwr
       go_wp2_with fail
       go_roundg (nk - (0 + 1))
       case rel => exact ⟨0 + 1, (O ++ (jQuote s ++ [58])) ++ jFull vi, l15, by omega, box rfl, by go_num, box (by rw [hstep.out, decide_eq_true (Nat.succ_pos _)]), by rw [List.length_append]; omega, hl15, hF15.drop1⟩
       case measure => have := hkf.out; omega
    ·have hin : nk = i := by omega
     subst hin
     have hend : Box (out ++ FU = P ++ [125]) := box (by
      rw [hfull.out, List.drop_of_length_le (l := ks) (by rw [hnk.out]; exact Nat.le_refl _), jFullL, List.append_nil])
     clear hfull hkf
     go_wp2_with (first | ((with_reducible refine lsx (wp_fbsl T_u8 hF (vs := [bv 125]) (by with_unfolding_all rfl) (by with_unfolding_all rfl) (by with_unfolding_all rfl) (by decide) (by simp [bv, Value.cells]) ?_)); intro w5 g5 hF5 hz5; have hr5 : Rd w5 (· < w5.heap.size) (some ⟨g5, 0, none⟩) 1 1 ([125].map bv) := hF5.rdOwn0; replace hF5 : Fr _ _ w5 (Ent.bytes _ 5 (.slice (some ⟨g5, 0, none⟩) 1 1) [125] :: _) := hF5) | ((with_reducible refine lsx (wp_fapp1 T_u8 hF5 (Nat.le_refl _) hr5 (by with_unfolding_all exact ⟨_, _, rfl, rfl, rfl⟩) (by omega) ?_)); intro v6 w6 hF6 hz6))
     go_ret
     refine ⟨_, _, rfl, box ⟨?_, ?_⟩, hF6.tail.drop1⟩
     ·rw [hend.out]; simp only [List.length_append, List.length_cons, List.length_nil]; omega
     ·rcases hO.out.2 with h | h
      ·left; rw [hend.out, h]
      ·right; simp only [List.length_append, List.length_cons, List.length_nil]; omega
end Go.Proofs.YtlhicfpmlncomaaGreatDoor
