/-
 Layer 6: the walk of the program's right: lists and objects.
-/
import Derived.Test.YtlhicfpmlncomaaGreatDoorK12
import Derived.Test.YtlhicfpmlncomaaGreatDoorK02
import Derived.Test.YtlhicfpmlncomaaGreatDoorK13
import Derived.Test.YtlhicfpmlncomaaGreatDoorK00
set_option linter.unusedSimpArgs false
set_option linter.unusedVariables false
namespace Go.Proofs.YtlhicfpmlncomaaGreatDoor
open Go.RowKit
mutual
def JTx : JV → Prop
 | .mk _ _ t ns ks => t.length ≤ 140737488355328 ∧ (∀ s ∈ ns, s.length ≤ 140737488355328) ∧ JTxL ks
def JTxL : List JV → Prop
 | [] => True
 | v :: vs => JTx v ∧ JTxL vs
end
theorem JTxL.at : ∀ {ks : List JV} {i : Nat} {v : JV}, JTxL ks → ks[i]? = some v → JTx v
 | [], _, _, _, hv => by cases hv
 | k :: ks, i, v, h, hv => by
  rw [JTxL] at h
  cases i with
  | zero => injection hv with hv; subst hv; exact h.1
  | succ i => exact JTxL.at h.2 (by simpa using hv)
theorem jRightL_drop {f : JV → Nat → Option Nat} {obj : Bool} {seen ns : List (List UInt8)} {ks : List JV} {i m : Nat} {v : JV} (hv : ks[i]? = some v) :
  jRightL f obj seen ns (ks.drop i) m = if obj = true ∧ (Lib.validD (ns.headD []) = false ∨ ns.headD [] ∈ seen) then none else
   match f v m with
   | none => none
   | some m' => jRightL f obj (seen ++ [ns.headD []]) ns.tail (ks.drop (i + 1)) m' := by
 rw [List.drop_eq_getElem_cons (List.getElem?_eq_some_iff.1 hv).1, (List.getElem?_eq_some_iff.1 hv).2, jRightL]
 rfl
theorem right_none {w : World} {gi : Nat} {r : Option Nat} {e : Ending} {w' : World} (h : RightPost w gi r e w') (hr : r = none) : ∃ m' : Nat, e = .returned (.bool false) ∧ Fr [gi] w w' [.blk gi 3 [.int .i64 (m' : Int)]] := by
 obtain ⟨m', h1, _, h3⟩ := h
 subst hr
 exact ⟨m', h1, h3⟩
theorem right_some {w : World} {gi x : Nat} {r : Option Nat} {e : Ending} {w' : World} (h : RightPost w gi r e w') (hr : r = some x) : e = .returned (.bool true) ∧ Fr [gi] w w' [.blk gi 3 [.int .i64 (x : Int)]] := by
 obtain ⟨m', h1, h2, h3⟩ := h
 subst hr
 rw [h2 x rfl] at h3
 exact ⟨h1, h3⟩
theorem Rd.onG {w0 w : World} {gi B : Nat} {es : List Ent} {A : Option Addr} {size n : Nat} {xs : List Value} (hr : Rd w0 (· < B) A size n xs) (hF : Fr [gi] w0 w es) (hg : B ≤ gi) (hB : B ≤ w0.heap.size) : Rd w (· < B) A size n xs := hr.below (hF.belowG hg hB)
theorem VRd.onG {w w' : World} {B : Nat} {v : JV} {cs : List Value} (h : VRd w (· < B) v cs) (hb : Below B w w') : VRd w' (· < B) v cs := VRd.keep (fun _ hk => hk) (fun k hk => hb.block k hk) v h
theorem take_all5 {ci : List Value} (h : ci.length = 5) : (ci.drop 0).take 5 = ci := by rw [← h]; exact take_all ci
theorem rd_pre {w : World} {S : Nat → Prop} {A : Option Addr} {n i : Nat} {ns : List (List UInt8)} (hr : Rd w S A 1 n (ns.map strv)) (hi : i ≤ n) : Rd w S A 1 i ((ns.take i).map strv) :=
 ⟨by have := hr.len; simp at this ⊢; omega, fun h => hr.some_ (by omega), fun h => hr.inS (by omega), fun j u hu => hr.cell j u (by
  rw [List.map_take, List.getElem?_take] at hu
  split at hu
  ·exact hu
  ·cases hu)⟩
theorem yi_pre {P : Program} {o : Oper} {a : Act} {S : World → Prop} {ops : Array Oper} (hw : Region.wanted o (yielded ops a.tmps) = true) {t e : TypeId} {size bytes : Nat} {z : Value} (T : SlT P t e size bytes z) {A : Option Addr} {n c h : Nat}
  (ho : ∃ x y, ∃ k : IntKind, o.op = .slice t x none (some y) none ∧ a.eval x = .slice A n c ∧ a.eval y = .int k (h : Int)) (h2 : h ≤ n) (h4 : n ≤ c) : YieldsIf P ops S o (.slice A h c) a := by
 refine yi_run hw fun w _ => ?_
 obtain ⟨x, y, k, ho, hx, hy⟩ := ho
 obtain ⟨i', hi', _, hsz, _⟩ := info_parts T.info
 have hA : A.map (·.add 0) = A := by cases A <;> simp [Addr.add]
 have h5 : h ≤ c := by omega
 unfold execOp
 have hrun : (Instr.sliceBounds true n c none (some (.int k (h : Int))) none).run P w = .ok (0, h, c) w := by
  simp [Instr.sliceBounds, run_bound, h5]
 simp [ho, hx, hy, Instr.sliceAt, Instr.slice, run_underlying T.und, hrun, sizeOf, typeInfo, hi', hsz, hA]
set_option maxRecDepth 20000 in
set_option maxHeartbeats 25600000 in
theorem right_any (d : Nat) : ∀ (deep : Nat) (v : JV) (cs : List Value) (w : World) (gi m B : Nat), deep + d = 16 → m ≤ 4096 → LibsAt B w → w.heap[gi]? = some (.cells [.int .i64 (m : Int)].toArray 3 (0, 0)) → B ≤ gi → B ≤ w.heap.size → VRd w (· < B) v cs → JSm v → JTx v →
  Calls Tryz.prog 83 #[.agg cs.toArray, .int .i64 (deep : Int), .pointer (some ⟨gi, 0, none⟩)] w (RightPost w gi (jRight d v m)) := by
 induction d with
 | zero =>
  intro deep v cs w gi m B hd hm hL hh hg hB hv hsm htx
  obtain ⟨k, n, t, ns, ks⟩ := v
  rw [VRd] at hv
  obtain ⟨An, nn, cn, Ak, nk, ck, xk, hcn, hck, rfl, hrn, hrk, hvk⟩ := hv
  rw [JSm] at hsm
  obtain ⟨hs1, hs2, hs3⟩ := hsm
  rw [JTx] at htx
  obtain ⟨ht1, ht2, ht3⟩ := htx
  have hnn : ns.length = nn := by have := hrn.len; simpa using this
  have hnk : ks.length = nk := by have := hrk.len; rw [hvk.len] at this; omega
  rw [hnn] at hs1
  rw [hnk] at hs2
  replace hnn := box hnn
  replace hnk := box hnk
  replace hvk := box hvk
  replace hs3 := box hs3
  replace ht2 := box ht2
  replace ht3 := box ht3
  replace hrn := box hrn
  replace hrk := box hrk
  refine right_of 0 deep w gi m B k n t ns ks An nn cn Ak nk ck hm hL hh hg hB (by omega) (fun hnb hk5 => ?_)
  have hF0 := Fr.one hh
  have hvs := box (fun w' {es : List Ent} (hF : Fr [gi] w w' es) => valid_ok (hL.on (hF.belowG hg hB)) t (by omega))
  clear hh
  replace ht1 := box ht1
  rcases hk5 with hk5 | hk5
  ·subst hk5
   have hjr : Box (jRight 0 (.mk 5 n t ns ks) m = none) := box (by rw [jRight, if_neg hnb, if_neg (by decide)])
   have c1 : ¬ 4096 < m + 1 := fun h => hnb (.inl h)
   have hvt : Lib.validD t = true := by cases hv : Lib.validD t; exact absurd (.inr (.inr (.inr (.inl hv)))) hnb; rfl
   have c4 : ¬ 9007199254740991 < n := fun h => hnb (.inr (.inr (.inr (.inr (.inl h)))))
   have c5 : ¬ n < -9007199254740991 := fun h => hnb (.inr (.inr (.inr (.inr (.inr h)))))
   have d1 : decide ((4096 : Int) < (m : Int) + 1) = false := decide_eq_false (by omega)
   have d4 : decide ((9007199254740991 : Int) < n) = false := decide_eq_false c4
   have d5 : decide (n < (-9007199254740991 : Int)) = false := decide_eq_false c5
   rw [hvt] at hvs
   have hm1 : m + 1 ≤ 4096 := by omega
   replace c1 := box c1
   replace c4 := box c4
   replace c5 := box c5
   replace hvt := box hvt
   replace hnb := box hnb
   have hd16 : ((deep : Int) == 16) = true := by rw [beq_iff_eq]; omega
   go_enter Tryz.func83, Tryz.ntmps83
   go_wp2_with (first | ((with_reducible refine lsx (wp_fbox hF0 (cs := (vlL 5 n ⟨t.toArray⟩ (.slice An nn cn) (.slice Ak nk ck))) rfl (by with_unfolding_all rfl) (by with_unfolding_all rfl) ?_)); intro w1 g1 hF1 hz1) | (with_reducible refine lsx (wp_fld1 hF1 uq3 rfl (by with_unfolding_all exact ⟨_, rfl, rfl⟩) rfl ?_)) | ((with_reducible refine lsx (wp_fst1 hF1 (by with_unfolding_all exact ⟨_, _, rfl, rfl, rfl⟩) (by kernel_rfl) rfl rfl (by first | decide | (simp; done) | (simp; omega)) (spl1' _ (.int .i64 ((m : Int) + 1))) ?_)); intro w2 hF2 hz2) | (with_reducible refine lsx (wp_fld1 hF2 uq3 rfl (by with_unfolding_all exact ⟨_, rfl, rfl⟩) rfl ?_)) | (with_reducible refine lsx (wp_fld0 hF2 uq3 rfl (by with_unfolding_all exact ⟨_, rfl, rfl⟩) rfl ?_)) | (with_reducible refine lsx (wp_fld0 hF2 uq9 rfl (by with_unfolding_all exact ⟨_, rfl, rfl⟩) rfl ?_)))
   refine (hvs.out _ hF2).mono ?_
   rintro e w3 ⟨rfl, hb3⟩
   have hF3 := hF2.call hb3
   go_wp2_with (first | (with_reducible refine lsx (wp_fld0 hF3 uq3 rfl (by with_unfolding_all exact ⟨_, rfl, rfl⟩) rfl ?_)))
   go_ret
   exact ⟨m + 1, by rw [hjr.out]; rfl, (fun x h => by rw [hjr.out] at h; cases h), hF3.tail⟩
  ·subst hk5
   have hjr : Box (jRight 0 (.mk 6 n t ns ks) m = none) := box (by rw [jRight, if_neg hnb, if_neg (by decide)])
   have c1 : ¬ 4096 < m + 1 := fun h => hnb (.inl h)
   have hvt : Lib.validD t = true := by cases hv : Lib.validD t; exact absurd (.inr (.inr (.inr (.inl hv)))) hnb; rfl
   have c4 : ¬ 9007199254740991 < n := fun h => hnb (.inr (.inr (.inr (.inr (.inl h)))))
   have c5 : ¬ n < -9007199254740991 := fun h => hnb (.inr (.inr (.inr (.inr (.inr h)))))
   have d1 : decide ((4096 : Int) < (m : Int) + 1) = false := decide_eq_false (by omega)
   have d4 : decide ((9007199254740991 : Int) < n) = false := decide_eq_false c4
   have d5 : decide (n < (-9007199254740991 : Int)) = false := decide_eq_false c5
   rw [hvt] at hvs
   have hm1 : m + 1 ≤ 4096 := by omega
   replace c1 := box c1
   replace c4 := box c4
   replace c5 := box c5
   replace hvt := box hvt
   replace hnb := box hnb
   have hd16 : ((deep : Int) == 16) = true := by rw [beq_iff_eq]; omega
   go_enter Tryz.func83, Tryz.ntmps83
   go_wp2_with (first | ((with_reducible refine lsx (wp_fbox hF0 (cs := (vlL 6 n ⟨t.toArray⟩ (.slice An nn cn) (.slice Ak nk ck))) rfl (by with_unfolding_all rfl) (by with_unfolding_all rfl) ?_)); intro w1 g1 hF1 hz1) | (with_reducible refine lsx (wp_fld1 hF1 uq3 rfl (by with_unfolding_all exact ⟨_, rfl, rfl⟩) rfl ?_)) | ((with_reducible refine lsx (wp_fst1 hF1 (by with_unfolding_all exact ⟨_, _, rfl, rfl, rfl⟩) (by kernel_rfl) rfl rfl (by first | decide | (simp; done) | (simp; omega)) (spl1' _ (.int .i64 ((m : Int) + 1))) ?_)); intro w2 hF2 hz2) | (with_reducible refine lsx (wp_fld1 hF2 uq3 rfl (by with_unfolding_all exact ⟨_, rfl, rfl⟩) rfl ?_)) | (with_reducible refine lsx (wp_fld0 hF2 uq3 rfl (by with_unfolding_all exact ⟨_, rfl, rfl⟩) rfl ?_)) | (with_reducible refine lsx (wp_fld0 hF2 uq9 rfl (by with_unfolding_all exact ⟨_, rfl, rfl⟩) rfl ?_)))
   refine (hvs.out _ hF2).mono ?_
   rintro e w3 ⟨rfl, hb3⟩
   have hF3 := hF2.call hb3
   go_wp2_with (first | (with_reducible refine lsx (wp_fld0 hF3 uq3 rfl (by with_unfolding_all exact ⟨_, rfl, rfl⟩) rfl ?_)))
   go_ret
   exact ⟨m + 1, by rw [hjr.out]; rfl, (fun x h => by rw [hjr.out] at h; cases h), hF3.tail⟩
 | succ d ih =>
  intro deep v cs w gi m B hd hm hL hh hg hB hv hsm htx
  obtain ⟨k, n, t, ns, ks⟩ := v
  rw [VRd] at hv
  obtain ⟨An, nn, cn, Ak, nk, ck, xk, hcn, hck, rfl, hrn, hrk, hvk⟩ := hv
  rw [JSm] at hsm
  obtain ⟨hs1, hs2, hs3⟩ := hsm
  rw [JTx] at htx
  obtain ⟨ht1, ht2, ht3⟩ := htx
  have hnn : ns.length = nn := by have := hrn.len; simpa using this
  have hnk : ks.length = nk := by have := hrk.len; rw [hvk.len] at this; omega
  rw [hnn] at hs1
  rw [hnk] at hs2
  replace hnn := box hnn
  replace hnk := box hnk
  replace hvk := box hvk
  replace hs3 := box hs3
  replace ht2 := box ht2
  replace ht3 := box ht3
  replace hrn := box hrn
  replace hrk := box hrk
  refine right_of (d + 1) deep w gi m B k n t ns ks An nn cn Ak nk ck hm hL hh hg hB (by omega) (fun hnb hk5 => ?_)
  have hF0 := Fr.one hh
  have hvs := box (fun w' {es : List Ent} (hF : Fr [gi] w w' es) => valid_ok (hL.on (hF.belowG hg hB)) t (by omega))
  clear hh
  replace ht1 := box ht1
  rcases hk5 with hk5 | hk5
  ·subst hk5
   have hjn : jRight (d + 1) (.mk 5 n t ns ks) m = jRightL (jRight d) false [] ns ks (m + 1) := by rw [jRight, if_neg hnb, if_neg (by decide), if_neg (by exact fun h => absurd h.1 (by decide))]; rfl
   have c1 : ¬ 4096 < m + 1 := fun h => hnb (.inl h)
   have hvt : Lib.validD t = true := by cases hv : Lib.validD t; exact absurd (.inr (.inr (.inr (.inl hv)))) hnb; rfl
   have c4 : ¬ 9007199254740991 < n := fun h => hnb (.inr (.inr (.inr (.inr (.inl h)))))
   have c5 : ¬ n < -9007199254740991 := fun h => hnb (.inr (.inr (.inr (.inr (.inr h)))))
   have d1 : decide ((4096 : Int) < (m : Int) + 1) = false := decide_eq_false (by omega)
   have d4 : decide ((9007199254740991 : Int) < n) = false := decide_eq_false c4
   have d5 : decide (n < (-9007199254740991 : Int)) = false := decide_eq_false c5
   rw [hvt] at hvs
   have hm1 : m + 1 ≤ 4096 := by omega
   replace c1 := box c1
   replace c4 := box c4
   replace c5 := box c5
   replace hvt := box hvt
   replace hnb := box hnb
   have hd16 : ((deep : Int) == 16) = false := by rw [beq_eq_false_iff_ne]; omega
   have hwr : IntKind.i64.wrap ((deep : Int) + 1) = (deep : Int) + 1 := wrap64_deep (by omega)
   go_enter Tryz.func83, Tryz.ntmps83
   go_wp2_with (first | ((with_reducible refine lsx (wp_fbox hF0 (cs := (vlL 5 n ⟨t.toArray⟩ (.slice An nn cn) (.slice Ak nk ck))) rfl (by with_unfolding_all rfl) (by with_unfolding_all rfl) ?_)); intro w1 g1 hF1 hz1) | (with_reducible refine lsx (wp_fld1 hF1 uq3 rfl (by with_unfolding_all exact ⟨_, rfl, rfl⟩) rfl ?_)) | ((with_reducible refine lsx (wp_fst1 hF1 (by with_unfolding_all exact ⟨_, _, rfl, rfl, rfl⟩) (by kernel_rfl) rfl rfl (by first | decide | (simp; done) | (simp; omega)) (spl1' _ (.int .i64 ((m : Int) + 1))) ?_)); intro w2 hF2 hz2) | (with_reducible refine lsx (wp_fld1 hF2 uq3 rfl (by with_unfolding_all exact ⟨_, rfl, rfl⟩) rfl ?_)) | (with_reducible refine lsx (wp_fld0 hF2 uq3 rfl (by with_unfolding_all exact ⟨_, rfl, rfl⟩) rfl ?_)) | (with_reducible refine lsx (wp_fld0 hF2 uq9 rfl (by with_unfolding_all exact ⟨_, rfl, rfl⟩) rfl ?_)))
   refine (hvs.out _ hF2).mono ?_
   rintro e w3 ⟨rfl, hb3⟩
   have hF3 := hF2.call hb3
   go_wp2_with (first | (with_reducible refine lsx (wp_fld0 hF3 uq3 rfl (by with_unfolding_all exact ⟨_, rfl, rfl⟩) rfl ?_)) | (with_reducible refine lsx (wp_fld0 hF3 uq48 rfl (by with_unfolding_all exact ⟨_, rfl, rfl⟩) rfl ?_)) | (with_reducible refine lsx (wp_fld0 hF3 uq74 rfl (by with_unfolding_all exact ⟨_, rfl, rfl⟩) rfl ?_)))
   have hF4 : Fr [gi] w w3 [.blk g1 76 (vlL 5 n ⟨t.toArray⟩ (.slice An nn cn) (.slice Ak nk ck)), .blk gi 3 [.int .i64 ((m + 1 : Nat) : Int)]] := hF3
   clear hF0 hF1 hF2 hF3
   go_loopg [66] nk (fun gk s wr => ∃ i mm : Nat, i ≤ nk ∧ mm ≤ 4096 ∧ Box (gk = nk - i) ∧ s = .int .i64 (i : Int) ∧ Box (∃ seen nsr, jRight (d + 1) (.mk 5 n t ns ks) m = jRightL (jRight d) false seen nsr (ks.drop i) mm) ∧ Fr [gi] w wr [.blk g1 76 (vlL 5 n ⟨t.toArray⟩ (.slice An nn cn) (.slice Ak nk ck)), .blk gi 3 [.int .i64 (mm : Int)]])
   case atStart => exact ⟨0, m + 1, by omega, hm1, box rfl, rfl, box ⟨[], ns, hjn⟩, hF4⟩
   case round =>
    clear hF4 hjn
    obtain ⟨i, mm, hi, hmm, hk, rfl, hJ, hF⟩ := hrel
    have hkf : Box (gk = nk - i) := hk
    clear hk
    by_cases hlt : i < nk
    ·obtain ⟨vi, hvi⟩ : ∃ vi, ks[i]? = some vi := ⟨ks[i]'(by rw [hnk.out]; exact hlt), by simp⟩
     obtain ⟨ci, hci, hvri⟩ := hvk.out.at hvi
     have hcil := box hvri.len
     have hcio := box (VRd.one hvri)
     replace hci := box hci
     have ihc := box (fun (g6 : Nat) w' {es : List Ent} {cs2 : List Value} (hF : Fr [gi] w w' (.blk g6 76 cs2 :: .blk g1 76 (vlL 5 n ⟨t.toArray⟩ (.slice An nn cn) (.slice Ak nk ck)) :: .blk gi 3 [.int .i64 (mm : Int)] :: es)) => ih (deep + 1) vi ci w' gi mm B (by omega) hmm (hL.on (hF.belowG hg hB)) (hF.blk (i := 2) rfl) hg (Nat.le_trans hB hF.size) (hvri.onG (hF.belowG hg hB)) (hs3.out.at hvi) (ht3.out.at hvi))
     obtain ⟨seen, nsr, hst⟩ := hJ.out
     rw [jRightL_drop hvi, if_neg (by simp)] at hst
     replace hvi := box hvi
     replace hvri := box hvri
     have hrk2 := hrk.out.onG hF hg hB
     clear hJ
     go_upto_region 11 with (first | (with_reducible refine lsx (wp_indexAddr T_vals hrk2 (by with_unfolding_all exact ⟨_, _, _, _, rfl, rfl, rfl⟩) (by omega) (by omega) ?_)) | (with_reducible refine lsx (wp_loadA hrk2 uq76 rfl (by with_unfolding_all exact ⟨_, rfl, rfl⟩) (ds := ci) (by rw [hcil.out]; kernel_rfl) (by rw [hcil.out]; with_unfolding_all exact hci.out) ?_)) | ((with_reducible refine lsx (wp_falloc hF (cs := vl0) (z := .agg (List.toArray (vl0))) rfl (by kernel_rfl) (by with_unfolding_all rfl) ?_)); intro w6 g6 hF6 hz6) | ((with_reducible refine lsx (wp_fstA0 hF6 (by with_unfolding_all exact ⟨_, _, rfl, rfl, rfl⟩) (by rw [hcil.out]; kernel_rfl) hcio.out (by rw [hcil.out, vlL_len]; decide) (spl_all (by rw [hcil.out, vlL_len])) ?_)); intro w7 hF7 hz7))
     (try simp only [zP, zQ, zS, zZ, zN])
     have hFd := hF7.drew
     clear hF hF6 hF7 hrk2
     cases hc : jRight d vi mm with
     | none =>
      rw [hc] at hst
      have hjr := box hst
      have ihc := box (fun w' {es : List Ent} {cs2 : List Value} (hF : Fr [gi] w w' (.blk g6 76 cs2 :: .blk g1 76 (vlL 5 n ⟨t.toArray⟩ (.slice An nn cn) (.slice Ak nk ck)) :: .blk gi 3 [.int .i64 (mm : Int)] :: es)) => (ihc.out g6 w' hF).mono (fun e w'' h => right_none h hc))
      clear hst
      refine wp_region_held (S := fun w' => w'.heap[g6]? = some (.cells (List.toArray ci) 76 (0, 0)) ∧ w'.heap[g1]? = some (.cells (List.toArray (vlL 5 n ⟨t.toArray⟩ (.slice An nn cn) (.slice Ak nk ck))) 76 (0, 0)) ∧ Rd w' (· < B) An 1 nn (ns.map strv)) (by kernel_rfl) ?_
      change wpAnyH _ _ _ _ _ _ _ _ (World.drew _)
      refine tkp 0 ⟨hFd.blk (i := 0) rfl, hFd.blk (i := 1) rfl, hrn.out.onG hFd hg hB⟩ ?_
      (try simp only [zP, zQ, zS, zZ, zN])
      refine tky 1 (y := yi_fld (by with_unfolding_all rfl) (fun _ h => h.2.1) uq3 rfl (by with_unfolding_all exact ⟨_, rfl, rfl⟩) rfl) (s := ⟨hFd.blk (i := 0) rfl, hFd.blk (i := 1) rfl, hrn.out.onG hFd hg hB⟩) (h := ?_)
      (try simp only [zP, zQ, zS, zZ, zN])
      refine tkp 2 ⟨hFd.blk (i := 0) rfl, hFd.blk (i := 1) rfl, hrn.out.onG hFd hg hB⟩ ?_
      (try simp only [zP, zQ, zS, zZ, zN])
      refine tkp 3 ⟨hFd.blk (i := 0) rfl, hFd.blk (i := 1) rfl, hrn.out.onG hFd hg hB⟩ ?_
      (try simp only [zP, zQ, zS, zZ, zN])
      refine tkn 4 ⟨hFd.blk (i := 0) rfl, hFd.blk (i := 1) rfl, hrn.out.onG hFd hg hB⟩ ?_
      (try simp only [zP, zQ, zS, zZ, zN])
      refine tkn 5 ⟨hFd.blk (i := 0) rfl, hFd.blk (i := 1) rfl, hrn.out.onG hFd hg hB⟩ ?_
      (try simp only [zP, zQ, zS, zZ, zN])
      refine tkn 6 ⟨hFd.blk (i := 0) rfl, hFd.blk (i := 1) rfl, hrn.out.onG hFd hg hB⟩ ?_
      (try simp only [zP, zQ, zS, zZ, zN])
      refine tkn 7 ⟨hFd.blk (i := 0) rfl, hFd.blk (i := 1) rfl, hrn.out.onG hFd hg hB⟩ ?_
      (try simp only [zP, zQ, zS, zZ, zN])
      refine tkn 8 ⟨hFd.blk (i := 0) rfl, hFd.blk (i := 1) rfl, hrn.out.onG hFd hg hB⟩ ?_
      (try simp only [zP, zQ, zS, zZ, zN])
      refine tkn 9 ⟨hFd.blk (i := 0) rfl, hFd.blk (i := 1) rfl, hrn.out.onG hFd hg hB⟩ ?_
      (try simp only [zP, zQ, zS, zZ, zN])
      refine tkn 10 ⟨hFd.blk (i := 0) rfl, hFd.blk (i := 1) rfl, hrn.out.onG hFd hg hB⟩ ?_
      (try simp only [zP, zQ, zS, zZ, zN])
      refine tkn 11 ⟨hFd.blk (i := 0) rfl, hFd.blk (i := 1) rfl, hrn.out.onG hFd hg hB⟩ ?_
      (try simp only [zP, zQ, zS, zZ, zN])
      refine tkn 12 ⟨hFd.blk (i := 0) rfl, hFd.blk (i := 1) rfl, hrn.out.onG hFd hg hB⟩ ?_
      (try simp only [zP, zQ, zS, zZ, zN])
      refine tkn 13 ⟨hFd.blk (i := 0) rfl, hFd.blk (i := 1) rfl, hrn.out.onG hFd hg hB⟩ ?_
      (try simp only [zP, zQ, zS, zZ, zN])
      refine tkn 14 ⟨hFd.blk (i := 0) rfl, hFd.blk (i := 1) rfl, hrn.out.onG hFd hg hB⟩ ?_
      (try simp only [zP, zQ, zS, zZ, zN])
      refine tkn 15 ⟨hFd.blk (i := 0) rfl, hFd.blk (i := 1) rfl, hrn.out.onG hFd hg hB⟩ ?_
      (try simp only [zP, zQ, zS, zZ, zN])
      refine tkn 16 ⟨hFd.blk (i := 0) rfl, hFd.blk (i := 1) rfl, hrn.out.onG hFd hg hB⟩ ?_
      (try simp only [zP, zQ, zS, zZ, zN])
      refine tkn 17 ⟨hFd.blk (i := 0) rfl, hFd.blk (i := 1) rfl, hrn.out.onG hFd hg hB⟩ ?_
      (try simp only [zP, zQ, zS, zZ, zN])
      refine tkn 18 ⟨hFd.blk (i := 0) rfl, hFd.blk (i := 1) rfl, hrn.out.onG hFd hg hB⟩ ?_
      (try simp only [zP, zQ, zS, zZ, zN])
      refine tkn 19 ⟨hFd.blk (i := 0) rfl, hFd.blk (i := 1) rfl, hrn.out.onG hFd hg hB⟩ ?_
      (try simp only [zP, zQ, zS, zZ, zN])
      refine tkn 20 ⟨hFd.blk (i := 0) rfl, hFd.blk (i := 1) rfl, hrn.out.onG hFd hg hB⟩ ?_
      (try simp only [zP, zQ, zS, zZ, zN])
      refine tkn 21 ⟨hFd.blk (i := 0) rfl, hFd.blk (i := 1) rfl, hrn.out.onG hFd hg hB⟩ ?_
      (try simp only [zP, zQ, zS, zZ, zN])
      refine tkn 22 ⟨hFd.blk (i := 0) rfl, hFd.blk (i := 1) rfl, hrn.out.onG hFd hg hB⟩ ?_
      (try simp only [zP, zQ, zS, zZ, zN])
      refine tkp 23 ⟨hFd.blk (i := 0) rfl, hFd.blk (i := 1) rfl, hrn.out.onG hFd hg hB⟩ ?_
      (try simp only [zP, zQ, zS, zZ, zN])
      refine tkp 24 ⟨hFd.blk (i := 0) rfl, hFd.blk (i := 1) rfl, hrn.out.onG hFd hg hB⟩ ?_
      (try simp only [zP, zQ, zS, zZ, zN])
      refine tky 25 (y := yi_fldA (by with_unfolding_all rfl) (fun _ h => h.1) uq76 rfl (by with_unfolding_all exact ⟨_, rfl, rfl⟩) (ds := ci) (by rw [hcil.out]; kernel_rfl) (by rw [hcil.out]; exact take_all5 hcil.out)) (s := ⟨hFd.blk (i := 0) rfl, hFd.blk (i := 1) rfl, hrn.out.onG hFd hg hB⟩) (h := ?_)
      (try simp only [zP, zQ, zS, zZ, zN])
      refine tkp 26 ⟨hFd.blk (i := 0) rfl, hFd.blk (i := 1) rfl, hrn.out.onG hFd hg hB⟩ ?_
      (try simp only [zP, zQ, zS, zZ, zN])
      refine tkp 27 ⟨hFd.blk (i := 0) rfl, hFd.blk (i := 1) rfl, hrn.out.onG hFd hg hB⟩ ?_
      (try simp only [zP, zQ, zS, zZ, zN])
      refine tkp 28 ⟨hFd.blk (i := 0) rfl, hFd.blk (i := 1) rfl, hrn.out.onG hFd hg hB⟩ ?_
      (try simp only [zP, zQ, zS, zZ, zN])
      refine rdy1 29 (fun K hK => ?_)
      refine stp (by with_unfolding_all rfl) (wp_call Tryz.func83 rfl (by with_unfolding_all rfl) (by with_unfolding_all rfl) (by with_unfolding_all rfl) (ihc.out _ hFd) ?_)
      rintro e w31 ⟨m31, rfl, hv31⟩
      refine ⟨_, rfl, ?_⟩
      have hF31 := hFd.putF (i := 2) rfl hv31
      simp only [zZ, zN] at hF31
      refine hK.out _ _ (⟨hF31.blk (i := 0) rfl, hF31.blk (i := 1) rfl, hrn.out.onG hF31 hg hB⟩) (fun _ => ?_)
      clear hK K
      (try simp only [zP, zQ, zS, zZ, zN])
      refine tkp 30 ⟨hF31.blk (i := 0) rfl, hF31.blk (i := 1) rfl, hrn.out.onG hF31 hg hB⟩ ?_
      (try simp only [zP, zQ, zS, zZ, zN])
      refine tkp 31 ⟨hF31.blk (i := 0) rfl, hF31.blk (i := 1) rfl, hrn.out.onG hF31 hg hB⟩ ?_
      (try simp only [zP, zQ, zS, zZ, zN])
      refine wpAnyH_done (by kernel_rfl) ?_ _
      go_wp2_with fail
      go_ret
      exact ⟨m31, by rw [hjr.out]; rfl, (fun x h => by rw [hjr.out] at h; cases h), hF31.tail.tail⟩
     | some x =>
      have hx4 := jRight_le vi mm x hmm hc
      rw [hc] at hst
      have hgo := box (⟨_, _, hst⟩ : ∃ seen nsr, jRight (d + 1) (.mk 5 n t ns ks) m = jRightL (jRight d) false seen nsr (ks.drop (i + 1)) x)
      have ihc := box (fun w' {es : List Ent} {cs2 : List Value} (hF : Fr [gi] w w' (.blk g6 76 cs2 :: .blk g1 76 (vlL 5 n ⟨t.toArray⟩ (.slice An nn cn) (.slice Ak nk ck)) :: .blk gi 3 [.int .i64 (mm : Int)] :: es)) => (ihc.out g6 w' hF).mono (fun e w'' h => right_some h hc))
      clear hst
      refine wp_region_held (S := fun w' => w'.heap[g6]? = some (.cells (List.toArray ci) 76 (0, 0)) ∧ w'.heap[g1]? = some (.cells (List.toArray (vlL 5 n ⟨t.toArray⟩ (.slice An nn cn) (.slice Ak nk ck))) 76 (0, 0)) ∧ Rd w' (· < B) An 1 nn (ns.map strv)) (by kernel_rfl) ?_
      change wpAnyH _ _ _ _ _ _ _ _ (World.drew _)
      refine tkp 0 ⟨hFd.blk (i := 0) rfl, hFd.blk (i := 1) rfl, hrn.out.onG hFd hg hB⟩ ?_
      (try simp only [zP, zQ, zS, zZ, zN])
      refine tky 1 (y := yi_fld (by with_unfolding_all rfl) (fun _ h => h.2.1) uq3 rfl (by with_unfolding_all exact ⟨_, rfl, rfl⟩) rfl) (s := ⟨hFd.blk (i := 0) rfl, hFd.blk (i := 1) rfl, hrn.out.onG hFd hg hB⟩) (h := ?_)
      (try simp only [zP, zQ, zS, zZ, zN])
      refine tkp 2 ⟨hFd.blk (i := 0) rfl, hFd.blk (i := 1) rfl, hrn.out.onG hFd hg hB⟩ ?_
      (try simp only [zP, zQ, zS, zZ, zN])
      refine tkp 3 ⟨hFd.blk (i := 0) rfl, hFd.blk (i := 1) rfl, hrn.out.onG hFd hg hB⟩ ?_
      (try simp only [zP, zQ, zS, zZ, zN])
      refine tkn 4 ⟨hFd.blk (i := 0) rfl, hFd.blk (i := 1) rfl, hrn.out.onG hFd hg hB⟩ ?_
      (try simp only [zP, zQ, zS, zZ, zN])
      refine tkn 5 ⟨hFd.blk (i := 0) rfl, hFd.blk (i := 1) rfl, hrn.out.onG hFd hg hB⟩ ?_
      (try simp only [zP, zQ, zS, zZ, zN])
      refine tkn 6 ⟨hFd.blk (i := 0) rfl, hFd.blk (i := 1) rfl, hrn.out.onG hFd hg hB⟩ ?_
      (try simp only [zP, zQ, zS, zZ, zN])
      refine tkn 7 ⟨hFd.blk (i := 0) rfl, hFd.blk (i := 1) rfl, hrn.out.onG hFd hg hB⟩ ?_
      (try simp only [zP, zQ, zS, zZ, zN])
      refine tkn 8 ⟨hFd.blk (i := 0) rfl, hFd.blk (i := 1) rfl, hrn.out.onG hFd hg hB⟩ ?_
      (try simp only [zP, zQ, zS, zZ, zN])
      refine tkn 9 ⟨hFd.blk (i := 0) rfl, hFd.blk (i := 1) rfl, hrn.out.onG hFd hg hB⟩ ?_
      (try simp only [zP, zQ, zS, zZ, zN])
      refine tkn 10 ⟨hFd.blk (i := 0) rfl, hFd.blk (i := 1) rfl, hrn.out.onG hFd hg hB⟩ ?_
      (try simp only [zP, zQ, zS, zZ, zN])
      refine tkn 11 ⟨hFd.blk (i := 0) rfl, hFd.blk (i := 1) rfl, hrn.out.onG hFd hg hB⟩ ?_
      (try simp only [zP, zQ, zS, zZ, zN])
      refine tkn 12 ⟨hFd.blk (i := 0) rfl, hFd.blk (i := 1) rfl, hrn.out.onG hFd hg hB⟩ ?_
      (try simp only [zP, zQ, zS, zZ, zN])
      refine tkn 13 ⟨hFd.blk (i := 0) rfl, hFd.blk (i := 1) rfl, hrn.out.onG hFd hg hB⟩ ?_
      (try simp only [zP, zQ, zS, zZ, zN])
      refine tkn 14 ⟨hFd.blk (i := 0) rfl, hFd.blk (i := 1) rfl, hrn.out.onG hFd hg hB⟩ ?_
      (try simp only [zP, zQ, zS, zZ, zN])
      refine tkn 15 ⟨hFd.blk (i := 0) rfl, hFd.blk (i := 1) rfl, hrn.out.onG hFd hg hB⟩ ?_
      (try simp only [zP, zQ, zS, zZ, zN])
      refine tkn 16 ⟨hFd.blk (i := 0) rfl, hFd.blk (i := 1) rfl, hrn.out.onG hFd hg hB⟩ ?_
      (try simp only [zP, zQ, zS, zZ, zN])
      refine tkn 17 ⟨hFd.blk (i := 0) rfl, hFd.blk (i := 1) rfl, hrn.out.onG hFd hg hB⟩ ?_
      (try simp only [zP, zQ, zS, zZ, zN])
      refine tkn 18 ⟨hFd.blk (i := 0) rfl, hFd.blk (i := 1) rfl, hrn.out.onG hFd hg hB⟩ ?_
      (try simp only [zP, zQ, zS, zZ, zN])
      refine tkn 19 ⟨hFd.blk (i := 0) rfl, hFd.blk (i := 1) rfl, hrn.out.onG hFd hg hB⟩ ?_
      (try simp only [zP, zQ, zS, zZ, zN])
      refine tkn 20 ⟨hFd.blk (i := 0) rfl, hFd.blk (i := 1) rfl, hrn.out.onG hFd hg hB⟩ ?_
      (try simp only [zP, zQ, zS, zZ, zN])
      refine tkn 21 ⟨hFd.blk (i := 0) rfl, hFd.blk (i := 1) rfl, hrn.out.onG hFd hg hB⟩ ?_
      (try simp only [zP, zQ, zS, zZ, zN])
      refine tkn 22 ⟨hFd.blk (i := 0) rfl, hFd.blk (i := 1) rfl, hrn.out.onG hFd hg hB⟩ ?_
      (try simp only [zP, zQ, zS, zZ, zN])
      refine tkp 23 ⟨hFd.blk (i := 0) rfl, hFd.blk (i := 1) rfl, hrn.out.onG hFd hg hB⟩ ?_
      (try simp only [zP, zQ, zS, zZ, zN])
      refine tkp 24 ⟨hFd.blk (i := 0) rfl, hFd.blk (i := 1) rfl, hrn.out.onG hFd hg hB⟩ ?_
      (try simp only [zP, zQ, zS, zZ, zN])
      refine tky 25 (y := yi_fldA (by with_unfolding_all rfl) (fun _ h => h.1) uq76 rfl (by with_unfolding_all exact ⟨_, rfl, rfl⟩) (ds := ci) (by rw [hcil.out]; kernel_rfl) (by rw [hcil.out]; exact take_all5 hcil.out)) (s := ⟨hFd.blk (i := 0) rfl, hFd.blk (i := 1) rfl, hrn.out.onG hFd hg hB⟩) (h := ?_)
      (try simp only [zP, zQ, zS, zZ, zN])
      refine tkp 26 ⟨hFd.blk (i := 0) rfl, hFd.blk (i := 1) rfl, hrn.out.onG hFd hg hB⟩ ?_
      (try simp only [zP, zQ, zS, zZ, zN])
      refine tkp 27 ⟨hFd.blk (i := 0) rfl, hFd.blk (i := 1) rfl, hrn.out.onG hFd hg hB⟩ ?_
      (try simp only [zP, zQ, zS, zZ, zN])
      refine tkp 28 ⟨hFd.blk (i := 0) rfl, hFd.blk (i := 1) rfl, hrn.out.onG hFd hg hB⟩ ?_
      (try simp only [zP, zQ, zS, zZ, zN])
      refine rdy1 29 (fun K hK => ?_)
      refine stp (by with_unfolding_all rfl) (wp_call Tryz.func83 rfl (by with_unfolding_all rfl) (by with_unfolding_all rfl) (by with_unfolding_all rfl) (ihc.out _ hFd) ?_)
      rintro e w31 ⟨rfl, hv31⟩
      refine ⟨_, rfl, ?_⟩
      have hF31 := hFd.putF (i := 2) rfl hv31
      simp only [zZ, zN] at hF31
      refine hK.out _ _ (⟨hF31.blk (i := 0) rfl, hF31.blk (i := 1) rfl, hrn.out.onG hF31 hg hB⟩) (fun _ => ?_)
      clear hK K
      (try simp only [zP, zQ, zS, zZ, zN])
      refine tkp 30 ⟨hF31.blk (i := 0) rfl, hF31.blk (i := 1) rfl, hrn.out.onG hF31 hg hB⟩ ?_
      (try simp only [zP, zQ, zS, zZ, zN])
      refine tkp 31 ⟨hF31.blk (i := 0) rfl, hF31.blk (i := 1) rfl, hrn.out.onG hF31 hg hB⟩ ?_
      (try simp only [zP, zQ, zS, zZ, zN])
      refine wpAnyH_done (by kernel_rfl) ?_ _
      go_wp2_with fail
      go_roundg (nk - (i + 1))
      case rel => exact ⟨i + 1, x, by omega, hx4, box rfl, by go_num, hgo, hF31.tail⟩
      case measure => have := hkf.out; omega
    ·have hin : nk = i := by omega
     subst hin
     have hjr : Box (jRight (d + 1) (.mk 5 n t ns ks) m = some mm) := box (by
      obtain ⟨seen, nsr, h⟩ := hJ.out
      rw [h, List.drop_of_length_le (l := ks) (by rw [hnk.out]; exact Nat.le_refl _), jRightL])
     clear hJ hkf
     go_wp2_with fail
     go_ret
     exact ⟨mm, by rw [hjr.out]; rfl, (fun x h => by rw [hjr.out] at h; injection h), hF.tail⟩
  ·subst hk5
   by_cases hne : nn = nk
   ·have hjn : jRight (d + 1) (.mk 6 n t ns ks) m = jRightL (jRight d) true [] ns ks (m + 1) := by rw [jRight, if_neg hnb, if_neg (by decide), if_neg (by rw [hnn.out, hnk.out]; exact fun h => h.2 hne)]; rfl
    have c1 : ¬ 4096 < m + 1 := fun h => hnb (.inl h)
    have hvt : Lib.validD t = true := by cases hv : Lib.validD t; exact absurd (.inr (.inr (.inr (.inl hv)))) hnb; rfl
    have c4 : ¬ 9007199254740991 < n := fun h => hnb (.inr (.inr (.inr (.inr (.inl h)))))
    have c5 : ¬ n < -9007199254740991 := fun h => hnb (.inr (.inr (.inr (.inr (.inr h)))))
    have d1 : decide ((4096 : Int) < (m : Int) + 1) = false := decide_eq_false (by omega)
    have d4 : decide ((9007199254740991 : Int) < n) = false := decide_eq_false c4
    have d5 : decide (n < (-9007199254740991 : Int)) = false := decide_eq_false c5
    rw [hvt] at hvs
    have hm1 : m + 1 ≤ 4096 := by omega
    replace c1 := box c1
    replace c4 := box c4
    replace c5 := box c5
    replace hvt := box hvt
    replace hnb := box hnb
    have hd16 : ((deep : Int) == 16) = false := by rw [beq_eq_false_iff_ne]; omega
    have hwr : IntKind.i64.wrap ((deep : Int) + 1) = (deep : Int) + 1 := wrap64_deep (by omega)
    have hle : nk ≤ nn := by omega
    have hne2 : ((nn : Int) != (nk : Int)) = false := by rw [hne]; simp
    replace hne := box hne
    go_enter Tryz.func83, Tryz.ntmps83
    go_wp2_with (first | ((with_reducible refine lsx (wp_fbox hF0 (cs := (vlL 6 n ⟨t.toArray⟩ (.slice An nn cn) (.slice Ak nk ck))) rfl (by with_unfolding_all rfl) (by with_unfolding_all rfl) ?_)); intro w1 g1 hF1 hz1) | (with_reducible refine lsx (wp_fld1 hF1 uq3 rfl (by with_unfolding_all exact ⟨_, rfl, rfl⟩) rfl ?_)) | ((with_reducible refine lsx (wp_fst1 hF1 (by with_unfolding_all exact ⟨_, _, rfl, rfl, rfl⟩) (by kernel_rfl) rfl rfl (by first | decide | (simp; done) | (simp; omega)) (spl1' _ (.int .i64 ((m : Int) + 1))) ?_)); intro w2 hF2 hz2) | (with_reducible refine lsx (wp_fld1 hF2 uq3 rfl (by with_unfolding_all exact ⟨_, rfl, rfl⟩) rfl ?_)) | (with_reducible refine lsx (wp_fld0 hF2 uq3 rfl (by with_unfolding_all exact ⟨_, rfl, rfl⟩) rfl ?_)) | (with_reducible refine lsx (wp_fld0 hF2 uq9 rfl (by with_unfolding_all exact ⟨_, rfl, rfl⟩) rfl ?_)))
    refine (hvs.out _ hF2).mono ?_
    rintro e w3 ⟨rfl, hb3⟩
    have hF3 := hF2.call hb3
    go_wp2_with (first | (with_reducible refine lsx (wp_fld0 hF3 uq3 rfl (by with_unfolding_all exact ⟨_, rfl, rfl⟩) rfl ?_)) | (with_reducible refine lsx (wp_fld0 hF3 uq48 rfl (by with_unfolding_all exact ⟨_, rfl, rfl⟩) rfl ?_)) | (with_reducible refine lsx (wp_fld0 hF3 uq74 rfl (by with_unfolding_all exact ⟨_, rfl, rfl⟩) rfl ?_)))
    have hF4 : Fr [gi] w w3 [.blk g1 76 (vlL 6 n ⟨t.toArray⟩ (.slice An nn cn) (.slice Ak nk ck)), .blk gi 3 [.int .i64 ((m + 1 : Nat) : Int)]] := hF3
    clear hF0 hF1 hF2 hF3
    go_loopg [66] nk (fun gk s wr => ∃ i mm : Nat, i ≤ nk ∧ mm ≤ 4096 ∧ Box (gk = nk - i) ∧ s = .int .i64 (i : Int) ∧ Box (jRight (d + 1) (.mk 6 n t ns ks) m = jRightL (jRight d) true (ns.take i) (ns.drop i) (ks.drop i) mm) ∧ Fr [gi] w wr [.blk g1 76 (vlL 6 n ⟨t.toArray⟩ (.slice An nn cn) (.slice Ak nk ck)), .blk gi 3 [.int .i64 (mm : Int)]])
    case atStart => exact ⟨0, m + 1, by omega, hm1, box rfl, rfl, box hjn, hF4⟩
    case round =>
     clear hF4 hjn
     obtain ⟨i, mm, hi, hmm, hk, rfl, hJ, hF⟩ := hrel
     have hkf : Box (gk = nk - i) := hk
     clear hk
     by_cases hlt : i < nk
     ·obtain ⟨vi, hvi⟩ : ∃ vi, ks[i]? = some vi := ⟨ks[i]'(by rw [hnk.out]; exact hlt), by simp⟩
      obtain ⟨ci, hci, hvri⟩ := hvk.out.at hvi
      have hcil := box hvri.len
      have hcio := box (VRd.one hvri)
      replace hci := box hci
      have ihc := box (fun (g6 : Nat) w' {es : List Ent} {cs2 : List Value} (hF : Fr [gi] w w' (.blk g6 76 cs2 :: .blk g1 76 (vlL 6 n ⟨t.toArray⟩ (.slice An nn cn) (.slice Ak nk ck)) :: .blk gi 3 [.int .i64 (mm : Int)] :: es)) => ih (deep + 1) vi ci w' gi mm B (by omega) hmm (hL.on (hF.belowG hg hB)) (hF.blk (i := 2) rfl) hg (Nat.le_trans hB hF.size) (hvri.onG (hF.belowG hg hB)) (hs3.out.at hvi) (ht3.out.at hvi))
      obtain ⟨s, hs⟩ : ∃ s, ns[i]? = some s := ⟨ns[i]'(by rw [hnn.out]; omega), by simp⟩
      have hss : Box ((ns.map strv)[i]? = some (.string ⟨s.toArray⟩)) := box (by rw [List.getElem?_map, hs]; rfl)
      have hhd : (ns.drop i).headD [] = s := by rw [List.drop_eq_getElem_cons (List.getElem?_eq_some_iff.1 hs).1, (List.getElem?_eq_some_iff.1 hs).2]; rfl
      have hst := hJ.out.trans (jRightL_drop hvi)
      rw [hhd, List.tail_drop, show ns.take i ++ [s] = ns.take (i + 1) by rw [List.take_add_one, hs]; rfl] at hst
      have hsl := ht2.out s (List.mem_of_getElem? hs)
      have hvn := box (fun w' {es : List Ent} (hF : Fr [gi] w w' es) => valid_ok (hL.on (hF.belowG hg hB)) s (by omega))
      have hhs := box (fun w' {es : List Ent} (hF : Fr [gi] w w' es) => has_any An i cn (ns.take i) s w' (· < B) (by omega) (rd_pre (hrn.out.onG hF hg hB) (by omega)))
      replace hsl := box hsl
      clear hhd hs
      replace hvi := box hvi
      replace hvri := box hvri
      have hrk2 := hrk.out.onG hF hg hB
      clear hJ
      go_upto_region 11 with (first | (with_reducible refine lsx (wp_indexAddr T_vals hrk2 (by with_unfolding_all exact ⟨_, _, _, _, rfl, rfl, rfl⟩) (by omega) (by omega) ?_)) | (with_reducible refine lsx (wp_loadA hrk2 uq76 rfl (by with_unfolding_all exact ⟨_, rfl, rfl⟩) (ds := ci) (by rw [hcil.out]; kernel_rfl) (by rw [hcil.out]; with_unfolding_all exact hci.out) ?_)) | ((with_reducible refine lsx (wp_falloc hF (cs := vl0) (z := .agg (List.toArray (vl0))) rfl (by kernel_rfl) (by with_unfolding_all rfl) ?_)); intro w6 g6 hF6 hz6) | ((with_reducible refine lsx (wp_fstA0 hF6 (by with_unfolding_all exact ⟨_, _, rfl, rfl, rfl⟩) (by rw [hcil.out]; kernel_rfl) hcio.out (by rw [hcil.out, vlL_len]; decide) (spl_all (by rw [hcil.out, vlL_len])) ?_)); intro w7 hF7 hz7))
      (try simp only [zP, zQ, zS, zZ, zN])
      have hFd := hF7.drew
      clear hF hF6 hF7 hrk2
      cases hvs1 : Lib.validD s with
      | false =>
       rw [if_pos ⟨rfl, .inl hvs1⟩] at hst
       have hjr := box hst
       rw [hvs1] at hvn
       clear hst ihc hhs
       refine wp_region_held (S := fun w' => w'.heap[g6]? = some (.cells (List.toArray ci) 76 (0, 0)) ∧ w'.heap[g1]? = some (.cells (List.toArray (vlL 6 n ⟨t.toArray⟩ (.slice An nn cn) (.slice Ak nk ck))) 76 (0, 0)) ∧ Rd w' (· < B) An 1 nn (ns.map strv)) (by kernel_rfl) ?_
       change wpAnyH _ _ _ _ _ _ _ _ (World.drew _)
       refine tkp 0 ⟨hFd.blk (i := 0) rfl, hFd.blk (i := 1) rfl, hrn.out.onG hFd hg hB⟩ ?_
       (try simp only [zP, zQ, zS, zZ, zN])
       refine tky 1 (y := yi_fld (by with_unfolding_all rfl) (fun _ h => h.2.1) uq3 rfl (by with_unfolding_all exact ⟨_, rfl, rfl⟩) rfl) (s := ⟨hFd.blk (i := 0) rfl, hFd.blk (i := 1) rfl, hrn.out.onG hFd hg hB⟩) (h := ?_)
       (try simp only [zP, zQ, zS, zZ, zN])
       refine tkp 2 ⟨hFd.blk (i := 0) rfl, hFd.blk (i := 1) rfl, hrn.out.onG hFd hg hB⟩ ?_
       (try simp only [zP, zQ, zS, zZ, zN])
       refine tkp 3 ⟨hFd.blk (i := 0) rfl, hFd.blk (i := 1) rfl, hrn.out.onG hFd hg hB⟩ ?_
       (try simp only [zP, zQ, zS, zZ, zN])
       refine tkp 4 ⟨hFd.blk (i := 0) rfl, hFd.blk (i := 1) rfl, hrn.out.onG hFd hg hB⟩ ?_
       (try simp only [zP, zQ, zS, zZ, zN])
       refine tky 5 (y := yi_fld (by with_unfolding_all rfl) (fun _ h => h.2.1) uq48 rfl (by with_unfolding_all exact ⟨_, rfl, rfl⟩) rfl) (s := ⟨hFd.blk (i := 0) rfl, hFd.blk (i := 1) rfl, hrn.out.onG hFd hg hB⟩) (h := ?_)
       (try simp only [zP, zQ, zS, zZ, zN])
       refine tkp 6 ⟨hFd.blk (i := 0) rfl, hFd.blk (i := 1) rfl, hrn.out.onG hFd hg hB⟩ ?_
       (try simp only [zP, zQ, zS, zZ, zN])
       refine tky 7 (y := yi_ix (by with_unfolding_all rfl) T_strs (fun h => hrn.out.some_ h) (k := i) (by with_unfolding_all exact ⟨_, _, _, _, rfl, rfl, rfl⟩) rfl (by omega)) (s := ⟨hFd.blk (i := 0) rfl, hFd.blk (i := 1) rfl, hrn.out.onG hFd hg hB⟩) (h := ?_)
       (try simp only [zP, zQ, zS, zZ, zN])
       refine tky 8 (y := yi_ld (by with_unfolding_all rfl) (j := i * 1) (fun _ h => h.2.2) uq9 rfl (by with_unfolding_all exact ⟨_, rfl, rfl⟩) (by rw [Nat.mul_one]; exact hss.out)) (s := ⟨hFd.blk (i := 0) rfl, hFd.blk (i := 1) rfl, hrn.out.onG hFd hg hB⟩) (h := ?_)
       (try simp only [zP, zQ, zS, zZ, zN])
       refine rdy1 9 (fun K hK => ?_)
       refine stp (by with_unfolding_all rfl) (wp_call Tryz.func112 rfl (by with_unfolding_all rfl) (by with_unfolding_all rfl) (by with_unfolding_all rfl) (hvn.out _ hFd) ?_)
       rintro e w31 ⟨rfl, hb31⟩
       refine ⟨_, rfl, ?_⟩
       have hF31 := hFd.call hb31
       refine hK.out _ _ (⟨hF31.blk (i := 0) rfl, hF31.blk (i := 1) rfl, hrn.out.onG hF31 hg hB⟩) (fun _ => ?_)
       clear hK K
       (try simp only [zP, zQ, zS, zZ, zN])
       refine tkp 10 ⟨hF31.blk (i := 0) rfl, hF31.blk (i := 1) rfl, hrn.out.onG hF31 hg hB⟩ ?_
       (try simp only [zP, zQ, zS, zZ, zN])
       refine tkp 11 ⟨hF31.blk (i := 0) rfl, hF31.blk (i := 1) rfl, hrn.out.onG hF31 hg hB⟩ ?_
       (try simp only [zP, zQ, zS, zZ, zN])
       refine tkn 12 ⟨hF31.blk (i := 0) rfl, hF31.blk (i := 1) rfl, hrn.out.onG hF31 hg hB⟩ ?_
       (try simp only [zP, zQ, zS, zZ, zN])
       refine tkn 13 ⟨hF31.blk (i := 0) rfl, hF31.blk (i := 1) rfl, hrn.out.onG hF31 hg hB⟩ ?_
       (try simp only [zP, zQ, zS, zZ, zN])
       refine tkn 14 ⟨hF31.blk (i := 0) rfl, hF31.blk (i := 1) rfl, hrn.out.onG hF31 hg hB⟩ ?_
       (try simp only [zP, zQ, zS, zZ, zN])
       refine tkn 15 ⟨hF31.blk (i := 0) rfl, hF31.blk (i := 1) rfl, hrn.out.onG hF31 hg hB⟩ ?_
       (try simp only [zP, zQ, zS, zZ, zN])
       refine tkn 16 ⟨hF31.blk (i := 0) rfl, hF31.blk (i := 1) rfl, hrn.out.onG hF31 hg hB⟩ ?_
       (try simp only [zP, zQ, zS, zZ, zN])
       refine tkn 17 ⟨hF31.blk (i := 0) rfl, hF31.blk (i := 1) rfl, hrn.out.onG hF31 hg hB⟩ ?_
       (try simp only [zP, zQ, zS, zZ, zN])
       refine tkn 18 ⟨hF31.blk (i := 0) rfl, hF31.blk (i := 1) rfl, hrn.out.onG hF31 hg hB⟩ ?_
       (try simp only [zP, zQ, zS, zZ, zN])
       refine tkn 19 ⟨hF31.blk (i := 0) rfl, hF31.blk (i := 1) rfl, hrn.out.onG hF31 hg hB⟩ ?_
       (try simp only [zP, zQ, zS, zZ, zN])
       refine tkn 20 ⟨hF31.blk (i := 0) rfl, hF31.blk (i := 1) rfl, hrn.out.onG hF31 hg hB⟩ ?_
       (try simp only [zP, zQ, zS, zZ, zN])
       refine tkn 21 ⟨hF31.blk (i := 0) rfl, hF31.blk (i := 1) rfl, hrn.out.onG hF31 hg hB⟩ ?_
       (try simp only [zP, zQ, zS, zZ, zN])
       refine tkp 22 ⟨hF31.blk (i := 0) rfl, hF31.blk (i := 1) rfl, hrn.out.onG hF31 hg hB⟩ ?_
       (try simp only [zP, zQ, zS, zZ, zN])
       refine tkp 23 ⟨hF31.blk (i := 0) rfl, hF31.blk (i := 1) rfl, hrn.out.onG hF31 hg hB⟩ ?_
       (try simp only [zP, zQ, zS, zZ, zN])
       refine tkp 24 ⟨hF31.blk (i := 0) rfl, hF31.blk (i := 1) rfl, hrn.out.onG hF31 hg hB⟩ ?_
       (try simp only [zP, zQ, zS, zZ, zN])
       refine tkn 25 ⟨hF31.blk (i := 0) rfl, hF31.blk (i := 1) rfl, hrn.out.onG hF31 hg hB⟩ ?_
       (try simp only [zP, zQ, zS, zZ, zN])
       refine tkn 26 ⟨hF31.blk (i := 0) rfl, hF31.blk (i := 1) rfl, hrn.out.onG hF31 hg hB⟩ ?_
       (try simp only [zP, zQ, zS, zZ, zN])
       refine tkn 27 ⟨hF31.blk (i := 0) rfl, hF31.blk (i := 1) rfl, hrn.out.onG hF31 hg hB⟩ ?_
       (try simp only [zP, zQ, zS, zZ, zN])
       refine tkn 28 ⟨hF31.blk (i := 0) rfl, hF31.blk (i := 1) rfl, hrn.out.onG hF31 hg hB⟩ ?_
       (try simp only [zP, zQ, zS, zZ, zN])
       refine tkn 29 ⟨hF31.blk (i := 0) rfl, hF31.blk (i := 1) rfl, hrn.out.onG hF31 hg hB⟩ ?_
       (try simp only [zP, zQ, zS, zZ, zN])
       refine tkn 30 ⟨hF31.blk (i := 0) rfl, hF31.blk (i := 1) rfl, hrn.out.onG hF31 hg hB⟩ ?_
       (try simp only [zP, zQ, zS, zZ, zN])
       refine tkp 31 ⟨hF31.blk (i := 0) rfl, hF31.blk (i := 1) rfl, hrn.out.onG hF31 hg hB⟩ ?_
       (try simp only [zP, zQ, zS, zZ, zN])
       refine wpAnyH_done (by kernel_rfl) ?_ _
       go_wp2_with fail
       go_ret
       exact ⟨mm, by rw [hjr.out]; rfl, (fun x h => by rw [hjr.out] at h; cases h), hF31.tail.tail⟩
      | true =>
       rw [hvs1] at hvn
       by_cases hin : s ∈ ns.take i
       ·rw [if_pos ⟨rfl, .inr hin⟩] at hst
        have hjr := box hst
        rw [decide_eq_true hin] at hhs
        replace hin := box hin
        clear hst ihc
        refine wp_region_held (S := fun w' => w'.heap[g6]? = some (.cells (List.toArray ci) 76 (0, 0)) ∧ w'.heap[g1]? = some (.cells (List.toArray (vlL 6 n ⟨t.toArray⟩ (.slice An nn cn) (.slice Ak nk ck))) 76 (0, 0)) ∧ Rd w' (· < B) An 1 nn (ns.map strv)) (by kernel_rfl) ?_
        change wpAnyH _ _ _ _ _ _ _ _ (World.drew _)
        refine tkp 0 ⟨hFd.blk (i := 0) rfl, hFd.blk (i := 1) rfl, hrn.out.onG hFd hg hB⟩ ?_
        (try simp only [zP, zQ, zS, zZ, zN])
        refine tky 1 (y := yi_fld (by with_unfolding_all rfl) (fun _ h => h.2.1) uq3 rfl (by with_unfolding_all exact ⟨_, rfl, rfl⟩) rfl) (s := ⟨hFd.blk (i := 0) rfl, hFd.blk (i := 1) rfl, hrn.out.onG hFd hg hB⟩) (h := ?_)
        (try simp only [zP, zQ, zS, zZ, zN])
        refine tkp 2 ⟨hFd.blk (i := 0) rfl, hFd.blk (i := 1) rfl, hrn.out.onG hFd hg hB⟩ ?_
        (try simp only [zP, zQ, zS, zZ, zN])
        refine tkp 3 ⟨hFd.blk (i := 0) rfl, hFd.blk (i := 1) rfl, hrn.out.onG hFd hg hB⟩ ?_
        (try simp only [zP, zQ, zS, zZ, zN])
        refine tkp 4 ⟨hFd.blk (i := 0) rfl, hFd.blk (i := 1) rfl, hrn.out.onG hFd hg hB⟩ ?_
        (try simp only [zP, zQ, zS, zZ, zN])
        refine tky 5 (y := yi_fld (by with_unfolding_all rfl) (fun _ h => h.2.1) uq48 rfl (by with_unfolding_all exact ⟨_, rfl, rfl⟩) rfl) (s := ⟨hFd.blk (i := 0) rfl, hFd.blk (i := 1) rfl, hrn.out.onG hFd hg hB⟩) (h := ?_)
        (try simp only [zP, zQ, zS, zZ, zN])
        refine tkp 6 ⟨hFd.blk (i := 0) rfl, hFd.blk (i := 1) rfl, hrn.out.onG hFd hg hB⟩ ?_
        (try simp only [zP, zQ, zS, zZ, zN])
        refine tky 7 (y := yi_ix (by with_unfolding_all rfl) T_strs (fun h => hrn.out.some_ h) (k := i) (by with_unfolding_all exact ⟨_, _, _, _, rfl, rfl, rfl⟩) rfl (by omega)) (s := ⟨hFd.blk (i := 0) rfl, hFd.blk (i := 1) rfl, hrn.out.onG hFd hg hB⟩) (h := ?_)
        (try simp only [zP, zQ, zS, zZ, zN])
        refine tky 8 (y := yi_ld (by with_unfolding_all rfl) (j := i * 1) (fun _ h => h.2.2) uq9 rfl (by with_unfolding_all exact ⟨_, rfl, rfl⟩) (by rw [Nat.mul_one]; exact hss.out)) (s := ⟨hFd.blk (i := 0) rfl, hFd.blk (i := 1) rfl, hrn.out.onG hFd hg hB⟩) (h := ?_)
        (try simp only [zP, zQ, zS, zZ, zN])
        refine rdy1 9 (fun K hK => ?_)
        refine stp (by with_unfolding_all rfl) (wp_call Tryz.func112 rfl (by with_unfolding_all rfl) (by with_unfolding_all rfl) (by with_unfolding_all rfl) (hvn.out _ hFd) ?_)
        rintro e w31 ⟨rfl, hb31⟩
        refine ⟨_, rfl, ?_⟩
        have hF31 := hFd.call hb31
        refine hK.out _ _ (⟨hF31.blk (i := 0) rfl, hF31.blk (i := 1) rfl, hrn.out.onG hF31 hg hB⟩) (fun _ => ?_)
        clear hK K
        (try simp only [zP, zQ, zS, zZ, zN])
        refine tkp 10 ⟨hF31.blk (i := 0) rfl, hF31.blk (i := 1) rfl, hrn.out.onG hF31 hg hB⟩ ?_
        (try simp only [zP, zQ, zS, zZ, zN])
        refine tkp 11 ⟨hF31.blk (i := 0) rfl, hF31.blk (i := 1) rfl, hrn.out.onG hF31 hg hB⟩ ?_
        (try simp only [zP, zQ, zS, zZ, zN])
        refine tkp 12 ⟨hF31.blk (i := 0) rfl, hF31.blk (i := 1) rfl, hrn.out.onG hF31 hg hB⟩ ?_
        (try simp only [zP, zQ, zS, zZ, zN])
        refine tky 13 (y := yi_fld (by with_unfolding_all rfl) (fun _ h => h.2.1) uq48 rfl (by with_unfolding_all exact ⟨_, rfl, rfl⟩) rfl) (s := ⟨hF31.blk (i := 0) rfl, hF31.blk (i := 1) rfl, hrn.out.onG hF31 hg hB⟩) (h := ?_)
        (try simp only [zP, zQ, zS, zZ, zN])
        refine tkp 14 ⟨hF31.blk (i := 0) rfl, hF31.blk (i := 1) rfl, hrn.out.onG hF31 hg hB⟩ ?_
        (try simp only [zP, zQ, zS, zZ, zN])
        refine tky 15 (y := yi_pre (by with_unfolding_all rfl) T_strs (by with_unfolding_all exact ⟨_, _, _, rfl, rfl, rfl⟩) (by omega) (by omega)) (s := ⟨hF31.blk (i := 0) rfl, hF31.blk (i := 1) rfl, hrn.out.onG hF31 hg hB⟩) (h := ?_)
        (try simp only [zP, zQ, zS, zZ, zN])
        refine tkp 16 ⟨hF31.blk (i := 0) rfl, hF31.blk (i := 1) rfl, hrn.out.onG hF31 hg hB⟩ ?_
        (try simp only [zP, zQ, zS, zZ, zN])
        refine tky 17 (y := yi_fld (by with_unfolding_all rfl) (fun _ h => h.2.1) uq48 rfl (by with_unfolding_all exact ⟨_, rfl, rfl⟩) rfl) (s := ⟨hF31.blk (i := 0) rfl, hF31.blk (i := 1) rfl, hrn.out.onG hF31 hg hB⟩) (h := ?_)
        (try simp only [zP, zQ, zS, zZ, zN])
        refine tkp 18 ⟨hF31.blk (i := 0) rfl, hF31.blk (i := 1) rfl, hrn.out.onG hF31 hg hB⟩ ?_
        (try simp only [zP, zQ, zS, zZ, zN])
        refine tky 19 (y := yi_ix (by with_unfolding_all rfl) T_strs (fun h => hrn.out.some_ h) (k := i) (by with_unfolding_all exact ⟨_, _, _, _, rfl, rfl, rfl⟩) rfl (by omega)) (s := ⟨hF31.blk (i := 0) rfl, hF31.blk (i := 1) rfl, hrn.out.onG hF31 hg hB⟩) (h := ?_)
        (try simp only [zP, zQ, zS, zZ, zN])
        refine tky 20 (y := yi_ld (by with_unfolding_all rfl) (j := i * 1) (fun _ h => h.2.2) uq9 rfl (by with_unfolding_all exact ⟨_, rfl, rfl⟩) (by rw [Nat.mul_one]; exact hss.out)) (s := ⟨hF31.blk (i := 0) rfl, hF31.blk (i := 1) rfl, hrn.out.onG hF31 hg hB⟩) (h := ?_)
        (try simp only [zP, zQ, zS, zZ, zN])
        refine rdy1 21 (fun K hK => ?_)
        refine stp (by with_unfolding_all rfl) (wp_call Tryz.func114 rfl (by with_unfolding_all rfl) (by with_unfolding_all rfl) (by with_unfolding_all rfl) (hhs.out _ hF31) ?_)
        rintro e w32 ⟨rfl, rfl⟩
        refine ⟨_, rfl, ?_⟩
        refine hK.out _ _ (⟨hF31.blk (i := 0) rfl, hF31.blk (i := 1) rfl, hrn.out.onG hF31 hg hB⟩) (fun _ => ?_)
        clear hK K
        (try simp only [zP, zQ, zS, zZ, zN])
        refine tkp 22 ⟨hF31.blk (i := 0) rfl, hF31.blk (i := 1) rfl, hrn.out.onG hF31 hg hB⟩ ?_
        (try simp only [zP, zQ, zS, zZ, zN])
        refine tkp 23 ⟨hF31.blk (i := 0) rfl, hF31.blk (i := 1) rfl, hrn.out.onG hF31 hg hB⟩ ?_
        (try simp only [zP, zQ, zS, zZ, zN])
        refine tkp 24 ⟨hF31.blk (i := 0) rfl, hF31.blk (i := 1) rfl, hrn.out.onG hF31 hg hB⟩ ?_
        (try simp only [zP, zQ, zS, zZ, zN])
        refine tkn 25 ⟨hF31.blk (i := 0) rfl, hF31.blk (i := 1) rfl, hrn.out.onG hF31 hg hB⟩ ?_
        (try simp only [zP, zQ, zS, zZ, zN])
        refine tkn 26 ⟨hF31.blk (i := 0) rfl, hF31.blk (i := 1) rfl, hrn.out.onG hF31 hg hB⟩ ?_
        (try simp only [zP, zQ, zS, zZ, zN])
        refine tkn 27 ⟨hF31.blk (i := 0) rfl, hF31.blk (i := 1) rfl, hrn.out.onG hF31 hg hB⟩ ?_
        (try simp only [zP, zQ, zS, zZ, zN])
        refine tkn 28 ⟨hF31.blk (i := 0) rfl, hF31.blk (i := 1) rfl, hrn.out.onG hF31 hg hB⟩ ?_
        (try simp only [zP, zQ, zS, zZ, zN])
        refine tkn 29 ⟨hF31.blk (i := 0) rfl, hF31.blk (i := 1) rfl, hrn.out.onG hF31 hg hB⟩ ?_
        (try simp only [zP, zQ, zS, zZ, zN])
        refine tkn 30 ⟨hF31.blk (i := 0) rfl, hF31.blk (i := 1) rfl, hrn.out.onG hF31 hg hB⟩ ?_
        (try simp only [zP, zQ, zS, zZ, zN])
        refine tkp 31 ⟨hF31.blk (i := 0) rfl, hF31.blk (i := 1) rfl, hrn.out.onG hF31 hg hB⟩ ?_
        (try simp only [zP, zQ, zS, zZ, zN])
        refine wpAnyH_done (by kernel_rfl) ?_ _
        go_wp2_with fail
        go_ret
        exact ⟨mm, by rw [hjr.out]; rfl, (fun x h => by rw [hjr.out] at h; cases h), hF31.tail.tail⟩
       ·rw [if_neg (by rw [hvs1]; simp [hin])] at hst
        rw [decide_eq_false hin] at hhs
        replace hin := box hin
        cases hc : jRight d vi mm with
        | none =>
         rw [hc] at hst
         have hjr := box hst
         have ihc := box (fun w' {es : List Ent} {cs2 : List Value} (hF : Fr [gi] w w' (.blk g6 76 cs2 :: .blk g1 76 (vlL 6 n ⟨t.toArray⟩ (.slice An nn cn) (.slice Ak nk ck)) :: .blk gi 3 [.int .i64 (mm : Int)] :: es)) => (ihc.out g6 w' hF).mono (fun e w'' h => right_none h hc))
         clear hst
         refine wp_region_held (S := fun w' => w'.heap[g6]? = some (.cells (List.toArray ci) 76 (0, 0)) ∧ w'.heap[g1]? = some (.cells (List.toArray (vlL 6 n ⟨t.toArray⟩ (.slice An nn cn) (.slice Ak nk ck))) 76 (0, 0)) ∧ Rd w' (· < B) An 1 nn (ns.map strv)) (by kernel_rfl) ?_
         change wpAnyH _ _ _ _ _ _ _ _ (World.drew _)
         refine tkp 0 ⟨hFd.blk (i := 0) rfl, hFd.blk (i := 1) rfl, hrn.out.onG hFd hg hB⟩ ?_
         (try simp only [zP, zQ, zS, zZ, zN])
         refine tky 1 (y := yi_fld (by with_unfolding_all rfl) (fun _ h => h.2.1) uq3 rfl (by with_unfolding_all exact ⟨_, rfl, rfl⟩) rfl) (s := ⟨hFd.blk (i := 0) rfl, hFd.blk (i := 1) rfl, hrn.out.onG hFd hg hB⟩) (h := ?_)
         (try simp only [zP, zQ, zS, zZ, zN])
         refine tkp 2 ⟨hFd.blk (i := 0) rfl, hFd.blk (i := 1) rfl, hrn.out.onG hFd hg hB⟩ ?_
         (try simp only [zP, zQ, zS, zZ, zN])
         refine tkp 3 ⟨hFd.blk (i := 0) rfl, hFd.blk (i := 1) rfl, hrn.out.onG hFd hg hB⟩ ?_
         (try simp only [zP, zQ, zS, zZ, zN])
         refine tkp 4 ⟨hFd.blk (i := 0) rfl, hFd.blk (i := 1) rfl, hrn.out.onG hFd hg hB⟩ ?_
         (try simp only [zP, zQ, zS, zZ, zN])
         refine tky 5 (y := yi_fld (by with_unfolding_all rfl) (fun _ h => h.2.1) uq48 rfl (by with_unfolding_all exact ⟨_, rfl, rfl⟩) rfl) (s := ⟨hFd.blk (i := 0) rfl, hFd.blk (i := 1) rfl, hrn.out.onG hFd hg hB⟩) (h := ?_)
         (try simp only [zP, zQ, zS, zZ, zN])
         refine tkp 6 ⟨hFd.blk (i := 0) rfl, hFd.blk (i := 1) rfl, hrn.out.onG hFd hg hB⟩ ?_
         (try simp only [zP, zQ, zS, zZ, zN])
         refine tky 7 (y := yi_ix (by with_unfolding_all rfl) T_strs (fun h => hrn.out.some_ h) (k := i) (by with_unfolding_all exact ⟨_, _, _, _, rfl, rfl, rfl⟩) rfl (by omega)) (s := ⟨hFd.blk (i := 0) rfl, hFd.blk (i := 1) rfl, hrn.out.onG hFd hg hB⟩) (h := ?_)
         (try simp only [zP, zQ, zS, zZ, zN])
         refine tky 8 (y := yi_ld (by with_unfolding_all rfl) (j := i * 1) (fun _ h => h.2.2) uq9 rfl (by with_unfolding_all exact ⟨_, rfl, rfl⟩) (by rw [Nat.mul_one]; exact hss.out)) (s := ⟨hFd.blk (i := 0) rfl, hFd.blk (i := 1) rfl, hrn.out.onG hFd hg hB⟩) (h := ?_)
         (try simp only [zP, zQ, zS, zZ, zN])
         refine rdy1 9 (fun K hK => ?_)
         refine stp (by with_unfolding_all rfl) (wp_call Tryz.func112 rfl (by with_unfolding_all rfl) (by with_unfolding_all rfl) (by with_unfolding_all rfl) (hvn.out _ hFd) ?_)
         rintro e w31 ⟨rfl, hb31⟩
         refine ⟨_, rfl, ?_⟩
         have hF31 := hFd.call hb31
         refine hK.out _ _ (⟨hF31.blk (i := 0) rfl, hF31.blk (i := 1) rfl, hrn.out.onG hF31 hg hB⟩) (fun _ => ?_)
         clear hK K
         (try simp only [zP, zQ, zS, zZ, zN])
         refine tkp 10 ⟨hF31.blk (i := 0) rfl, hF31.blk (i := 1) rfl, hrn.out.onG hF31 hg hB⟩ ?_
         (try simp only [zP, zQ, zS, zZ, zN])
         refine tkp 11 ⟨hF31.blk (i := 0) rfl, hF31.blk (i := 1) rfl, hrn.out.onG hF31 hg hB⟩ ?_
         (try simp only [zP, zQ, zS, zZ, zN])
         refine tkp 12 ⟨hF31.blk (i := 0) rfl, hF31.blk (i := 1) rfl, hrn.out.onG hF31 hg hB⟩ ?_
         (try simp only [zP, zQ, zS, zZ, zN])
         refine tky 13 (y := yi_fld (by with_unfolding_all rfl) (fun _ h => h.2.1) uq48 rfl (by with_unfolding_all exact ⟨_, rfl, rfl⟩) rfl) (s := ⟨hF31.blk (i := 0) rfl, hF31.blk (i := 1) rfl, hrn.out.onG hF31 hg hB⟩) (h := ?_)
         (try simp only [zP, zQ, zS, zZ, zN])
         refine tkp 14 ⟨hF31.blk (i := 0) rfl, hF31.blk (i := 1) rfl, hrn.out.onG hF31 hg hB⟩ ?_
         (try simp only [zP, zQ, zS, zZ, zN])
         refine tky 15 (y := yi_pre (by with_unfolding_all rfl) T_strs (by with_unfolding_all exact ⟨_, _, _, rfl, rfl, rfl⟩) (by omega) (by omega)) (s := ⟨hF31.blk (i := 0) rfl, hF31.blk (i := 1) rfl, hrn.out.onG hF31 hg hB⟩) (h := ?_)
         (try simp only [zP, zQ, zS, zZ, zN])
         refine tkp 16 ⟨hF31.blk (i := 0) rfl, hF31.blk (i := 1) rfl, hrn.out.onG hF31 hg hB⟩ ?_
         (try simp only [zP, zQ, zS, zZ, zN])
         refine tky 17 (y := yi_fld (by with_unfolding_all rfl) (fun _ h => h.2.1) uq48 rfl (by with_unfolding_all exact ⟨_, rfl, rfl⟩) rfl) (s := ⟨hF31.blk (i := 0) rfl, hF31.blk (i := 1) rfl, hrn.out.onG hF31 hg hB⟩) (h := ?_)
         (try simp only [zP, zQ, zS, zZ, zN])
         refine tkp 18 ⟨hF31.blk (i := 0) rfl, hF31.blk (i := 1) rfl, hrn.out.onG hF31 hg hB⟩ ?_
         (try simp only [zP, zQ, zS, zZ, zN])
         refine tky 19 (y := yi_ix (by with_unfolding_all rfl) T_strs (fun h => hrn.out.some_ h) (k := i) (by with_unfolding_all exact ⟨_, _, _, _, rfl, rfl, rfl⟩) rfl (by omega)) (s := ⟨hF31.blk (i := 0) rfl, hF31.blk (i := 1) rfl, hrn.out.onG hF31 hg hB⟩) (h := ?_)
         (try simp only [zP, zQ, zS, zZ, zN])
         refine tky 20 (y := yi_ld (by with_unfolding_all rfl) (j := i * 1) (fun _ h => h.2.2) uq9 rfl (by with_unfolding_all exact ⟨_, rfl, rfl⟩) (by rw [Nat.mul_one]; exact hss.out)) (s := ⟨hF31.blk (i := 0) rfl, hF31.blk (i := 1) rfl, hrn.out.onG hF31 hg hB⟩) (h := ?_)
         (try simp only [zP, zQ, zS, zZ, zN])
         refine rdy1 21 (fun K hK => ?_)
         refine stp (by with_unfolding_all rfl) (wp_call Tryz.func114 rfl (by with_unfolding_all rfl) (by with_unfolding_all rfl) (by with_unfolding_all rfl) (hhs.out _ hF31) ?_)
         rintro e w32 ⟨rfl, rfl⟩
         refine ⟨_, rfl, ?_⟩
         refine hK.out _ _ (⟨hF31.blk (i := 0) rfl, hF31.blk (i := 1) rfl, hrn.out.onG hF31 hg hB⟩) (fun _ => ?_)
         clear hK K
         (try simp only [zP, zQ, zS, zZ, zN])
         refine tkp 22 ⟨hF31.blk (i := 0) rfl, hF31.blk (i := 1) rfl, hrn.out.onG hF31 hg hB⟩ ?_
         (try simp only [zP, zQ, zS, zZ, zN])
         refine tkp 23 ⟨hF31.blk (i := 0) rfl, hF31.blk (i := 1) rfl, hrn.out.onG hF31 hg hB⟩ ?_
         (try simp only [zP, zQ, zS, zZ, zN])
         refine tkp 24 ⟨hF31.blk (i := 0) rfl, hF31.blk (i := 1) rfl, hrn.out.onG hF31 hg hB⟩ ?_
         (try simp only [zP, zQ, zS, zZ, zN])
         refine tky 25 (y := yi_fldA (by with_unfolding_all rfl) (fun _ h => h.1) uq76 rfl (by with_unfolding_all exact ⟨_, rfl, rfl⟩) (ds := ci) (by rw [hcil.out]; kernel_rfl) (by rw [hcil.out]; exact take_all5 hcil.out)) (s := ⟨hF31.blk (i := 0) rfl, hF31.blk (i := 1) rfl, hrn.out.onG hF31 hg hB⟩) (h := ?_)
         (try simp only [zP, zQ, zS, zZ, zN])
         refine tkp 26 ⟨hF31.blk (i := 0) rfl, hF31.blk (i := 1) rfl, hrn.out.onG hF31 hg hB⟩ ?_
         (try simp only [zP, zQ, zS, zZ, zN])
         refine tkp 27 ⟨hF31.blk (i := 0) rfl, hF31.blk (i := 1) rfl, hrn.out.onG hF31 hg hB⟩ ?_
         (try simp only [zP, zQ, zS, zZ, zN])
         refine tkp 28 ⟨hF31.blk (i := 0) rfl, hF31.blk (i := 1) rfl, hrn.out.onG hF31 hg hB⟩ ?_
         (try simp only [zP, zQ, zS, zZ, zN])
         refine rdy1 29 (fun K hK => ?_)
         refine stp (by with_unfolding_all rfl) (wp_call Tryz.func83 rfl (by with_unfolding_all rfl) (by with_unfolding_all rfl) (by with_unfolding_all rfl) (ihc.out _ hF31) ?_)
         rintro e w33 ⟨m33, rfl, hv33⟩
         refine ⟨_, rfl, ?_⟩
         have hF33 := hF31.putF (i := 2) rfl hv33
         simp only [zZ, zN] at hF33
         refine hK.out _ _ (⟨hF33.blk (i := 0) rfl, hF33.blk (i := 1) rfl, hrn.out.onG hF33 hg hB⟩) (fun _ => ?_)
         clear hK K
         (try simp only [zP, zQ, zS, zZ, zN])
         refine tkp 30 ⟨hF33.blk (i := 0) rfl, hF33.blk (i := 1) rfl, hrn.out.onG hF33 hg hB⟩ ?_
         (try simp only [zP, zQ, zS, zZ, zN])
         refine tkp 31 ⟨hF33.blk (i := 0) rfl, hF33.blk (i := 1) rfl, hrn.out.onG hF33 hg hB⟩ ?_
         (try simp only [zP, zQ, zS, zZ, zN])
         refine wpAnyH_done (by kernel_rfl) ?_ _
         go_wp2_with fail
         go_ret
         exact ⟨m33, by rw [hjr.out]; rfl, (fun x h => by rw [hjr.out] at h; cases h), hF33.tail.tail⟩
        | some x =>
         have hx4 := jRight_le vi mm x hmm hc
         rw [hc] at hst
         have hgo := box hst
         have ihc := box (fun w' {es : List Ent} {cs2 : List Value} (hF : Fr [gi] w w' (.blk g6 76 cs2 :: .blk g1 76 (vlL 6 n ⟨t.toArray⟩ (.slice An nn cn) (.slice Ak nk ck)) :: .blk gi 3 [.int .i64 (mm : Int)] :: es)) => (ihc.out g6 w' hF).mono (fun e w'' h => right_some h hc))
         clear hst
         refine wp_region_held (S := fun w' => w'.heap[g6]? = some (.cells (List.toArray ci) 76 (0, 0)) ∧ w'.heap[g1]? = some (.cells (List.toArray (vlL 6 n ⟨t.toArray⟩ (.slice An nn cn) (.slice Ak nk ck))) 76 (0, 0)) ∧ Rd w' (· < B) An 1 nn (ns.map strv)) (by kernel_rfl) ?_
         change wpAnyH _ _ _ _ _ _ _ _ (World.drew _)
         refine tkp 0 ⟨hFd.blk (i := 0) rfl, hFd.blk (i := 1) rfl, hrn.out.onG hFd hg hB⟩ ?_
         (try simp only [zP, zQ, zS, zZ, zN])
         refine tky 1 (y := yi_fld (by with_unfolding_all rfl) (fun _ h => h.2.1) uq3 rfl (by with_unfolding_all exact ⟨_, rfl, rfl⟩) rfl) (s := ⟨hFd.blk (i := 0) rfl, hFd.blk (i := 1) rfl, hrn.out.onG hFd hg hB⟩) (h := ?_)
         (try simp only [zP, zQ, zS, zZ, zN])
         refine tkp 2 ⟨hFd.blk (i := 0) rfl, hFd.blk (i := 1) rfl, hrn.out.onG hFd hg hB⟩ ?_
         (try simp only [zP, zQ, zS, zZ, zN])
         refine tkp 3 ⟨hFd.blk (i := 0) rfl, hFd.blk (i := 1) rfl, hrn.out.onG hFd hg hB⟩ ?_
         (try simp only [zP, zQ, zS, zZ, zN])
         refine tkp 4 ⟨hFd.blk (i := 0) rfl, hFd.blk (i := 1) rfl, hrn.out.onG hFd hg hB⟩ ?_
         (try simp only [zP, zQ, zS, zZ, zN])
         refine tky 5 (y := yi_fld (by with_unfolding_all rfl) (fun _ h => h.2.1) uq48 rfl (by with_unfolding_all exact ⟨_, rfl, rfl⟩) rfl) (s := ⟨hFd.blk (i := 0) rfl, hFd.blk (i := 1) rfl, hrn.out.onG hFd hg hB⟩) (h := ?_)
         (try simp only [zP, zQ, zS, zZ, zN])
         refine tkp 6 ⟨hFd.blk (i := 0) rfl, hFd.blk (i := 1) rfl, hrn.out.onG hFd hg hB⟩ ?_
         (try simp only [zP, zQ, zS, zZ, zN])
         refine tky 7 (y := yi_ix (by with_unfolding_all rfl) T_strs (fun h => hrn.out.some_ h) (k := i) (by with_unfolding_all exact ⟨_, _, _, _, rfl, rfl, rfl⟩) rfl (by omega)) (s := ⟨hFd.blk (i := 0) rfl, hFd.blk (i := 1) rfl, hrn.out.onG hFd hg hB⟩) (h := ?_)
         (try simp only [zP, zQ, zS, zZ, zN])
         refine tky 8 (y := yi_ld (by with_unfolding_all rfl) (j := i * 1) (fun _ h => h.2.2) uq9 rfl (by with_unfolding_all exact ⟨_, rfl, rfl⟩) (by rw [Nat.mul_one]; exact hss.out)) (s := ⟨hFd.blk (i := 0) rfl, hFd.blk (i := 1) rfl, hrn.out.onG hFd hg hB⟩) (h := ?_)
         (try simp only [zP, zQ, zS, zZ, zN])
         refine rdy1 9 (fun K hK => ?_)
         refine stp (by with_unfolding_all rfl) (wp_call Tryz.func112 rfl (by with_unfolding_all rfl) (by with_unfolding_all rfl) (by with_unfolding_all rfl) (hvn.out _ hFd) ?_)
         rintro e w31 ⟨rfl, hb31⟩
         refine ⟨_, rfl, ?_⟩
         have hF31 := hFd.call hb31
         refine hK.out _ _ (⟨hF31.blk (i := 0) rfl, hF31.blk (i := 1) rfl, hrn.out.onG hF31 hg hB⟩) (fun _ => ?_)
         clear hK K
         (try simp only [zP, zQ, zS, zZ, zN])
         refine tkp 10 ⟨hF31.blk (i := 0) rfl, hF31.blk (i := 1) rfl, hrn.out.onG hF31 hg hB⟩ ?_
         (try simp only [zP, zQ, zS, zZ, zN])
         refine tkp 11 ⟨hF31.blk (i := 0) rfl, hF31.blk (i := 1) rfl, hrn.out.onG hF31 hg hB⟩ ?_
         (try simp only [zP, zQ, zS, zZ, zN])
         refine tkp 12 ⟨hF31.blk (i := 0) rfl, hF31.blk (i := 1) rfl, hrn.out.onG hF31 hg hB⟩ ?_
         (try simp only [zP, zQ, zS, zZ, zN])
         refine tky 13 (y := yi_fld (by with_unfolding_all rfl) (fun _ h => h.2.1) uq48 rfl (by with_unfolding_all exact ⟨_, rfl, rfl⟩) rfl) (s := ⟨hF31.blk (i := 0) rfl, hF31.blk (i := 1) rfl, hrn.out.onG hF31 hg hB⟩) (h := ?_)
         (try simp only [zP, zQ, zS, zZ, zN])
         refine tkp 14 ⟨hF31.blk (i := 0) rfl, hF31.blk (i := 1) rfl, hrn.out.onG hF31 hg hB⟩ ?_
         (try simp only [zP, zQ, zS, zZ, zN])
         refine tky 15 (y := yi_pre (by with_unfolding_all rfl) T_strs (by with_unfolding_all exact ⟨_, _, _, rfl, rfl, rfl⟩) (by omega) (by omega)) (s := ⟨hF31.blk (i := 0) rfl, hF31.blk (i := 1) rfl, hrn.out.onG hF31 hg hB⟩) (h := ?_)
         (try simp only [zP, zQ, zS, zZ, zN])
         refine tkp 16 ⟨hF31.blk (i := 0) rfl, hF31.blk (i := 1) rfl, hrn.out.onG hF31 hg hB⟩ ?_
         (try simp only [zP, zQ, zS, zZ, zN])
         refine tky 17 (y := yi_fld (by with_unfolding_all rfl) (fun _ h => h.2.1) uq48 rfl (by with_unfolding_all exact ⟨_, rfl, rfl⟩) rfl) (s := ⟨hF31.blk (i := 0) rfl, hF31.blk (i := 1) rfl, hrn.out.onG hF31 hg hB⟩) (h := ?_)
         (try simp only [zP, zQ, zS, zZ, zN])
         refine tkp 18 ⟨hF31.blk (i := 0) rfl, hF31.blk (i := 1) rfl, hrn.out.onG hF31 hg hB⟩ ?_
         (try simp only [zP, zQ, zS, zZ, zN])
         refine tky 19 (y := yi_ix (by with_unfolding_all rfl) T_strs (fun h => hrn.out.some_ h) (k := i) (by with_unfolding_all exact ⟨_, _, _, _, rfl, rfl, rfl⟩) rfl (by omega)) (s := ⟨hF31.blk (i := 0) rfl, hF31.blk (i := 1) rfl, hrn.out.onG hF31 hg hB⟩) (h := ?_)
         (try simp only [zP, zQ, zS, zZ, zN])
         refine tky 20 (y := yi_ld (by with_unfolding_all rfl) (j := i * 1) (fun _ h => h.2.2) uq9 rfl (by with_unfolding_all exact ⟨_, rfl, rfl⟩) (by rw [Nat.mul_one]; exact hss.out)) (s := ⟨hF31.blk (i := 0) rfl, hF31.blk (i := 1) rfl, hrn.out.onG hF31 hg hB⟩) (h := ?_)
         (try simp only [zP, zQ, zS, zZ, zN])
         refine rdy1 21 (fun K hK => ?_)
         refine stp (by with_unfolding_all rfl) (wp_call Tryz.func114 rfl (by with_unfolding_all rfl) (by with_unfolding_all rfl) (by with_unfolding_all rfl) (hhs.out _ hF31) ?_)
         rintro e w32 ⟨rfl, rfl⟩
         refine ⟨_, rfl, ?_⟩
         refine hK.out _ _ (⟨hF31.blk (i := 0) rfl, hF31.blk (i := 1) rfl, hrn.out.onG hF31 hg hB⟩) (fun _ => ?_)
         clear hK K
         (try simp only [zP, zQ, zS, zZ, zN])
         refine tkp 22 ⟨hF31.blk (i := 0) rfl, hF31.blk (i := 1) rfl, hrn.out.onG hF31 hg hB⟩ ?_
         (try simp only [zP, zQ, zS, zZ, zN])
         refine tkp 23 ⟨hF31.blk (i := 0) rfl, hF31.blk (i := 1) rfl, hrn.out.onG hF31 hg hB⟩ ?_
         (try simp only [zP, zQ, zS, zZ, zN])
         refine tkp 24 ⟨hF31.blk (i := 0) rfl, hF31.blk (i := 1) rfl, hrn.out.onG hF31 hg hB⟩ ?_
         (try simp only [zP, zQ, zS, zZ, zN])
         refine tky 25 (y := yi_fldA (by with_unfolding_all rfl) (fun _ h => h.1) uq76 rfl (by with_unfolding_all exact ⟨_, rfl, rfl⟩) (ds := ci) (by rw [hcil.out]; kernel_rfl) (by rw [hcil.out]; exact take_all5 hcil.out)) (s := ⟨hF31.blk (i := 0) rfl, hF31.blk (i := 1) rfl, hrn.out.onG hF31 hg hB⟩) (h := ?_)
         (try simp only [zP, zQ, zS, zZ, zN])
         refine tkp 26 ⟨hF31.blk (i := 0) rfl, hF31.blk (i := 1) rfl, hrn.out.onG hF31 hg hB⟩ ?_
         (try simp only [zP, zQ, zS, zZ, zN])
         refine tkp 27 ⟨hF31.blk (i := 0) rfl, hF31.blk (i := 1) rfl, hrn.out.onG hF31 hg hB⟩ ?_
         (try simp only [zP, zQ, zS, zZ, zN])
         refine tkp 28 ⟨hF31.blk (i := 0) rfl, hF31.blk (i := 1) rfl, hrn.out.onG hF31 hg hB⟩ ?_
         (try simp only [zP, zQ, zS, zZ, zN])
         refine rdy1 29 (fun K hK => ?_)
         refine stp (by with_unfolding_all rfl) (wp_call Tryz.func83 rfl (by with_unfolding_all rfl) (by with_unfolding_all rfl) (by with_unfolding_all rfl) (ihc.out _ hF31) ?_)
         rintro e w33 ⟨rfl, hv33⟩
         refine ⟨_, rfl, ?_⟩
         have hF33 := hF31.putF (i := 2) rfl hv33
         simp only [zZ, zN] at hF33
         refine hK.out _ _ (⟨hF33.blk (i := 0) rfl, hF33.blk (i := 1) rfl, hrn.out.onG hF33 hg hB⟩) (fun _ => ?_)
         clear hK K
         (try simp only [zP, zQ, zS, zZ, zN])
         refine tkp 30 ⟨hF33.blk (i := 0) rfl, hF33.blk (i := 1) rfl, hrn.out.onG hF33 hg hB⟩ ?_
         (try simp only [zP, zQ, zS, zZ, zN])
         refine tkp 31 ⟨hF33.blk (i := 0) rfl, hF33.blk (i := 1) rfl, hrn.out.onG hF33 hg hB⟩ ?_
         (try simp only [zP, zQ, zS, zZ, zN])
         refine wpAnyH_done (by kernel_rfl) ?_ _
         go_wp2_with fail
         go_roundg (nk - (i + 1))
         case rel => exact ⟨i + 1, x, by omega, hx4, box rfl, by go_num, hgo, hF33.tail⟩
         case measure => have := hkf.out; omega
     ·have hin : nk = i := by omega
      subst hin
      have hjr : Box (jRight (d + 1) (.mk 6 n t ns ks) m = some mm) := box (by
       rw [hJ.out, List.drop_of_length_le (l := ks) (by rw [hnk.out]; exact Nat.le_refl _), jRightL])
      clear hJ hkf
      go_wp2_with fail
      go_ret
      exact ⟨mm, by rw [hjr.out]; rfl, (fun x h => by rw [hjr.out] at h; injection h), hF.tail⟩
   ·have hjr : Box (jRight (d + 1) (.mk 6 n t ns ks) m = none) := box (by rw [jRight, if_neg hnb, if_neg (by decide), if_pos ⟨rfl, by rw [hnn.out, hnk.out]; exact hne⟩])
    have c1 : ¬ 4096 < m + 1 := fun h => hnb (.inl h)
    have hvt : Lib.validD t = true := by cases hv : Lib.validD t; exact absurd (.inr (.inr (.inr (.inl hv)))) hnb; rfl
    have c4 : ¬ 9007199254740991 < n := fun h => hnb (.inr (.inr (.inr (.inr (.inl h)))))
    have c5 : ¬ n < -9007199254740991 := fun h => hnb (.inr (.inr (.inr (.inr (.inr h)))))
    have d1 : decide ((4096 : Int) < (m : Int) + 1) = false := decide_eq_false (by omega)
    have d4 : decide ((9007199254740991 : Int) < n) = false := decide_eq_false c4
    have d5 : decide (n < (-9007199254740991 : Int)) = false := decide_eq_false c5
    rw [hvt] at hvs
    have hm1 : m + 1 ≤ 4096 := by omega
    replace c1 := box c1
    replace c4 := box c4
    replace c5 := box c5
    replace hvt := box hvt
    replace hnb := box hnb
    have hd16 : ((deep : Int) == 16) = false := by rw [beq_eq_false_iff_ne]; omega
    have hne2 : ((nn : Int) != (nk : Int)) = true := by rw [bne_iff_ne]; omega
    replace hne := box hne
    go_enter Tryz.func83, Tryz.ntmps83
    go_wp2_with (first | ((with_reducible refine lsx (wp_fbox hF0 (cs := (vlL 6 n ⟨t.toArray⟩ (.slice An nn cn) (.slice Ak nk ck))) rfl (by with_unfolding_all rfl) (by with_unfolding_all rfl) ?_)); intro w1 g1 hF1 hz1) | (with_reducible refine lsx (wp_fld1 hF1 uq3 rfl (by with_unfolding_all exact ⟨_, rfl, rfl⟩) rfl ?_)) | ((with_reducible refine lsx (wp_fst1 hF1 (by with_unfolding_all exact ⟨_, _, rfl, rfl, rfl⟩) (by kernel_rfl) rfl rfl (by first | decide | (simp; done) | (simp; omega)) (spl1' _ (.int .i64 ((m : Int) + 1))) ?_)); intro w2 hF2 hz2) | (with_reducible refine lsx (wp_fld1 hF2 uq3 rfl (by with_unfolding_all exact ⟨_, rfl, rfl⟩) rfl ?_)) | (with_reducible refine lsx (wp_fld0 hF2 uq3 rfl (by with_unfolding_all exact ⟨_, rfl, rfl⟩) rfl ?_)) | (with_reducible refine lsx (wp_fld0 hF2 uq9 rfl (by with_unfolding_all exact ⟨_, rfl, rfl⟩) rfl ?_)))
    refine (hvs.out _ hF2).mono ?_
    rintro e w3 ⟨rfl, hb3⟩
    have hF3 := hF2.call hb3
    go_wp2_with (first | (with_reducible refine lsx (wp_fld0 hF3 uq3 rfl (by with_unfolding_all exact ⟨_, rfl, rfl⟩) rfl ?_)) | (with_reducible refine lsx (wp_fld0 hF3 uq48 rfl (by with_unfolding_all exact ⟨_, rfl, rfl⟩) rfl ?_)) | (with_reducible refine lsx (wp_fld0 hF3 uq74 rfl (by with_unfolding_all exact ⟨_, rfl, rfl⟩) rfl ?_)))
    go_ret
    exact ⟨m + 1, by rw [hjr.out]; rfl, (fun x h => by rw [hjr.out] at h; cases h), hF3.tail⟩
end Go.Proofs.YtlhicfpmlncomaaGreatDoor
