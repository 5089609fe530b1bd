/-
 Layer 6: the document's lay, walked.
 What the second form's bound gives of a slice: its room.
 From what the form reads of structs that came in to the words of the walks: parts of the cells, one by one. No program is named here.
 A slice of any elements that came in. No program is named here.
 Layer 6: a value that came in. No program is named here.
 Layer 6: the walk of the program's Write.
-/
import Derived.Test.YtlhicfpmlncomaaGreatDoorH16
import Derived.Test.YtlhicfpmlncomaaGreatDoorH02
import Derived.Test.YtlhicfpmlncomaaGreatDoorRows
import Derived.Test.YtlhicfpmlncomaaGreatDoorH01
namespace Go.Proofs.YtlhicfpmlncomaaGreatDoor
open Go.RowKit
set_option linter.unusedSimpArgs false
mutual
/-- A value that the document may write: its kinds, its numbers, its members' names. -/
def JOk2 : JV → Prop
 | .mk k n _ ns ks => (k = 0 ∨ k = 1 ∨ k = 2 ∨ (k = 3 ∧ -9007199254740991 ≤ n ∧ n ≤ 9007199254740991) ∨ k = 4) ∨ (k = 5 ∧ JOk2L ks) ∨ (k = 6 ∧ ns.length = ks.length ∧ JOk2L ks)
def JOk2L : List JV → Prop
 | [] => True
 | v :: vs => JOk2 v ∧ JOk2L vs
end
theorem JOk2L.at : ∀ {ks : List JV} {i : Nat} {v : JV}, JOk2L ks → ks[i]? = some v → JOk2 v
 | [], _, _, _, hv => by cases hv
 | k :: ks, i, v, h, hv => by
  rw [JOk2L] at h
  cases i with
  | zero => injection hv with hv; subst hv; exact h.1
  | succ i => exact JOk2L.at h.2 (by simpa using hv)
set_option maxRecDepth 20000 in
set_option maxHeartbeats 12800000 in
theorem rlay_leaf (w0 w : World) (k n : Int) (t : List UInt8) (ns : List (List UInt8)) (ks : List JV) (An : Option Addr) (nn cn : Nat) (Ak : Option Addr) (nk ck : Nat) (A : Option Addr) (c : Nat) (out : List UInt8) (rest : List Ent) (hk4 : k = 0 ∨ k = 1 ∨ k = 2 ∨ (k = 3 ∧ -9007199254740991 ≤ n ∧ n ≤ 9007199254740991) ∨ k = 4)
  (hroom : out.length + 6 * (jFull (.mk k n t ns ks)).length ≤ 140737480000000) (hF : Fr [] w0 w (Ent.bytes w0.heap.size 5 (.slice A out.length c) out :: rest)) :
  Calls Tryz.prog 75 #[.slice A out.length c, .agg (vlL k n ⟨t.toArray⟩ (.slice An nn cn) (.slice Ak nk ck)).toArray] w (WrPost w0 rest (out ++ jFull (.mk k n t ns ks))) := by
  rcases hk4 with hk | hk | hk | ⟨hk, hn0, hn1⟩ | hk
  ·subst hk
   have hfu : Box (jFull (.mk 0 n t ns ks) = [110, 117, 108, 108]) := box (by rw [jFull]; rfl)
   rw [hfu.out] at hroom
   have hwd : Box (([.string ⟨#[110, 117, 108, 108]⟩, .string ⟨#[102, 97, 108, 115, 101]⟩, .string ⟨#[116, 114, 117, 101]⟩] : List Value)[0]? = some (.string ⟨#[110, 117, 108, 108]⟩)) := box rfl
   go_enter Tryz.func75, Tryz.ntmps75
   go_wp2_with (first | ((with_reducible refine lst (by with_unfolding_all rfl) (wp_fbox hF (cs := (vlL 0 n ⟨t.toArray⟩ (.slice An nn cn) (.slice Ak nk ck))) rfl (by with_unfolding_all rfl) (by with_unfolding_all rfl) ?_)); intro w1 g1 hF1 hz1) | ((with_reducible refine lst (by with_unfolding_all rfl) (wp_fbsl T_strs hF1 (vs := [.string ⟨#[110, 117, 108, 108]⟩, .string ⟨#[102, 97, 108, 115, 101]⟩, .string ⟨#[116, 114, 117, 101]⟩]) (by with_unfolding_all rfl) (by with_unfolding_all rfl) (by with_unfolding_all rfl) (by decide) (by simp [Value.cells]) ?_)); intro w2 g2 hF2 hz2) | (with_reducible refine lst (by with_unfolding_all rfl) (wp_fld1 hF2 Tryz.underlying3 rfl (by with_unfolding_all exact ⟨_, rfl, rfl⟩) rfl ?_)) | (with_reducible refine lst (by with_unfolding_all rfl) (wp_indexAddr T_strs (hF2.rdOwn (i := 0) rfl) (by with_unfolding_all exact ⟨_, _, _, _, rfl, rfl, rfl⟩) (by omega) (by omega) ?_)) | (with_reducible refine lst (by with_unfolding_all rfl) (wp_load1C (hF2.rdOwn (i := 0) rfl) hwd Tryz.underlying9 rfl (by with_unfolding_all exact ⟨_, rfl, rfl⟩) (by first | (simp; done) | (simp; omega) | omega) ?_)) | ((with_reducible refine lst (by with_unfolding_all rfl) (wp_fs2b T_u8 Tryz.underlying5 Tryz.underlying9 hF2 (by with_unfolding_all exact ⟨_, rfl, rfl⟩) ?_)); intro w3 g3 c3 hF3 hz3 hc3) | ((with_reducible refine lst (by with_unfolding_all rfl) (wp_fapp3 T_u8 hF3 (Nat.le_refl _) (hF3.rd (i := 0) rfl : Rd _ _ _ 1 4 (([110, 117, 108, 108] : List UInt8).map bv)) (by with_unfolding_all exact ⟨_, _, rfl, rfl, rfl⟩) (by simp at hroom; omega) ?_)); intro v4 w4 hF4 hz4))
   go_ret
   refine ⟨_, _, rfl, box ⟨Nat.le_refl _, .inl rfl⟩, ?_⟩
   rw [hfu.out]
   exact hF4.tail.tail.tail
  ·subst hk
   have hfu : Box (jFull (.mk 1 n t ns ks) = [102, 97, 108, 115, 101]) := box (by rw [jFull]; rfl)
   rw [hfu.out] at hroom
   have hwd : Box (([.string ⟨#[110, 117, 108, 108]⟩, .string ⟨#[102, 97, 108, 115, 101]⟩, .string ⟨#[116, 114, 117, 101]⟩] : List Value)[1]? = some (.string ⟨#[102, 97, 108, 115, 101]⟩)) := box rfl
   go_enter Tryz.func75, Tryz.ntmps75
   go_wp2_with (first | ((with_reducible refine lst (by with_unfolding_all rfl) (wp_fbox hF (cs := (vlL 1 n ⟨t.toArray⟩ (.slice An nn cn) (.slice Ak nk ck))) rfl (by with_unfolding_all rfl) (by with_unfolding_all rfl) ?_)); intro w1 g1 hF1 hz1) | ((with_reducible refine lst (by with_unfolding_all rfl) (wp_fbsl T_strs hF1 (vs := [.string ⟨#[110, 117, 108, 108]⟩, .string ⟨#[102, 97, 108, 115, 101]⟩, .string ⟨#[116, 114, 117, 101]⟩]) (by with_unfolding_all rfl) (by with_unfolding_all rfl) (by with_unfolding_all rfl) (by decide) (by simp [Value.cells]) ?_)); intro w2 g2 hF2 hz2) | (with_reducible refine lst (by with_unfolding_all rfl) (wp_fld1 hF2 Tryz.underlying3 rfl (by with_unfolding_all exact ⟨_, rfl, rfl⟩) rfl ?_)) | (with_reducible refine lst (by with_unfolding_all rfl) (wp_indexAddr T_strs (hF2.rdOwn (i := 0) rfl) (by with_unfolding_all exact ⟨_, _, _, _, rfl, rfl, rfl⟩) (by omega) (by omega) ?_)) | (with_reducible refine lst (by with_unfolding_all rfl) (wp_load1C (hF2.rdOwn (i := 0) rfl) hwd Tryz.underlying9 rfl (by with_unfolding_all exact ⟨_, rfl, rfl⟩) (by first | (simp; done) | (simp; omega) | omega) ?_)) | ((with_reducible refine lst (by with_unfolding_all rfl) (wp_fs2b T_u8 Tryz.underlying5 Tryz.underlying9 hF2 (by with_unfolding_all exact ⟨_, rfl, rfl⟩) ?_)); intro w3 g3 c3 hF3 hz3 hc3) | ((with_reducible refine lst (by with_unfolding_all rfl) (wp_fapp3 T_u8 hF3 (Nat.le_refl _) (hF3.rd (i := 0) rfl : Rd _ _ _ 1 5 (([102, 97, 108, 115, 101] : List UInt8).map bv)) (by with_unfolding_all exact ⟨_, _, rfl, rfl, rfl⟩) (by simp at hroom; omega) ?_)); intro v4 w4 hF4 hz4))
   go_ret
   refine ⟨_, _, rfl, box ⟨Nat.le_refl _, .inl rfl⟩, ?_⟩
   rw [hfu.out]
   exact hF4.tail.tail.tail
  ·subst hk
   have hfu : Box (jFull (.mk 2 n t ns ks) = [116, 114, 117, 101]) := box (by rw [jFull]; rfl)
   rw [hfu.out] at hroom
   have hwd : Box (([.string ⟨#[110, 117, 108, 108]⟩, .string ⟨#[102, 97, 108, 115, 101]⟩, .string ⟨#[116, 114, 117, 101]⟩] : List Value)[2]? = some (.string ⟨#[116, 114, 117, 101]⟩)) := box rfl
   go_enter Tryz.func75, Tryz.ntmps75
   go_wp2_with (first | ((with_reducible refine lst (by with_unfolding_all rfl) (wp_fbox hF (cs := (vlL 2 n ⟨t.toArray⟩ (.slice An nn cn) (.slice Ak nk ck))) rfl (by with_unfolding_all rfl) (by with_unfolding_all rfl) ?_)); intro w1 g1 hF1 hz1) | ((with_reducible refine lst (by with_unfolding_all rfl) (wp_fbsl T_strs hF1 (vs := [.string ⟨#[110, 117, 108, 108]⟩, .string ⟨#[102, 97, 108, 115, 101]⟩, .string ⟨#[116, 114, 117, 101]⟩]) (by with_unfolding_all rfl) (by with_unfolding_all rfl) (by with_unfolding_all rfl) (by decide) (by simp [Value.cells]) ?_)); intro w2 g2 hF2 hz2) | (with_reducible refine lst (by with_unfolding_all rfl) (wp_fld1 hF2 Tryz.underlying3 rfl (by with_unfolding_all exact ⟨_, rfl, rfl⟩) rfl ?_)) | (with_reducible refine lst (by with_unfolding_all rfl) (wp_indexAddr T_strs (hF2.rdOwn (i := 0) rfl) (by with_unfolding_all exact ⟨_, _, _, _, rfl, rfl, rfl⟩) (by omega) (by omega) ?_)) | (with_reducible refine lst (by with_unfolding_all rfl) (wp_load1C (hF2.rdOwn (i := 0) rfl) hwd Tryz.underlying9 rfl (by with_unfolding_all exact ⟨_, rfl, rfl⟩) (by first | (simp; done) | (simp; omega) | omega) ?_)) | ((with_reducible refine lst (by with_unfolding_all rfl) (wp_fs2b T_u8 Tryz.underlying5 Tryz.underlying9 hF2 (by with_unfolding_all exact ⟨_, rfl, rfl⟩) ?_)); intro w3 g3 c3 hF3 hz3 hc3) | ((with_reducible refine lst (by with_unfolding_all rfl) (wp_fapp3 T_u8 hF3 (Nat.le_refl _) (hF3.rd (i := 0) rfl : Rd _ _ _ 1 4 (([116, 114, 117, 101] : List UInt8).map bv)) (by with_unfolding_all exact ⟨_, _, rfl, rfl, rfl⟩) (by simp at hroom; omega) ?_)); intro v4 w4 hF4 hz4))
   go_ret
   refine ⟨_, _, rfl, box ⟨Nat.le_refl _, .inl rfl⟩, ?_⟩
   rw [hfu.out]
   exact hF4.tail.tail.tail
  ·subst hk
   have hfu : Box (jFull (.mk 3 n t ns ks) = Lib.itoa n) := box (by rw [jFull]; rfl)
   rw [hfu.out] at hroom
   have hil := itoa_len (n := n) (by omega) (by omega)
   have hde := box (fun w' => rdec_any n w' hn0 hn1)
   replace hn0 := box hn0
   replace hn1 := box hn1
   go_enter Tryz.func75, Tryz.ntmps75
   go_wp2_with (first | ((with_reducible refine lst (by with_unfolding_all rfl) (wp_fbox hF (cs := (vlL 3 n ⟨t.toArray⟩ (.slice An nn cn) (.slice Ak nk ck))) rfl (by with_unfolding_all rfl) (by with_unfolding_all rfl) ?_)); intro w1 g1 hF1 hz1) | ((with_reducible refine lst (by with_unfolding_all rfl) (wp_fbsl T_strs hF1 (vs := [.string ⟨#[110, 117, 108, 108]⟩, .string ⟨#[102, 97, 108, 115, 101]⟩, .string ⟨#[116, 114, 117, 101]⟩]) (by with_unfolding_all rfl) (by with_unfolding_all rfl) (by with_unfolding_all rfl) (by decide) (by simp [Value.cells]) ?_)); intro w2 g2 hF2 hz2) | (with_reducible refine lst (by with_unfolding_all rfl) (wp_fld1 hF2 Tryz.underlying3 rfl (by with_unfolding_all exact ⟨_, rfl, rfl⟩) rfl ?_)))
   refine (hde.out _).mono ?_
   rintro e w3 ⟨rfl, hb3⟩
   have hF3 := hF2.call hb3
   obtain ⟨I, hI⟩ : ∃ I, I = Lib.itoa n := ⟨_, rfl⟩
   rw [← hI] at hil hfu hroom
   rw [← hI]
   replace hI := box hI
   go_wp2_with (first | ((with_reducible refine lst (by with_unfolding_all rfl) (wp_fs2b T_u8 Tryz.underlying5 Tryz.underlying9 hF3 (by with_unfolding_all exact ⟨_, rfl, rfl⟩) ?_)); intro w4 g4 c4 hF4 hz4 hc4) | ((with_reducible refine lst (by with_unfolding_all rfl) (wp_fapp3 T_u8 hF4 (Nat.le_refl _) (by have h := hF4.rd (i := 0) rfl; rw [str_mk_size] at h; exact (h : Rd _ _ _ 1 I.length (I.map bv))) (by with_unfolding_all exact ⟨_, _, rfl, rfl, rfl⟩) (by omega) ?_)); intro v5 w5 hF5 hz5))
   go_ret
   refine ⟨_, _, rfl, box ⟨Nat.le_refl _, .inl rfl⟩, ?_⟩
   rw [hfu.out]
   exact hF5.tail.tail.tail
  ·subst hk
   have hfu : Box (jFull (.mk 4 n t ns ks) = jQuote t) := box (by rw [jFull]; rfl)
   rw [hfu.out] at hroom
   have hqg := jQuote_ge t
   go_enter Tryz.func75, Tryz.ntmps75
   go_wp2_with (first | ((with_reducible refine lst (by with_unfolding_all rfl) (wp_fbox hF (cs := (vlL 4 n ⟨t.toArray⟩ (.slice An nn cn) (.slice Ak nk ck))) rfl (by with_unfolding_all rfl) (by with_unfolding_all rfl) ?_)); intro w1 g1 hF1 hz1) | ((with_reducible refine lst (by with_unfolding_all rfl) (wp_fbsl T_strs hF1 (vs := [.string ⟨#[110, 117, 108, 108]⟩, .string ⟨#[102, 97, 108, 115, 101]⟩, .string ⟨#[116, 114, 117, 101]⟩]) (by with_unfolding_all rfl) (by with_unfolding_all rfl) (by with_unfolding_all rfl) (by decide) (by simp [Value.cells]) ?_)); intro w2 g2 hF2 hz2) | (with_reducible refine lst (by with_unfolding_all rfl) (wp_fld1 hF2 Tryz.underlying3 rfl (by with_unfolding_all exact ⟨_, rfl, rfl⟩) rfl ?_)) | (with_reducible refine lst (by with_unfolding_all rfl) (wp_fld1 hF2 Tryz.underlying9 rfl (by with_unfolding_all exact ⟨_, rfl, rfl⟩) rfl ?_)))
   have hF3 := hF2.perm ((List.Perm.swap _ _ _).trans ((List.Perm.swap _ _ _).cons _) |>.trans (List.Perm.swap _ _ _))
   have hq := rquote_any [] w0 w2 A c out _ ⟨t.toArray⟩ (by rw [str_mk_size]; omega) hF3
   refine hq.mono ?_
   rintro e w4 ⟨v4, rfl, hF4⟩
   clear hq
   go_wp2_with fail
   go_ret
   refine ⟨_, _, rfl, box ⟨Nat.le_refl _, .inl rfl⟩, ?_⟩
   rw [hfu.out]
   exact hF4.drop1.drop1
set_option maxRecDepth 20000 in
set_option maxHeartbeats 25600000 in
theorem rlay_any (N : Nat) : ∀ (v : JV) (cs : List Value) (w0 w : World) (A : Option Addr) (c : Nat) (out : List UInt8) (rest : List Ent), SizeOf.sizeOf v ≤ N → VRd w0 (· < w0.heap.size) v cs → JSm v → JOk2 v → out.length + 6 * (jFull v).length ≤ 140737480000000 →
  Fr [] w0 w (Ent.bytes w0.heap.size 5 (.slice A out.length c) out :: rest) →
  Calls Tryz.prog 75 #[.slice A out.length c, .agg cs.toArray] w (WrPost w0 rest (out ++ jFull v)) := by
 induction N with
 | zero => intro v _ _ _ _ _ _ _ h; cases v; simp only [JV.mk.sizeOf_spec] at h; omega
 | succ N ih =>
  intro v cs w0 w A c out rest hN hv hsm hok hroom hF
  obtain ⟨k, n, t, ns, ks⟩ := v
  rw [VRd] at hv
  obtain ⟨An, nn, cn, Ak, nk, ck, xk, hcn, hck, rfl, hrn, hrk, hvk⟩ := hv
  rw [JSm] at hsm
  obtain ⟨hs1, hs2, hs3⟩ := hsm
  have hnk : ks.length = nk := by have := hrk.len; rw [hvk.len] at this; omega
  rw [hnk] at hs2
  replace hnk := box hnk
  replace hvk := box hvk
  replace hs3 := box hs3
  replace hN := box hN
  replace hrn := box hrn
  replace hrk := box hrk
  have hnn : ns.length = nn := by have := hrn.out.len; simpa using this
  rw [hnn] at hs1
  replace hnn := box hnn
  rw [JOk2] at hok
  rcases hok with hk | hk | hk
  ·exact rlay_leaf w0 w k n t ns ks An nn cn Ak nk ck A c out rest hk hroom hF
  ·obtain ⟨rfl, hok⟩ := hk
   replace hok := box hok
   have hfu : Box (jFull (.mk 5 n t ns ks) = [91] ++ jFullL false false ns ks ++ [93]) := box (by rw [jFull]; rfl)
   obtain ⟨FU, hFU⟩ : ∃ FU, FU = jFull (.mk 5 n t ns ks) := ⟨_, rfl⟩
   rw [← hFU] at hroom hfu
   rw [← hFU]
   have hFl1 : 1 ≤ FU.length := by rw [hfu.out]; simp
   clear hFU
   go_enter Tryz.func75, Tryz.ntmps75
   go_wp2_with (first | ((with_reducible refine lst (by with_unfolding_all rfl) (wp_fbox hF (cs := (vlL 5 n ⟨t.toArray⟩ (.slice An nn cn) (.slice Ak nk ck))) rfl (by with_unfolding_all rfl) (by with_unfolding_all rfl) ?_)); intro w1 g1 hF1 hz1) | ((with_reducible refine lst (by with_unfolding_all rfl) (wp_fbsl T_strs hF1 (vs := [.string ⟨#[110, 117, 108, 108]⟩, .string ⟨#[102, 97, 108, 115, 101]⟩, .string ⟨#[116, 114, 117, 101]⟩]) (by with_unfolding_all rfl) (by with_unfolding_all rfl) (by with_unfolding_all rfl) (by decide) (by simp [Value.cells]) ?_)); intro w2 g2 hF2 hz2) | (with_reducible refine lst (by with_unfolding_all rfl) (wp_fld1 hF2 Tryz.underlying3 rfl (by with_unfolding_all exact ⟨_, rfl, rfl⟩) rfl ?_)) | ((with_reducible refine lst (by with_unfolding_all rfl) (wp_fbsl T_u8 hF2 (vs := [bv 91]) (by with_unfolding_all rfl) (by with_unfolding_all rfl) (by with_unfolding_all rfl) (by decide) (by simp [bv, Value.cells]) ?_)); intro w3 g3 hF3 hz3; have hr3 : Rd w3 (· < w3.heap.size) (some ⟨g3, 0, none⟩) 1 1 ([91].map bv) := hF3.rdOwn0; replace hF3 : Fr _ _ w3 (Ent.bytes _ 5 (.slice (some ⟨g3, 0, none⟩) 1 1) [91] :: _) := hF3) | ((with_reducible refine lst (by with_unfolding_all rfl) (wp_fapp3 T_u8 hF3 (Nat.le_refl _) hr3 (by with_unfolding_all exact ⟨_, _, rfl, rfl, rfl⟩) (by omega) ?_)); intro v4 w4 hF4 hz4))
   have hF5 := hF4.tail.tail.perm (List.Perm.swap _ _ _)
   clear hF hF1 hF2 hF3 hF4
   go_loopg [0, 8] nk (fun gk v s wr => ∃ (i : Nat) (P O : List UInt8), i ≤ nk ∧ Box (gk = nk - i) ∧ s = .int .i64 (i : Int) ∧ Box (out ++ FU = P ++ jFullL false (decide (0 < i)) (ns.drop i) (ks.drop i) ++ [93]) ∧ out.length ≤ P.length ∧ Box (O.length ≤ P.length ∧ (O = P ∨ 65536 < O.length)) ∧ Fr [] w0 wr (Ent.bytes w0.heap.size 5 v O :: .blk g1 51 (vlL 5 n ⟨t.toArray⟩ (.slice An nn cn) (.slice Ak nk ck)) :: rest))
   case atStart => exact ⟨0, out ++ [91], out ++ [91], by omega, box rfl, rfl, box (by rw [hfu.out]; simp), by simp, box ⟨Nat.le_refl _, .inl rfl⟩, hF5⟩
   case round =>
    clear hF5
    obtain ⟨i, P, O, hi, hk, rfl, hfull, hoP, hO, hF⟩ := hrel
    have hkf : Box (gk = nk - i) := hk
    clear hk
    obtain ⟨Ao, co, rfl, hco, hro⟩ := (hF.own (i := 0) rfl).arg
    have hPl : P.length + 1 ≤ out.length + FU.length := by have := congrArg List.length hfull.out; simp only [List.length_append, List.length_cons, List.length_nil] at this; omega
    have hOl : O.length ≤ P.length := hO.out.1
    by_cases hlt : i < nk
    ·by_cases hbig : 65536 < O.length
     ·have d1 : decide ((O.length : Int) ≤ 65536) = false := decide_eq_false (by omega)
      have hkl : Box (jFullL false (decide (0 < i)) (ns.drop i) (ks.drop i) ≠ [] ∨ True) := box (.inr trivial)
      replace hbig := box hbig
      go_wp2_with (first | (with_reducible refine lst (by with_unfolding_all rfl) (wp_fld1 hF Tryz.underlying3 rfl (by with_unfolding_all exact ⟨_, rfl, rfl⟩) rfl ?_)) | (with_reducible refine lst (by with_unfolding_all rfl) (wp_fld1 hF Tryz.underlying48 rfl (by with_unfolding_all exact ⟨_, rfl, rfl⟩) rfl ?_)) | (with_reducible refine lst (by with_unfolding_all rfl) (wp_fld1 hF Tryz.underlying49 rfl (by with_unfolding_all exact ⟨_, rfl, rfl⟩) rfl ?_)) | ((with_reducible refine lst (by with_unfolding_all rfl) (wp_fbsl T_u8 hF (vs := [bv 93]) (by with_unfolding_all rfl) (by with_unfolding_all rfl) (by with_unfolding_all rfl) (by decide) (by simp [bv, Value.cells]) ?_)); intro w6 g6 hF6 hz6; have hr6 : Rd w6 (· < w6.heap.size) (some ⟨g6, 0, none⟩) 1 1 ([93].map bv) := hF6.rdOwn0; replace hF6 : Fr _ _ w6 (Ent.bytes _ 5 (.slice (some ⟨g6, 0, none⟩) 1 1) [93] :: _) := hF6) | ((with_reducible refine lst (by with_unfolding_all rfl) (wp_fapp1 T_u8 hF6 (Nat.le_refl _) hr6 (by with_unfolding_all exact ⟨_, _, rfl, rfl, rfl⟩) (by omega) ?_)); intro v7 w7 hF7 hz7))
      go_ret
      refine ⟨_, _, rfl, box ⟨?_, .inr (by have := hbig.out; simp only [List.length_append, List.length_cons, List.length_nil]; omega)⟩, hF7.tail.drop1⟩
      simp only [List.length_append, List.length_cons, List.length_nil]
      omega
     ·obtain ⟨vi, hvi⟩ : ∃ vi, ks[i]? = some vi := ⟨ks[i]'(by rw [hnk.out]; exact hlt), by simp⟩
      obtain ⟨ci, hci, hvri⟩ := hvk.out.at hvi
      have hcil := box hvri.len
      replace hci := box hci
      have hsi := box (hs3.out.at hvi)
      have hoki := box (hok.out.at hvi)
      have hsz : Box (SizeOf.sizeOf vi ≤ N) := box (by have := JV.size_kid (k := 5) (n := n) (t := t) (ns := ns) hvi; have := hN.out; omega)
      have hstep := box (hfull.out.trans (by rw [jFullL_drop hvi]))
      replace hvi := box hvi
      replace hvri := box hvri
      have hOP : O = P := hO.out.2.resolve_right hbig
      subst hOP
      have d1 : decide ((O.length : Int) ≤ 65536) = true := decide_eq_true (by omega)
      replace hbig := box hbig
      clear hO hfull
      by_cases h0 : 0 < i
      ·have hz : decide (0 < i) = true := decide_eq_true h0
       rw [hz] at hstep
       clear hz
       replace hstep : Box (out ++ FU = (O ++ [44]) ++ jFull vi ++ jFullL false true (ns.drop (i + 1)) (ks.drop (i + 1)) ++ [93]) := box (hstep.out.trans (by simp))
       have hrl : (O ++ [44]).length + (jFull vi).length + 1 ≤ out.length + FU.length := by have := congrArg List.length hstep.out; simp only [List.length_append, List.length_cons, List.length_nil] at this ⊢; omega
       have hbo : out.length ≤ (O ++ [44]).length := by first | omega | (simp only [List.length_append]; omega)
       go_wp2_with (first | (with_reducible refine lst (by with_unfolding_all rfl) (wp_fld1 hF Tryz.underlying3 rfl (by with_unfolding_all exact ⟨_, rfl, rfl⟩) rfl ?_)) | (with_reducible refine lst (by with_unfolding_all rfl) (wp_fld1 hF Tryz.underlying48 rfl (by with_unfolding_all exact ⟨_, rfl, rfl⟩) rfl ?_)) | (with_reducible refine lst (by with_unfolding_all rfl) (wp_fld1 hF Tryz.underlying49 rfl (by with_unfolding_all exact ⟨_, rfl, rfl⟩) rfl ?_)) | ((with_reducible refine lst (by with_unfolding_all rfl) (wp_fbsl T_u8 hF (vs := [bv 44]) (by with_unfolding_all rfl) (by with_unfolding_all rfl) (by with_unfolding_all rfl) (by decide) (by simp [bv, Value.cells]) ?_)); intro w8 g8 hF8 hz8; have hr8 : Rd w8 (· < w8.heap.size) (some ⟨g8, 0, none⟩) 1 1 ([44].map bv) := hF8.rdOwn0; replace hF8 : Fr _ _ w8 (Ent.bytes _ 5 (.slice (some ⟨g8, 0, none⟩) 1 1) [44] :: _) := hF8) | ((with_reducible refine lst (by with_unfolding_all rfl) (wp_fapp1 T_u8 hF8 (Nat.le_refl _) hr8 (by with_unfolding_all exact ⟨_, _, rfl, rfl, rfl⟩) (by omega) ?_)); intro v9 w9 hF9 hz9) | (with_reducible refine lst (by with_unfolding_all rfl) (wp_fld2 hF9 Tryz.underlying3 rfl (by with_unfolding_all exact ⟨_, rfl, rfl⟩) rfl ?_)) | (with_reducible refine lst (by with_unfolding_all rfl) (wp_fld2 hF9 Tryz.underlying48 rfl (by with_unfolding_all exact ⟨_, rfl, rfl⟩) rfl ?_)) | (with_reducible refine lst (by with_unfolding_all rfl) (wp_fld2 hF9 Tryz.underlying49 rfl (by with_unfolding_all exact ⟨_, rfl, rfl⟩) rfl ?_)) | (with_reducible refine lst (by with_unfolding_all rfl) (wp_fld2 hF9 Tryz.underlying3 rfl (by with_unfolding_all exact ⟨_, rfl, rfl⟩) rfl ?_)) | (with_reducible refine lst (by with_unfolding_all rfl) (wp_fld2 hF9 Tryz.underlying48 rfl (by with_unfolding_all exact ⟨_, rfl, rfl⟩) rfl ?_)) | (with_reducible refine lst (by with_unfolding_all rfl) (wp_fld2 hF9 Tryz.underlying49 rfl (by with_unfolding_all exact ⟨_, rfl, rfl⟩) rfl ?_)) | (with_reducible refine lst (by with_unfolding_all rfl) (wp_indexAddr T_rvals (hrk.out.below hF9.below) (by with_unfolding_all exact ⟨_, _, _, _, rfl, rfl, rfl⟩) (by omega) (by omega) ?_)) | (with_reducible refine lst (by with_unfolding_all rfl) (wp_loadA (hrk.out.below hF9.below) Tryz.underlying51 rfl (by with_unfolding_all exact ⟨_, rfl, rfl⟩) (ds := ci) (by rw [hcil.out]; kernel_rfl) (by rw [hcil.out]; with_unfolding_all exact hci.out) ?_)))
       have hF14 := hF9.tail
       obtain ⟨A14, c14, hv14, hc14, hr14⟩ := (hF14.own (i := 0) rfl).arg
       subst hv14
       have hwr := ih vi ci w0 _ _ _ (O ++ [44]) _ hsz.out hvri.out hsi.out hoki.out (by omega) hF14
       refine hwr.mono ?_
       rintro e w15 ⟨v15, l15, rfl, hl15, hF15⟩
       clear hwr
       go_wp2_with fail
       go_roundg (nk - (i + 1))
       case rel => exact ⟨i + 1, (O ++ [44]) ++ jFull vi, l15, by omega, box rfl, by go_num, box (by rw [hstep.out, decide_eq_true (Nat.succ_pos _)]), by rw [List.length_append]; omega, hl15, hF15⟩
       case measure => have := hkf.out; omega
      ·obtain rfl : i = 0 := by omega
       replace hstep : Box (out ++ FU = (O) ++ jFull vi ++ jFullL false true (ns.drop (0 + 1)) (ks.drop (0 + 1)) ++ [93]) := box (hstep.out.trans (by simp))
       have hrl : (O).length + (jFull vi).length + 1 ≤ out.length + FU.length := by have := congrArg List.length hstep.out; simp only [List.length_append, List.length_cons, List.length_nil] at this ⊢; omega
       have hbo : out.length ≤ (O).length := by first | omega | (simp only [List.length_append]; omega)
       go_wp2_with (first | (with_reducible refine lst (by with_unfolding_all rfl) (wp_fld1 hF Tryz.underlying3 rfl (by with_unfolding_all exact ⟨_, rfl, rfl⟩) rfl ?_)) | (with_reducible refine lst (by with_unfolding_all rfl) (wp_fld1 hF Tryz.underlying48 rfl (by with_unfolding_all exact ⟨_, rfl, rfl⟩) rfl ?_)) | (with_reducible refine lst (by with_unfolding_all rfl) (wp_fld1 hF Tryz.underlying49 rfl (by with_unfolding_all exact ⟨_, rfl, rfl⟩) rfl ?_)) | (with_reducible refine lst (by with_unfolding_all rfl) (wp_fld1 hF Tryz.underlying3 rfl (by with_unfolding_all exact ⟨_, rfl, rfl⟩) rfl ?_)) | (with_reducible refine lst (by with_unfolding_all rfl) (wp_fld1 hF Tryz.underlying48 rfl (by with_unfolding_all exact ⟨_, rfl, rfl⟩) rfl ?_)) | (with_reducible refine lst (by with_unfolding_all rfl) (wp_fld1 hF Tryz.underlying49 rfl (by with_unfolding_all exact ⟨_, rfl, rfl⟩) rfl ?_)) | (with_reducible refine lst (by with_unfolding_all rfl) (wp_indexAddr T_rvals (hrk.out.below hF.below) (by with_unfolding_all exact ⟨_, _, _, _, rfl, rfl, rfl⟩) (by omega) (by omega) ?_)) | (with_reducible refine lst (by with_unfolding_all rfl) (wp_loadA (hrk.out.below hF.below) Tryz.underlying51 rfl (by with_unfolding_all exact ⟨_, rfl, rfl⟩) (ds := ci) (by rw [hcil.out]; kernel_rfl) (by rw [hcil.out]; with_unfolding_all exact hci.out) ?_)))
       have hF14 := hF
       have hwr := ih vi ci w0 _ _ _ (O) _ hsz.out hvri.out hsi.out hoki.out (by omega) hF14
       refine hwr.mono ?_
       rintro e w15 ⟨v15, l15, rfl, hl15, hF15⟩
       clear hwr
       go_wp2_with fail
       go_roundg (nk - (0 + 1))
       case rel => exact ⟨0 + 1, (O) ++ jFull vi, l15, by omega, box rfl, by go_num, box (by rw [hstep.out, decide_eq_true (Nat.succ_pos _)]), by rw [List.length_append]; omega, hl15, hF15⟩
       case measure => have := hkf.out; omega
    ·have hin : nk = i := by omega
     subst hin
     have hend : Box (out ++ FU = P ++ [93]) := box (by
      rw [hfull.out, List.drop_of_length_le (l := ks) (by rw [hnk.out]; exact Nat.le_refl _), jFullL, List.append_nil])
     clear hfull hkf
     go_wp2_with (first | (with_reducible refine lst (by with_unfolding_all rfl) (wp_fld1 hF Tryz.underlying3 rfl (by with_unfolding_all exact ⟨_, rfl, rfl⟩) rfl ?_)) | (with_reducible refine lst (by with_unfolding_all rfl) (wp_fld1 hF Tryz.underlying48 rfl (by with_unfolding_all exact ⟨_, rfl, rfl⟩) rfl ?_)) | (with_reducible refine lst (by with_unfolding_all rfl) (wp_fld1 hF Tryz.underlying49 rfl (by with_unfolding_all exact ⟨_, rfl, rfl⟩) rfl ?_)) | ((with_reducible refine lst (by with_unfolding_all rfl) (wp_fbsl T_u8 hF (vs := [bv 93]) (by with_unfolding_all rfl) (by with_unfolding_all rfl) (by with_unfolding_all rfl) (by decide) (by simp [bv, Value.cells]) ?_)); intro w5 g5 hF5 hz5; have hr5 : Rd w5 (· < w5.heap.size) (some ⟨g5, 0, none⟩) 1 1 ([93].map bv) := hF5.rdOwn0; replace hF5 : Fr _ _ w5 (Ent.bytes _ 5 (.slice (some ⟨g5, 0, none⟩) 1 1) [93] :: _) := hF5) | ((with_reducible refine lst (by with_unfolding_all rfl) (wp_fapp1 T_u8 hF5 (Nat.le_refl _) hr5 (by with_unfolding_all exact ⟨_, _, rfl, rfl, rfl⟩) (by omega) ?_)); intro v6 w6 hF6 hz6))
     go_ret
     refine ⟨_, _, rfl, box ⟨?_, ?_⟩, hF6.tail.drop1⟩
     ·rw [hend.out]; simp only [List.length_append, List.length_cons, List.length_nil]; omega
     ·rcases hO.out.2 with h | h
      ·left; rw [hend.out, h]
      ·right; simp only [List.length_append, List.length_cons, List.length_nil]; omega
  ·obtain ⟨rfl, hnk5, hok⟩ := hk
   replace hok := box hok
   have hnn5 := hnn.out
   rw [hnn5] at hnk5
   rw [hnk.out] at hnk5
   have hnnk : nk ≤ nn := by omega
   replace hnk5 := box hnk5
   clear hnn5
   have hfu : Box (jFull (.mk 6 n t ns ks) = [123] ++ jFullL true false ns ks ++ [125]) := box (by rw [jFull]; rfl)
   obtain ⟨FU, hFU⟩ : ∃ FU, FU = jFull (.mk 6 n t ns ks) := ⟨_, rfl⟩
   rw [← hFU] at hroom hfu
   rw [← hFU]
   have hFl1 : 1 ≤ FU.length := by rw [hfu.out]; simp
   clear hFU
   go_enter Tryz.func75, Tryz.ntmps75
   go_wp2_with (first | ((with_reducible refine lst (by with_unfolding_all rfl) (wp_fbox hF (cs := (vlL 6 n ⟨t.toArray⟩ (.slice An nn cn) (.slice Ak nk ck))) rfl (by with_unfolding_all rfl) (by with_unfolding_all rfl) ?_)); intro w1 g1 hF1 hz1) | ((with_reducible refine lst (by with_unfolding_all rfl) (wp_fbsl T_strs hF1 (vs := [.string ⟨#[110, 117, 108, 108]⟩, .string ⟨#[102, 97, 108, 115, 101]⟩, .string ⟨#[116, 114, 117, 101]⟩]) (by with_unfolding_all rfl) (by with_unfolding_all rfl) (by with_unfolding_all rfl) (by decide) (by simp [Value.cells]) ?_)); intro w2 g2 hF2 hz2) | (with_reducible refine lst (by with_unfolding_all rfl) (wp_fld1 hF2 Tryz.underlying3 rfl (by with_unfolding_all exact ⟨_, rfl, rfl⟩) rfl ?_)) | ((with_reducible refine lst (by with_unfolding_all rfl) (wp_fbsl T_u8 hF2 (vs := [bv 123]) (by with_unfolding_all rfl) (by with_unfolding_all rfl) (by with_unfolding_all rfl) (by decide) (by simp [bv, Value.cells]) ?_)); intro w3 g3 hF3 hz3; have hr3 : Rd w3 (· < w3.heap.size) (some ⟨g3, 0, none⟩) 1 1 ([123].map bv) := hF3.rdOwn0; replace hF3 : Fr _ _ w3 (Ent.bytes _ 5 (.slice (some ⟨g3, 0, none⟩) 1 1) [123] :: _) := hF3) | ((with_reducible refine lst (by with_unfolding_all rfl) (wp_fapp3 T_u8 hF3 (Nat.le_refl _) hr3 (by with_unfolding_all exact ⟨_, _, rfl, rfl, rfl⟩) (by omega) ?_)); intro v4 w4 hF4 hz4))
   have hF5 := hF4.tail.tail.perm (List.Perm.swap _ _ _)
   clear hF hF1 hF2 hF3 hF4
   go_loopg [0, 8] nk (fun gk v s wr => ∃ (i : Nat) (P O : List UInt8), i ≤ nk ∧ Box (gk = nk - i) ∧ s = .int .i64 (i : Int) ∧ Box (out ++ FU = P ++ jFullL true (decide (0 < i)) (ns.drop i) (ks.drop i) ++ [125]) ∧ out.length ≤ P.length ∧ Box (O.length ≤ P.length ∧ (O = P ∨ 65536 < O.length)) ∧ Fr [] w0 wr (Ent.bytes w0.heap.size 5 v O :: .blk g1 51 (vlL 6 n ⟨t.toArray⟩ (.slice An nn cn) (.slice Ak nk ck)) :: rest))
   case atStart => exact ⟨0, out ++ [123], out ++ [123], by omega, box rfl, rfl, box (by rw [hfu.out]; simp), by simp, box ⟨Nat.le_refl _, .inl rfl⟩, hF5⟩
   case round =>
    clear hF5
    obtain ⟨i, P, O, hi, hk, rfl, hfull, hoP, hO, hF⟩ := hrel
    have hkf : Box (gk = nk - i) := hk
    clear hk
    obtain ⟨Ao, co, rfl, hco, hro⟩ := (hF.own (i := 0) rfl).arg
    have hPl : P.length + 1 ≤ out.length + FU.length := by have := congrArg List.length hfull.out; simp only [List.length_append, List.length_cons, List.length_nil] at this; omega
    have hOl : O.length ≤ P.length := hO.out.1
    by_cases hlt : i < nk
    ·by_cases hbig : 65536 < O.length
     ·have d1 : decide ((O.length : Int) ≤ 65536) = false := decide_eq_false (by omega)
      have hkl : Box (jFullL true (decide (0 < i)) (ns.drop i) (ks.drop i) ≠ [] ∨ True) := box (.inr trivial)
      replace hbig := box hbig
      go_wp2_with (first | (with_reducible refine lst (by with_unfolding_all rfl) (wp_fld1 hF Tryz.underlying3 rfl (by with_unfolding_all exact ⟨_, rfl, rfl⟩) rfl ?_)) | (with_reducible refine lst (by with_unfolding_all rfl) (wp_fld1 hF Tryz.underlying48 rfl (by with_unfolding_all exact ⟨_, rfl, rfl⟩) rfl ?_)) | (with_reducible refine lst (by with_unfolding_all rfl) (wp_fld1 hF Tryz.underlying49 rfl (by with_unfolding_all exact ⟨_, rfl, rfl⟩) rfl ?_)) | ((with_reducible refine lst (by with_unfolding_all rfl) (wp_fbsl T_u8 hF (vs := [bv 125]) (by with_unfolding_all rfl) (by with_unfolding_all rfl) (by with_unfolding_all rfl) (by decide) (by simp [bv, Value.cells]) ?_)); intro w6 g6 hF6 hz6; have hr6 : Rd w6 (· < w6.heap.size) (some ⟨g6, 0, none⟩) 1 1 ([125].map bv) := hF6.rdOwn0; replace hF6 : Fr _ _ w6 (Ent.bytes _ 5 (.slice (some ⟨g6, 0, none⟩) 1 1) [125] :: _) := hF6) | ((with_reducible refine lst (by with_unfolding_all rfl) (wp_fapp1 T_u8 hF6 (Nat.le_refl _) hr6 (by with_unfolding_all exact ⟨_, _, rfl, rfl, rfl⟩) (by omega) ?_)); intro v7 w7 hF7 hz7))
      go_ret
      refine ⟨_, _, rfl, box ⟨?_, .inr (by have := hbig.out; simp only [List.length_append, List.length_cons, List.length_nil]; omega)⟩, hF7.tail.drop1⟩
      simp only [List.length_append, List.length_cons, List.length_nil]
      omega
     ·obtain ⟨vi, hvi⟩ : ∃ vi, ks[i]? = some vi := ⟨ks[i]'(by rw [hnk.out]; exact hlt), by simp⟩
      obtain ⟨ci, hci, hvri⟩ := hvk.out.at hvi
      have hcil := box hvri.len
      replace hci := box hci
      have hsi := box (hs3.out.at hvi)
      have hoki := box (hok.out.at hvi)
      have hsz : Box (SizeOf.sizeOf vi ≤ N) := box (by have := JV.size_kid (k := 6) (n := n) (t := t) (ns := ns) hvi; have := hN.out; omega)
      have hstep := box (hfull.out.trans (by rw [jFullL_drop hvi]))
      replace hvi := box hvi
      replace hvri := box hvri
      have hOP : O = P := hO.out.2.resolve_right hbig
      subst hOP
      have d1 : decide ((O.length : Int) ≤ 65536) = true := decide_eq_true (by omega)
      replace hbig := box hbig
      clear hO hfull
      by_cases h0 : 0 < i
      ·have hz : decide (0 < i) = true := decide_eq_true h0
       rw [hz] at hstep
       clear hz
       obtain ⟨s, hs⟩ : ∃ s, ns[i]? = some s := ⟨ns[i]'(by rw [hnn.out]; omega), by simp⟩
       have hss : Box ((ns.map strv)[i]? = some (.string ⟨s.toArray⟩)) := box (by rw [List.getElem?_map, hs]; rfl)
       have hhd : (ns.drop i).headD [] = s := by rw [List.drop_eq_getElem_cons (List.getElem?_eq_some_iff.1 hs).1, (List.getElem?_eq_some_iff.1 hs).2]; rfl
       rw [hhd] at hstep
       clear hhd hs
       have hqg := jQuote_ge s
       replace hstep : Box (out ++ FU = (O ++ [44] ++ (jQuote s ++ [58])) ++ jFull vi ++ jFullL true true (ns.drop (i + 1)) (ks.drop (i + 1)) ++ [125]) := box (hstep.out.trans (by simp))
       have hrl : (O ++ [44] ++ (jQuote s ++ [58])).length + (jFull vi).length + 1 ≤ out.length + FU.length := by have := congrArg List.length hstep.out; simp only [List.length_append, List.length_cons, List.length_nil] at this ⊢; omega
       have hbo : out.length ≤ (O ++ [44] ++ (jQuote s ++ [58])).length := by first | omega | (simp only [List.length_append]; omega)
       have hrl3 : ((O ++ [44]) ++ jQuote s).length + 1 ≤ 140737488355328 := by simp only [List.length_append, List.length_cons, List.length_nil] at hrl ⊢; omega
       have hrl2 : O.length + s.length + 4 ≤ out.length + FU.length := by simp only [List.length_append, List.length_cons, List.length_nil] at hrl; omega
       go_wp2_with (first | (with_reducible refine lst (by with_unfolding_all rfl) (wp_fld1 hF Tryz.underlying3 rfl (by with_unfolding_all exact ⟨_, rfl, rfl⟩) rfl ?_)) | (with_reducible refine lst (by with_unfolding_all rfl) (wp_fld1 hF Tryz.underlying48 rfl (by with_unfolding_all exact ⟨_, rfl, rfl⟩) rfl ?_)) | (with_reducible refine lst (by with_unfolding_all rfl) (wp_fld1 hF Tryz.underlying49 rfl (by with_unfolding_all exact ⟨_, rfl, rfl⟩) rfl ?_)) | ((with_reducible refine lst (by with_unfolding_all rfl) (wp_fbsl T_u8 hF (vs := [bv 44]) (by with_unfolding_all rfl) (by with_unfolding_all rfl) (by with_unfolding_all rfl) (by decide) (by simp [bv, Value.cells]) ?_)); intro w8 g8 hF8 hz8; have hr8 : Rd w8 (· < w8.heap.size) (some ⟨g8, 0, none⟩) 1 1 ([44].map bv) := hF8.rdOwn0; replace hF8 : Fr _ _ w8 (Ent.bytes _ 5 (.slice (some ⟨g8, 0, none⟩) 1 1) [44] :: _) := hF8) | ((with_reducible refine lst (by with_unfolding_all rfl) (wp_fapp1 T_u8 hF8 (Nat.le_refl _) hr8 (by with_unfolding_all exact ⟨_, _, rfl, rfl, rfl⟩) (by omega) ?_)); intro v9 w9 hF9 hz9) | (with_reducible refine lst (by with_unfolding_all rfl) (wp_fld2 hF9 Tryz.underlying3 rfl (by with_unfolding_all exact ⟨_, rfl, rfl⟩) rfl ?_)) | (with_reducible refine lst (by with_unfolding_all rfl) (wp_fld2 hF9 Tryz.underlying48 rfl (by with_unfolding_all exact ⟨_, rfl, rfl⟩) rfl ?_)) | (with_reducible refine lst (by with_unfolding_all rfl) (wp_fld2 hF9 Tryz.underlying49 rfl (by with_unfolding_all exact ⟨_, rfl, rfl⟩) rfl ?_)) | (with_reducible refine lst (by with_unfolding_all rfl) (wp_indexAddr T_strs (hrn.out.below hF9.below) (by with_unfolding_all exact ⟨_, _, _, _, rfl, rfl, rfl⟩) (by omega) (by omega) ?_)) | (with_reducible refine lst (by with_unfolding_all rfl) (wp_load1C (hrn.out.below hF9.below) hss Tryz.underlying9 rfl (by with_unfolding_all exact ⟨_, rfl, rfl⟩) (by first | (simp; done) | (simp; omega) | omega) ?_)))
       have hF10 := hF9.tail
       obtain ⟨A10, c10, hv10, hc10, hr10⟩ := (hF10.own (i := 0) rfl).arg
       subst hv10
       have hq := rquote_any [] w0 _ _ _ (O ++ [44]) _ ⟨s.toArray⟩ (by rw [str_mk_size]; first | omega | (simp only [List.length_append, List.length_cons, List.length_nil]; omega)) hF10
       refine hq.mono ?_
       rintro e w11 ⟨v11, rfl, hF11⟩
       clear hq
       obtain ⟨Y, hY⟩ : ∃ Y, Y = (O ++ [44]) ++ jQuote (⟨s.toArray⟩ : ByteArray).data.toList := ⟨_, rfl⟩
       rw [← hY] at hF11
       replace hrl3 : Y.length + 1 ≤ 140737488355328 := by rw [hY]; exact hrl3
       replace hY := box hY
       clear hF10
       obtain ⟨A11, c11, rfl, hc11, hr11⟩ := (hF11.own (i := 0) rfl).arg
       go_wp2_with (first | ((with_reducible refine lst (by with_unfolding_all rfl) (wp_fbsl T_u8 hF11 (vs := [bv 58]) (by with_unfolding_all rfl) (by with_unfolding_all rfl) (by with_unfolding_all rfl) (by decide) (by simp [bv, Value.cells]) ?_)); intro w12 g12 hF12 hz12; have hr12 : Rd w12 (· < w12.heap.size) (some ⟨g12, 0, none⟩) 1 1 ([58].map bv) := hF12.rdOwn0; replace hF12 : Fr _ _ w12 (Ent.bytes _ 5 (.slice (some ⟨g12, 0, none⟩) 1 1) [58] :: _) := hF12) | ((with_reducible refine lst (by with_unfolding_all rfl) (wp_fapp1 T_u8 hF12 (Nat.le_refl _) hr12 (by with_unfolding_all exact ⟨_, _, rfl, rfl, rfl⟩) (by omega) ?_)); intro v13 w13 hF13 hz13) | (with_reducible refine lst (by with_unfolding_all rfl) (wp_fld2 hF13 Tryz.underlying3 rfl (by with_unfolding_all exact ⟨_, rfl, rfl⟩) rfl ?_)) | (with_reducible refine lst (by with_unfolding_all rfl) (wp_fld2 hF13 Tryz.underlying48 rfl (by with_unfolding_all exact ⟨_, rfl, rfl⟩) rfl ?_)) | (with_reducible refine lst (by with_unfolding_all rfl) (wp_fld2 hF13 Tryz.underlying49 rfl (by with_unfolding_all exact ⟨_, rfl, rfl⟩) rfl ?_)) | (with_reducible refine lst (by with_unfolding_all rfl) (wp_indexAddr T_rvals (hrk.out.below hF13.below) (by with_unfolding_all exact ⟨_, _, _, _, rfl, rfl, rfl⟩) (by omega) (by omega) ?_)) | (with_reducible refine lst (by with_unfolding_all rfl) (wp_loadA (hrk.out.below hF13.below) Tryz.underlying51 rfl (by with_unfolding_all exact ⟨_, rfl, rfl⟩) (ds := ci) (by rw [hcil.out]; kernel_rfl) (by rw [hcil.out]; with_unfolding_all exact hci.out) ?_)))
       have hF14 := hF13.tail
       rw [hY.out, List.append_assoc] at hF14
       obtain ⟨A14, c14, rfl, hc14, hr14⟩ := (hF14.own (i := 0) rfl).arg
       have hwr := ih vi ci w0 _ _ _ (O ++ [44] ++ (jQuote s ++ [58])) _ hsz.out hvri.out hsi.out hoki.out (by omega) hF14
       refine hwr.mono ?_
       rintro e w15 ⟨v15, l15, rfl, hl15, hF15⟩
       clear hwr
       go_wp2_with fail
       go_roundg (nk - (i + 1))
       case rel => exact ⟨i + 1, (O ++ [44] ++ (jQuote s ++ [58])) ++ jFull vi, l15, by omega, box rfl, by go_num, box (by rw [hstep.out, decide_eq_true (Nat.succ_pos _)]), by rw [List.length_append]; omega, hl15, hF15⟩
       case measure => have := hkf.out; omega
      ·obtain rfl : i = 0 := by omega
       obtain ⟨s, hs⟩ : ∃ s, ns[0]? = some s := ⟨ns[0]'(by rw [hnn.out]; omega), by simp⟩
       have hss : Box ((ns.map strv)[0]? = some (.string ⟨s.toArray⟩)) := box (by rw [List.getElem?_map, hs]; rfl)
       have hhd : (ns.drop 0).headD [] = s := by rw [List.drop_eq_getElem_cons (List.getElem?_eq_some_iff.1 hs).1, (List.getElem?_eq_some_iff.1 hs).2]; rfl
       rw [hhd] at hstep
       clear hhd hs
       have hqg := jQuote_ge s
       replace hstep : Box (out ++ FU = (O ++ (jQuote s ++ [58])) ++ jFull vi ++ jFullL true true (ns.drop (0 + 1)) (ks.drop (0 + 1)) ++ [125]) := box (hstep.out.trans (by simp))
       have hrl : (O ++ (jQuote s ++ [58])).length + (jFull vi).length + 1 ≤ out.length + FU.length := by have := congrArg List.length hstep.out; simp only [List.length_append, List.length_cons, List.length_nil] at this ⊢; omega
       have hbo : out.length ≤ (O ++ (jQuote s ++ [58])).length := by first | omega | (simp only [List.length_append]; omega)
       have hrl3 : ((O) ++ jQuote s).length + 1 ≤ 140737488355328 := by simp only [List.length_append, List.length_cons, List.length_nil] at hrl ⊢; omega
       have hrl2 : O.length + s.length + 4 ≤ out.length + FU.length := by simp only [List.length_append, List.length_cons, List.length_nil] at hrl; omega
       go_wp2_with (first | (with_reducible refine lst (by with_unfolding_all rfl) (wp_fld1 hF Tryz.underlying3 rfl (by with_unfolding_all exact ⟨_, rfl, rfl⟩) rfl ?_)) | (with_reducible refine lst (by with_unfolding_all rfl) (wp_fld1 hF Tryz.underlying48 rfl (by with_unfolding_all exact ⟨_, rfl, rfl⟩) rfl ?_)) | (with_reducible refine lst (by with_unfolding_all rfl) (wp_fld1 hF Tryz.underlying49 rfl (by with_unfolding_all exact ⟨_, rfl, rfl⟩) rfl ?_)) | (with_reducible refine lst (by with_unfolding_all rfl) (wp_indexAddr T_strs (hrn.out.below hF.below) (by with_unfolding_all exact ⟨_, _, _, _, rfl, rfl, rfl⟩) (by omega) (by omega) ?_)) | (with_reducible refine lst (by with_unfolding_all rfl) (wp_load1C (hrn.out.below hF.below) hss Tryz.underlying9 rfl (by with_unfolding_all exact ⟨_, rfl, rfl⟩) (by first | (simp; done) | (simp; omega) | omega) ?_)))
       have hF10 := hF
       have hq := rquote_any [] w0 _ _ _ (O) _ ⟨s.toArray⟩ (by rw [str_mk_size]; first | omega | (simp only [List.length_append, List.length_cons, List.length_nil]; omega)) hF10
       refine hq.mono ?_
       rintro e w11 ⟨v11, rfl, hF11⟩
       clear hq
       obtain ⟨Y, hY⟩ : ∃ Y, Y = (O) ++ jQuote (⟨s.toArray⟩ : ByteArray).data.toList := ⟨_, rfl⟩
       rw [← hY] at hF11
       replace hrl3 : Y.length + 1 ≤ 140737488355328 := by rw [hY]; exact hrl3
       replace hY := box hY
       clear hF10
       obtain ⟨A11, c11, rfl, hc11, hr11⟩ := (hF11.own (i := 0) rfl).arg
       go_wp2_with (first | ((with_reducible refine lst (by with_unfolding_all rfl) (wp_fbsl T_u8 hF11 (vs := [bv 58]) (by with_unfolding_all rfl) (by with_unfolding_all rfl) (by with_unfolding_all rfl) (by decide) (by simp [bv, Value.cells]) ?_)); intro w12 g12 hF12 hz12; have hr12 : Rd w12 (· < w12.heap.size) (some ⟨g12, 0, none⟩) 1 1 ([58].map bv) := hF12.rdOwn0; replace hF12 : Fr _ _ w12 (Ent.bytes _ 5 (.slice (some ⟨g12, 0, none⟩) 1 1) [58] :: _) := hF12) | ((with_reducible refine lst (by with_unfolding_all rfl) (wp_fapp1 T_u8 hF12 (Nat.le_refl _) hr12 (by with_unfolding_all exact ⟨_, _, rfl, rfl, rfl⟩) (by omega) ?_)); intro v13 w13 hF13 hz13) | (with_reducible refine lst (by with_unfolding_all rfl) (wp_fld2 hF13 Tryz.underlying3 rfl (by with_unfolding_all exact ⟨_, rfl, rfl⟩) rfl ?_)) | (with_reducible refine lst (by with_unfolding_all rfl) (wp_fld2 hF13 Tryz.underlying48 rfl (by with_unfolding_all exact ⟨_, rfl, rfl⟩) rfl ?_)) | (with_reducible refine lst (by with_unfolding_all rfl) (wp_fld2 hF13 Tryz.underlying49 rfl (by with_unfolding_all exact ⟨_, rfl, rfl⟩) rfl ?_)) | (with_reducible refine lst (by with_unfolding_all rfl) (wp_indexAddr T_rvals (hrk.out.below hF13.below) (by with_unfolding_all exact ⟨_, _, _, _, rfl, rfl, rfl⟩) (by omega) (by omega) ?_)) | (with_reducible refine lst (by with_unfolding_all rfl) (wp_loadA (hrk.out.below hF13.below) Tryz.underlying51 rfl (by with_unfolding_all exact ⟨_, rfl, rfl⟩) (ds := ci) (by rw [hcil.out]; kernel_rfl) (by rw [hcil.out]; with_unfolding_all exact hci.out) ?_)))
       have hF14 := hF13.tail
       rw [hY.out, List.append_assoc] at hF14
       obtain ⟨A14, c14, rfl, hc14, hr14⟩ := (hF14.own (i := 0) rfl).arg
       have hwr := ih vi ci w0 _ _ _ (O ++ (jQuote s ++ [58])) _ hsz.out hvri.out hsi.out hoki.out (by omega) hF14
       refine hwr.mono ?_
       rintro e w15 ⟨v15, l15, rfl, hl15, hF15⟩
       clear hwr
       go_wp2_with fail
       go_roundg (nk - (0 + 1))
       case rel => exact ⟨0 + 1, (O ++ (jQuote s ++ [58])) ++ jFull vi, l15, by omega, box rfl, by go_num, box (by rw [hstep.out, decide_eq_true (Nat.succ_pos _)]), by rw [List.length_append]; omega, hl15, hF15⟩
       case measure => have := hkf.out; omega
    ·have hin : nk = i := by omega
     subst hin
     have hend : Box (out ++ FU = P ++ [125]) := box (by
      rw [hfull.out, List.drop_of_length_le (l := ks) (by rw [hnk.out]; exact Nat.le_refl _), jFullL, List.append_nil])
     clear hfull hkf
     go_wp2_with (first | (with_reducible refine lst (by with_unfolding_all rfl) (wp_fld1 hF Tryz.underlying3 rfl (by with_unfolding_all exact ⟨_, rfl, rfl⟩) rfl ?_)) | (with_reducible refine lst (by with_unfolding_all rfl) (wp_fld1 hF Tryz.underlying48 rfl (by with_unfolding_all exact ⟨_, rfl, rfl⟩) rfl ?_)) | (with_reducible refine lst (by with_unfolding_all rfl) (wp_fld1 hF Tryz.underlying49 rfl (by with_unfolding_all exact ⟨_, rfl, rfl⟩) rfl ?_)) | ((with_reducible refine lst (by with_unfolding_all rfl) (wp_fbsl T_u8 hF (vs := [bv 125]) (by with_unfolding_all rfl) (by with_unfolding_all rfl) (by with_unfolding_all rfl) (by decide) (by simp [bv, Value.cells]) ?_)); intro w5 g5 hF5 hz5; have hr5 : Rd w5 (· < w5.heap.size) (some ⟨g5, 0, none⟩) 1 1 ([125].map bv) := hF5.rdOwn0; replace hF5 : Fr _ _ w5 (Ent.bytes _ 5 (.slice (some ⟨g5, 0, none⟩) 1 1) [125] :: _) := hF5) | ((with_reducible refine lst (by with_unfolding_all rfl) (wp_fapp1 T_u8 hF5 (Nat.le_refl _) hr5 (by with_unfolding_all exact ⟨_, _, rfl, rfl, rfl⟩) (by omega) ?_)); intro v6 w6 hF6 hz6))
     go_ret
     refine ⟨_, _, rfl, box ⟨?_, ?_⟩, hF6.tail.drop1⟩
     ·rw [hend.out]; simp only [List.length_append, List.length_cons, List.length_nil]; omega
     ·rcases hO.out.2 with h | h
      ·left; rw [hend.out, h]
      ·right; simp only [List.length_append, List.length_cons, List.length_nil]; omega
end Go.Proofs.YtlhicfpmlncomaaGreatDoor

namespace Go.Proofs.YtlhicfpmlncomaaGreatDoor
end Go.Proofs.YtlhicfpmlncomaaGreatDoor

namespace Go.Proofs.YtlhicfpmlncomaaGreatDoor
open Go.ChangeShapes Go.WideShapes Go.ChangeAt Go.RowKit
section
variable {H : Type} {enc : TypeId × Value → H} {P : Program} {W : World} {hd : Bool} {fuel : Nat}
theorem ints_in {t : TypeId} {k : IntKind} (ht : P.underlying t = some (.int k)) {cs : List Value} {x : DataW H × List MemPlace} (h : DataW.trod enc P W 0 (fun _ => true) hd fuel t cs = some x) : ∃ n, cs = [.int k n] ∧ (Lit.int k n).wf = true := by
 obtain ⟨n, h1, _, h2⟩ := DataW.trod_int ht h
 exact ⟨n, h1, h2⟩
theorem strs_in {t : TypeId} (ht : P.underlying t = some .string) {cs : List Value} {x : DataW H × List MemPlace} (h : DataW.trod enc P W 0 (fun _ => true) hd fuel t cs = some x) : ∃ s : ByteArray, cs = [.string s] ∧ s.size + 1 ≤ Rows.uptoBulk x.1 := by
 obtain ⟨s, h1, h2, _⟩ := DataW.trod_string ht h
 exact ⟨s, h1, by rw [h2]; simp [Rows.uptoBulk]⟩
theorem cut_at (cs : List Value) (k m : Nat) : cs.drop k = (cs.drop k).take m ++ cs.drop (k + m) := by rw [← List.drop_drop, List.take_append_drop]
end
end Go.Proofs.YtlhicfpmlncomaaGreatDoor

namespace Go.Proofs.YtlhicfpmlncomaaGreatDoor
open Go.ChangeShapes Go.WideShapes Go.ChangeAt Go.RowKit
theorem flat_at {α β : Type} {f : α → List β} {sz : Nat} (hsz : 0 < sz) : ∀ {l : List α}, (∀ u ∈ l, (f u).length = sz) → ∀ {j : Nat} {v : β}, (l.flatMap f)[j]? = some v → ∃ u, l[j / sz]? = some u ∧ (f u)[j % sz]? = some v
 | [], _, j, v, h => by simp at h
 | u :: l, hl, j, v, h => by
  have hu := hl u (by simp)
  rw [List.flatMap_cons] at h
  rcases Nat.lt_or_ge j sz with hj | hj
  ·rw [List.getElem?_append_left (by omega)] at h
   refine ⟨u, ?_, ?_⟩
   ·rw [Nat.div_eq_of_lt hj]; rfl
   ·rw [Nat.mod_eq_of_lt hj]; exact h
  ·rw [List.getElem?_append_right (by omega), hu] at h
   obtain ⟨u', h1, h2⟩ := flat_at hsz (l := l) (fun x hx => hl x (by simp [hx])) h
   have e1 : j / sz = (j - sz) / sz + 1 := by rw [Nat.div_eq_sub_div hsz hj]
   have e2 : j % sz = (j - sz) % sz := by rw [Nat.mod_eq_sub_mod hj]
   exact ⟨u', by rw [e1]; exact h1, by rw [e2]; exact h2⟩
theorem flat_len {α β : Type} {f : α → List β} {sz : Nat} : ∀ {l : List α}, (∀ u ∈ l, (f u).length = sz) → (l.flatMap f).length = l.length * sz
 | [], _ => by simp
 | u :: l, hl => by
  rw [List.flatMap_cons, List.length_append, hl u (by simp), flat_len (fun x hx => hl x (by simp [hx])), List.length_cons, Nat.add_mul]; omega
theorem list_of {α : Type} {p : Nat → α → Prop} : ∀ (n : Nat), (∀ i, i < n → ∃ u, p i u) → ∃ l : List α, l.length = n ∧ ∀ i u, l[i]? = some u → p i u
 | 0, _ => ⟨[], rfl, fun i u h => by simp at h⟩
 | n + 1, h => by
  obtain ⟨l, hl, hp⟩ := list_of n (fun i hi => h i (by omega))
  obtain ⟨u, hu⟩ := h n (by omega)
  refine ⟨l ++ [u], by simp [hl], fun i x hx => ?_⟩
  rcases Nat.lt_or_ge i n with hi | hi
  ·rw [List.getElem?_append_left (by omega)] at hx; exact hp i x hx
  ·rw [List.getElem?_append_right (by omega)] at hx
   match hk : i - l.length, hx with
   | 0, hx => injection hx with hx; subst hx; obtain rfl : i = n := by omega
              exact hu
   | k + 1, hx => simp at hx
section
variable {H : Type} {enc : TypeId × Value → H} {P : Program} {W : World} {hd : Bool} {fuel : Nat}
end
end Go.Proofs.YtlhicfpmlncomaaGreatDoor

namespace Go.Proofs.YtlhicfpmlncomaaGreatDoor
open Go.ChangeShapes Go.WideShapes Go.ChangeAt Go.RowKit
mutual
/-- How much a value is. -/
def jW : JV → Nat
 | .mk _ _ t ns ks => t.length + (ns.map (·.length + 1)).sum + jWL ks + 1
def jWL : List JV → Nat
 | [] => 0
 | v :: vs => jW v + jWL vs
end
mutual
/-- A value's numbers are a machine's. -/
def JI : JV → Prop
 | .mk k n _ _ ks => (-9223372036854775808 ≤ k ∧ k ≤ 9223372036854775807) ∧ (-9223372036854775808 ≤ n ∧ n ≤ 9223372036854775807) ∧ JIL ks
def JIL : List JV → Prop
 | [] => True
 | v :: vs => JI v ∧ JIL vs
end
theorem jWL_len : ∀ ks : List JV, ks.length ≤ jWL ks
 | [] => Nat.zero_le _
 | .mk k n t ns ks' :: vs => by
  have := jWL_len vs
  rw [jWL, jW, List.length_cons]
  omega
theorem jWn_len : ∀ ns : List (List UInt8), ns.length ≤ (ns.map (·.length + 1)).sum
 | [] => Nat.zero_le _
 | n :: ns => by
  have := jWn_len ns
  rw [List.map_cons, List.sum_cons, List.length_cons]
  omega
theorem jWn_mem : ∀ {ns : List (List UInt8)} {s : List UInt8}, s ∈ ns → s.length + 1 ≤ (ns.map (·.length + 1)).sum
 | [], _, h => by cases h
 | n :: ns, s, h => by
  rw [List.map_cons, List.sum_cons]
  rcases List.mem_cons.1 h with rfl | h
  ·omega
  ·have := jWn_mem h; omega
mutual
theorem jW_sm : ∀ (v : JV), jW v ≤ 1048576 → JSm v
 | .mk k n t ns ks, h => by
  rw [jW] at h
  rw [JSm]
  have h1 := jWL_len ks
  have h2 := jWn_len ns
  exact ⟨by omega, by omega, jWL_sm ks (by omega)⟩
theorem jWL_sm : ∀ (ks : List JV), jWL ks ≤ 1048576 → JSmL ks
 | [], _ => by rw [JSmL]; trivial
 | v :: vs, h => by
  rw [jWL] at h
  rw [JSmL]
  exact ⟨jW_sm v (by omega), jWL_sm vs (by omega)⟩
end
mutual
theorem jW_tx : ∀ (v : JV), jW v ≤ 1048576 → JTx v
 | .mk k n t ns ks, h => by
  rw [jW] at h
  rw [JTx]
  exact ⟨by omega, fun s hs => by have := jWn_mem hs; omega, jWL_tx ks (by omega)⟩
theorem jWL_tx : ∀ (ks : List JV), jWL ks ≤ 1048576 → JTxL ks
 | [], _ => by rw [JTxL]; trivial
 | v :: vs, h => by
  rw [jWL] at h
  rw [JTxL]
  exact ⟨jW_tx v (by omega), jWL_tx vs (by omega)⟩
end
theorem jWn_tail (ns : List (List UInt8)) : (ns.headD []).length + (ns.tail.map (·.length + 1)).sum ≤ (ns.map (·.length + 1)).sum := by
 cases ns with
 | nil => simp
 | cons n ns => simp [List.sum_cons]; try omega
mutual
theorem jW_full : ∀ (v : JV), JI v → (jFull v).length + 4 ≤ 30 * jW v
 | .mk k n t ns ks, h => by
  rw [JI] at h
  have hq := jQuote_len t
  have hi := itoa_len h.2.1.1 h.2.1.2
  have h5 := jWL_full ks true false ns h.2.2
  have h6 := jWL_full ks false false ns h.2.2
  rw [jFull, jW]
  split
  ·simp; omega
  split
  ·simp; omega
  split
  ·simp; omega
  split
  ·omega
  split
  ·omega
  split
  ·simp only [List.length_append, List.length_cons, List.length_nil]; omega
  ·simp only [List.length_append, List.length_cons, List.length_nil]; omega
theorem jWL_full : ∀ (ks : List JV) (obj more : Bool) (ns : List (List UInt8)), JIL ks → (jFullL obj more ns ks).length ≤ 30 * jWL ks + 6 * (ns.map (·.length + 1)).sum
 | [], obj, more, ns, _ => by rw [jFullL]; simp
 | v :: vs, obj, more, ns, h => by
  rw [JIL] at h
  have h1 := jW_full v h.1
  have h2 := jWL_full vs obj true ns.tail h.2
  have h3 := jQuote_len (ns.headD [])
  have h4 := jWn_tail ns
  rw [jFullL, jWL]
  have hp : 1 ≤ jW v := by cases v; rw [jW]; omega
  simp only [List.length_append]
  have e1 : (if more = true then [(44 : UInt8)] else []).length ≤ 1 := by split <;> simp
  have e2 : (if obj = true then jQuote (ns.headD []) ++ [58] else []).length ≤ 6 * (ns.headD []).length + 3 := by
   split
   ·simp only [List.length_append, List.length_cons, List.length_nil]; omega
   ·simp
  omega
end
theorem sum_le {α : Type} {H : Type} {g : α → Nat} : ∀ (l : List α) (es : List (DataW H × List MemPlace)), l.length = es.length → (∀ (i : Nat) (u : α) (e : DataW H × List MemPlace), l[i]? = some u → es[i]? = some e → g u ≤ Rows.uptoBulk e.1) → (l.map g).sum ≤ Rows.uptoBulkAll (es.map (·.1))
 | [], [], _, _ => by simp [Rows.uptoBulkAll]
 | u :: l, e :: es, hl, h => by
  have h0 := h 0 u e rfl rfl
  have h1 := sum_le (g := g) l es (by simpa using hl) (fun i u e hu he => h (i + 1) u e (by simpa using hu) (by simpa using he))
  simp only [List.map_cons, List.sum_cons, Rows.uptoBulkAll]
  omega
 | [], _ :: _, hl, _ => by simp at hl
 | _ :: _, [], hl, _ => by simp at hl
section
variable {H : Type} {enc : TypeId × Value → H} {P : Program} {W : World} {hd : Bool} {fuel : Nat}
/-- A slice that came in, of elements of which something is known. -/
theorem slR_in {α : Type} {t e : TypeId} {sz : Nat} (ht : P.underlying t = some (.slice e)) (hc : P.cellsOf e = sz) (hpos : 0 < sz) {f : α → List Value} {g : α → Nat} {p : α → Prop} (hel : ∀ m cs x, m < fuel → DataW.trod enc P W 0 (fun _ => true) hd m e cs = some x → ∃ u : α, cs = f u ∧ (f u).length = sz ∧ p u ∧ g u ≤ Rows.uptoBulk x.1)
  {cs : List Value} {x : DataW H × List MemPlace} (h : DataW.trod enc P W 0 (fun _ => true) hd fuel t cs = some x) :
  ∃ (A : Option Addr) (len cap : Nat) (l : List α), cs = [.slice A len cap] ∧ len ≤ cap ∧ l.length = len ∧ Rd W (· < W.heap.size) A sz len (l.flatMap f) ∧ (∀ u ∈ l, (f u).length = sz ∧ p u) ∧ (l.map g).sum + 1 ≤ Rows.uptoBulk x.1 := by
 rcases DataW.trod_slice ht h with ⟨hcs, hx⟩ | ⟨a, len, cap, es, rest, n, hfu, hcs, hx, _, hl, hm, hlen, hat, hsp, _⟩
 ·exact ⟨none, 0, 0, [], hcs, Nat.le_refl _, rfl, Rd.nil _ _ _ _, fun u hu => by simp at hu, by rw [hx]; simp [Rows.uptoBulk]⟩
 ·have key : ∀ i, i < len → ∃ u : α, W.cells? 0 (a.add (i * sz)) sz = some (f u) ∧ (f u).length = sz ∧ p u ∧ ∀ e, es[i]? = some e → g u ≤ Rows.uptoBulk e.1 := fun i hi => by
   have h1 := hat i hi
   rw [hc, List.getElem?_eq_getElem (by omega), Option.bind_eq_some_iff] at h1
   obtain ⟨cs', h2, h3⟩ := h1
   obtain ⟨u, rfl, h4, h5, h6⟩ := hel n _ _ (by omega) h3
   exact ⟨u, h2, h4, h5, fun e he => by
    rw [List.getElem?_eq_getElem (by omega)] at he
    injection he with he
    rw [← he]; exact h6⟩
  obtain ⟨l, hll, hp⟩ := list_of len key
  have hone : ∀ u ∈ l, (f u).length = sz ∧ p u := fun u hu => by
   obtain ⟨i, hi⟩ := List.mem_iff_getElem?.1 hu
   exact ⟨(hp i u hi).2.1, (hp i u hi).2.2.1⟩
  have hcell : ∀ j v, (l.flatMap f)[j]? = some v → W.cell? (a.add j) = some v := fun j v hv => by
   obtain ⟨u, h1, h2⟩ := flat_at hpos (fun u hu => (hone u hu).1) hv
   obtain ⟨h3, _⟩ := hp _ u h1
   obtain ⟨_, _, h5⟩ := World.cells?_some h3
   have h6 := h5 (j % sz) (Nat.mod_lt _ hpos)
   rw [add_add, Nat.mul_comm, Nat.div_add_mod] at h6
   rw [h6]; exact h2
  have hfl : (l.flatMap f).length = len * sz := by rw [flat_len (fun u hu => (hone u hu).1), hll]
  refine ⟨some a, len, cap, l, hcs, hl, hll, ⟨hfl, fun _ => rfl, fun h0 => ?_, hcell⟩, hone, ?_⟩
  ·have hlt : 0 < (l.flatMap f).length := by rw [hfl]; exact Nat.mul_pos h0 hpos
   have := hcell 0 _ (List.getElem?_eq_getElem hlt)
   have hb := World.block_lt_of_cell? W _ this
   have e : (a.add 0).block = a.block := by unfold Addr.add; split <;> rfl
   rw [e] at hb
   exact hb
  ·have := sum_le (g := g) l es (by omega) (fun i u e hu he => (hp i u hu).2.2.2 e he)
   rw [hx]
   show _ ≤ Rows.uptoBulk (DataW.slice _ _)
   simp only [Rows.uptoBulk]
   omega
/-- The fields of a value: where, of which type, how many cells. -/
structure JVT (P : Program) (t : TypeId) (fs : Array Field) (f0 f1 f2 f3 f4 : Field) (us : TypeId) : Prop where
 und : P.underlying t = some (.struct fs)
 size : P.cellsOf t = 5
 at_ : fs = #[f0, f1, f2, f3, f4]
 off : [f0, f1, f2, f3, f4].map (fun f => (f.offset, P.cellsOf f.type)) = [(0, 1), (1, 1), (2, 1), (3, 1), (4, 1)]
 typ : [f0, f1, f2, f3, f4].map (fun f => P.underlying f.type) = [some (.int .i64), some (.int .i64), some .string, some (.slice us), some (.slice t)]
 str : P.underlying us = some .string
 sone : P.cellsOf us = 1
theorem flat_strv : ∀ l : List (List UInt8), l.flatMap (fun s => [strv s]) = l.map strv
 | [] => rfl
 | s :: l => by rw [List.flatMap_cons, flat_strv l]; rfl
theorem kids_of {S : Nat → Prop} : ∀ (l : List (JV × List Value)), (∀ u ∈ l, u.2.length = 5 ∧ VRd W S u.1 u.2 ∧ JI u.1) → VRdL W S (l.map (·.1)) (l.flatMap (·.2)) ∧ JIL (l.map (·.1))
 | [], _ => by simp [VRdL, JIL]
 | u :: l, h => by
  obtain ⟨h1, h2⟩ := kids_of l (fun x hx => h x (by simp [hx]))
  obtain ⟨_, h3, h4⟩ := h u (by simp)
  rw [List.map_cons, List.flatMap_cons, VRdL, JIL]
  exact ⟨⟨_, _, rfl, h3, h1⟩, h4, h2⟩
theorem kids_w : ∀ (l : List (JV × List Value)), jWL (l.map (·.1)) = (l.map (fun u => jW u.1)).sum
 | [] => rfl
 | u :: l => by rw [List.map_cons, jWL, kids_w l]; rfl
theorem five_sum {H : Type} {xs : List (DataW H × List MemPlace)} (h : xs.length = 5) : ∃ x0 x1 x2 x3 x4, xs = [x0, x1, x2, x3, x4] := by
 match xs, h with
 | [x0, x1, x2, x3, x4], _ => exact ⟨_, _, _, _, _, rfl⟩
theorem jval_in' {t us : TypeId} {fs : Array Field} {f0 f1 f2 f3 f4 : Field} (T : JVT P t fs f0 f1 f2 f3 f4 us) : ∀ (N fuel : Nat) (cs : List Value) (x : DataW H × List MemPlace), fuel ≤ N → DataW.trod enc P W 0 (fun _ => true) hd fuel t cs = some x →
  ∃ v : JV, VRd W (· < W.heap.size) v cs ∧ cs.length = 5 ∧ JI v ∧ jW v ≤ Rows.uptoBulk x.1 := by
 intro N
 induction N with
 | zero =>
  intro fuel cs x hN h
  obtain rfl : fuel = 0 := by omega
  simp [DataW.trod] at h
 | succ N ih =>
  intro fuel cs x hN h
  obtain ⟨xs, n, rfl, hx, hlen, hxl, hg⟩ := DataW.trod_struct T.und h
  rw [T.at_] at hxl
  obtain ⟨x0, x1, x2, x3, x4, rfl⟩ := five_sum hxl
  have ho := T.off
  have ht := T.typ
  simp only [List.map_cons, List.map_nil, List.cons.injEq, Prod.mk.injEq, and_true] at ho ht
  obtain ⟨⟨o0, z0⟩, ⟨o1, z1⟩, ⟨o2, z2⟩, ⟨o3, z3⟩, ⟨o4, z4⟩⟩ := ho
  obtain ⟨u0, u1, u2, u3, u4⟩ := ht
  have g0 := hg 0 f0 (by rw [T.at_]; rfl)
  have g1 := hg 1 f1 (by rw [T.at_]; rfl)
  have g2 := hg 2 f2 (by rw [T.at_]; rfl)
  have g3 := hg 3 f3 (by rw [T.at_]; rfl)
  have g4 := hg 4 f4 (by rw [T.at_]; rfl)
  rw [o0, z0] at g0
  rw [o1, z1] at g1
  rw [o2, z2] at g2
  rw [o3, z3] at g3
  rw [o4, z4] at g4
  obtain ⟨k, e0, w0⟩ := ints_in u0 g0
  obtain ⟨m, e1, w1⟩ := ints_in u1 g1
  obtain ⟨s, e2, b2⟩ := strs_in u2 g2
  obtain ⟨An, nn, cn, ln, e3, hn1, hn2, hn3, hn4, hn5⟩ := slR_in (α := List UInt8) (f := fun s => [strv s]) (g := fun s => s.length + 1) (p := fun _ => True) u3 T.sone (by decide) (fun m cs x _ h => by
   obtain ⟨s, hs, hb⟩ := strs_in T.str h
   exact ⟨s.data.toList, by rw [hs]; rfl, rfl, trivial, by rw [str_len]; exact hb⟩) g3
  obtain ⟨Ak, nk, ck, lk, e4, hk1, hk2, hk3, hk4, hk5⟩ := slR_in (α := JV × List Value) (f := (·.2)) (g := fun u => jW u.1) (p := fun u => VRd W (· < W.heap.size) u.1 u.2 ∧ JI u.1) u4 T.size (by decide) (fun m cs x hm h => by
   obtain ⟨v, h1, h2, h3, h4⟩ := ih m cs x (by omega) h
   exact ⟨(v, cs), rfl, h2, ⟨h1, h3⟩, h4⟩) g4
  rw [T.size] at hlen
  rw [flat_strv] at hn3
  obtain ⟨hv, hi⟩ := kids_of lk hk4
  refine ⟨.mk k m s.data.toList ln (lk.map (·.1)), ?_, hlen, ?_, ?_⟩
  ·rw [VRd]
   refine ⟨An, nn, cn, Ak, nk, ck, lk.flatMap (·.2), hn1, hk1, ?_, hn3, hk3, hv⟩
   rw [show cs = cs.drop 0 from rfl, cut_at cs 0 1, e0, cut_at cs (0 + 1) 1, e1, cut_at cs (0 + 1 + 1) 1, e2, cut_at cs (0 + 1 + 1 + 1) 1, e3, cut_at cs (0 + 1 + 1 + 1 + 1) 1, e4, List.drop_of_length_le (by omega)]
   rfl
  ·rw [JI]
   exact ⟨i64_of_wf w0, i64_of_wf w1, hi⟩
  ·rw [hx, jW, kids_w]
   simp only [List.map_cons, List.map_nil, Rows.uptoBulk, Rows.uptoBulkAll]
   have : s.data.toList.length = s.size := str_len s
   omega
theorem jval_in {t us : TypeId} {fs : Array Field} {f0 f1 f2 f3 f4 : Field} (T : JVT P t fs f0 f1 f2 f3 f4 us) {r : Reach} {b0 : Nat} {v : Value} {d : DataW H} {ps : List MemPlace} (hv : Value.okWide P W r b0 t v) (h : DataW.Trod enc P W 0 (fun _ => true) hd t v d ps) :
  ∃ (q : JV) (cs : List Value), v = .agg cs.toArray ∧ VRd W (· < W.heap.size) q cs ∧ JI q ∧ jW q ≤ Rows.uptoBulk d := by
 obtain ⟨cs, rfl, hsz⟩ := okWide_struct T.und hv
 obtain ⟨fuel, hf⟩ := h
 obtain ⟨q, h1, h2, h3, h4⟩ := jval_in' T fuel fuel cs.toList (d, ps) (Nat.le_refl _) hf
 exact ⟨q, cs.toList, by simp, h1, h3, h4⟩
end
end Go.Proofs.YtlhicfpmlncomaaGreatDoor

namespace Go.Proofs.YtlhicfpmlncomaaGreatDoor
open Go.RowKit
set_option linter.unusedSimpArgs false
/-- What Write tells: the text of a value that is right, if it is not too long. -/
def jWrite (v : JV) : List UInt8 × Nat :=
 match jRight 16 v 0 with
 | none => ([], 1)
 | some _ => if 65536 < (jFull v).length then ([], 8) else (jFull v, 0)
end Go.Proofs.YtlhicfpmlncomaaGreatDoor
