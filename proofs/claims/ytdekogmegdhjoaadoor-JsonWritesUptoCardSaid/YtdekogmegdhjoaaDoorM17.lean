/-
  Layer 6: the document's lay, walked.
  What the second form's bound gives of a slice: its room.
  From what the form reads of structs that came in to the words of the walks: parts of the cells, one by one. No program is named here.
  A slice of any elements that came in. No program is named here.
-/
import Derived.Test.YtdekogmegdhjoaaDoorM16
import Derived.Test.YtdekogmegdhjoaaDoorM03
import Derived.Test.YtdekogmegdhjoaaDoorM14
import Derived.Test.YtdekogmegdhjoaaDoorRows
import Derived.Test.YtdekogmegdhjoaaDoorM01
namespace Go.Proofs.YtdekogmegdhjoaaDoor
open Go.RowKit
set_option linter.unusedSimpArgs false

mutual
/-- A value that the document may write: its kinds, its numbers, its members' names. -/
def JOk2 : JV → Prop
  | .mk k n _ ns ks => (k = 0 ∨ k = 1 ∨ k = 2 ∨ (k = 3 ∧ -9007199254740991 ≤ n ∧ n ≤ 9007199254740991) ∨ k = 4) ∨ (k = 5 ∧ JOk2L ks) ∨ (k = 6 ∧ ns.length = ks.length ∧ JOk2L ks)
def JOk2L : List JV → Prop
  | [] => True
  | v :: vs => JOk2 v ∧ JOk2L vs
end
theorem JOk2L.at : ∀ {ks : List JV} {i : Nat} {v : JV}, JOk2L ks → ks[i]? = some v → JOk2 v
  | [], _, _, _, hv => by cases hv
  | k :: ks, i, v, h, hv => by
    rw [JOk2L] at h
    cases i with
    | zero => injection hv with hv; subst hv; exact h.1
    | succ i => exact JOk2L.at h.2 (by simpa using hv)

set_option maxRecDepth 20000 in
set_option maxHeartbeats 12800000 in
theorem rlay_leaf (w0 w : World) (k n : Int) (t : List UInt8) (ns : List (List UInt8)) (ks : List JV) (An : Option Addr) (nn cn : Nat) (Ak : Option Addr) (nk ck : Nat) (A : Option Addr) (c : Nat) (out : List UInt8) (rest : List Ent) (hk4 : k = 0 ∨ k = 1 ∨ k = 2 ∨ (k = 3 ∧ -9007199254740991 ≤ n ∧ n ≤ 9007199254740991) ∨ k = 4)
    (hroom : out.length + 6 * (jFull (.mk k n t ns ks)).length ≤ 140737480000000) (hF : Fr [] w0 w (Ent.bytes w0.heap.size 5 (.slice A out.length c) out :: rest)) :
    Calls Tryd.prog 52 #[.slice A out.length c, .agg (vlL k n ⟨t.toArray⟩ (.slice An nn cn) (.slice Ak nk ck)).toArray] w (WrPost w0 rest (out ++ jFull (.mk k n t ns ks))) := by
    rcases hk4 with hk | hk | hk | ⟨hk, hn0, hn1⟩ | hk
    · subst hk
      have hfu : Box (jFull (.mk 0 n t ns ks) = [110, 117, 108, 108]) := box (by rw [jFull]; rfl)
      rw [hfu.out] at hroom
      have hwd : Box (([.string ⟨#[110, 117, 108, 108]⟩, .string ⟨#[102, 97, 108, 115, 101]⟩, .string ⟨#[116, 114, 117, 101]⟩] : List Value)[0]? = some (.string ⟨#[110, 117, 108, 108]⟩)) := box rfl
      go_enter Tryd.func52, Tryd.ntmps52
      go_wp2_with (first | ((with_reducible refine lst (by with_unfolding_all rfl) (wp_fbox hF (cs := (vlL 0 n ⟨t.toArray⟩ (.slice An nn cn) (.slice Ak nk ck))) rfl (by with_unfolding_all rfl) (by with_unfolding_all rfl) ?_)); intro w1 g1 hF1 hz1) | ((with_reducible refine lst (by with_unfolding_all rfl) (wp_fbsl T_strs hF1 (vs := [.string ⟨#[110, 117, 108, 108]⟩, .string ⟨#[102, 97, 108, 115, 101]⟩, .string ⟨#[116, 114, 117, 101]⟩]) (by with_unfolding_all rfl) (by with_unfolding_all rfl) (by with_unfolding_all rfl) (by decide) (by simp [Value.cells]) ?_)); intro w2 g2 hF2 hz2) | (with_reducible refine lst (by with_unfolding_all rfl) (wp_fld1 hF2 Tryd.underlying3 rfl (by with_unfolding_all exact ⟨_, rfl, rfl⟩) rfl ?_)) | (with_reducible refine lst (by with_unfolding_all rfl) (wp_indexAddr T_strs (hF2.rdOwn (i := 0) rfl) (by with_unfolding_all exact ⟨_, _, _, _, rfl, rfl, rfl⟩) (by omega) (by omega) ?_)) | (with_reducible refine lst (by with_unfolding_all rfl) (wp_load1C (hF2.rdOwn (i := 0) rfl) hwd Tryd.underlying9 rfl (by with_unfolding_all exact ⟨_, rfl, rfl⟩) (by first | (simp; done) | (simp; omega) | omega) ?_)) | ((with_reducible refine lst (by with_unfolding_all rfl) (wp_fs2b T_u8 Tryd.underlying5 Tryd.underlying9 hF2 (by with_unfolding_all exact ⟨_, rfl, rfl⟩) ?_)); intro w3 g3 c3 hF3 hz3 hc3) | ((with_reducible refine lst (by with_unfolding_all rfl) (wp_fapp3 T_u8 hF3 (Nat.le_refl _) (hF3.rd (i := 0) rfl : Rd _ _ _ 1 4 (([110, 117, 108, 108] : List UInt8).map bv)) (by with_unfolding_all exact ⟨_, _, rfl, rfl, rfl⟩) (by simp at hroom; omega) ?_)); intro v4 w4 hF4 hz4))
      go_ret
      refine ⟨_, _, rfl, box ⟨Nat.le_refl _, .inl rfl⟩, ?_⟩
      rw [hfu.out]
      exact hF4.tail.tail.tail
    · subst hk
      have hfu : Box (jFull (.mk 1 n t ns ks) = [102, 97, 108, 115, 101]) := box (by rw [jFull]; rfl)
      rw [hfu.out] at hroom
      have hwd : Box (([.string ⟨#[110, 117, 108, 108]⟩, .string ⟨#[102, 97, 108, 115, 101]⟩, .string ⟨#[116, 114, 117, 101]⟩] : List Value)[1]? = some (.string ⟨#[102, 97, 108, 115, 101]⟩)) := box rfl
      go_enter Tryd.func52, Tryd.ntmps52
      go_wp2_with (first | ((with_reducible refine lst (by with_unfolding_all rfl) (wp_fbox hF (cs := (vlL 1 n ⟨t.toArray⟩ (.slice An nn cn) (.slice Ak nk ck))) rfl (by with_unfolding_all rfl) (by with_unfolding_all rfl) ?_)); intro w1 g1 hF1 hz1) | ((with_reducible refine lst (by with_unfolding_all rfl) (wp_fbsl T_strs hF1 (vs := [.string ⟨#[110, 117, 108, 108]⟩, .string ⟨#[102, 97, 108, 115, 101]⟩, .string ⟨#[116, 114, 117, 101]⟩]) (by with_unfolding_all rfl) (by with_unfolding_all rfl) (by with_unfolding_all rfl) (by decide) (by simp [Value.cells]) ?_)); intro w2 g2 hF2 hz2) | (with_reducible refine lst (by with_unfolding_all rfl) (wp_fld1 hF2 Tryd.underlying3 rfl (by with_unfolding_all exact ⟨_, rfl, rfl⟩) rfl ?_)) | (with_reducible refine lst (by with_unfolding_all rfl) (wp_indexAddr T_strs (hF2.rdOwn (i := 0) rfl) (by with_unfolding_all exact ⟨_, _, _, _, rfl, rfl, rfl⟩) (by omega) (by omega) ?_)) | (with_reducible refine lst (by with_unfolding_all rfl) (wp_load1C (hF2.rdOwn (i := 0) rfl) hwd Tryd.underlying9 rfl (by with_unfolding_all exact ⟨_, rfl, rfl⟩) (by first | (simp; done) | (simp; omega) | omega) ?_)) | ((with_reducible refine lst (by with_unfolding_all rfl) (wp_fs2b T_u8 Tryd.underlying5 Tryd.underlying9 hF2 (by with_unfolding_all exact ⟨_, rfl, rfl⟩) ?_)); intro w3 g3 c3 hF3 hz3 hc3) | ((with_reducible refine lst (by with_unfolding_all rfl) (wp_fapp3 T_u8 hF3 (Nat.le_refl _) (hF3.rd (i := 0) rfl : Rd _ _ _ 1 5 (([102, 97, 108, 115, 101] : List UInt8).map bv)) (by with_unfolding_all exact ⟨_, _, rfl, rfl, rfl⟩) (by simp at hroom; omega) ?_)); intro v4 w4 hF4 hz4))
      go_ret
      refine ⟨_, _, rfl, box ⟨Nat.le_refl _, .inl rfl⟩, ?_⟩
      rw [hfu.out]
      exact hF4.tail.tail.tail
    · subst hk
      have hfu : Box (jFull (.mk 2 n t ns ks) = [116, 114, 117, 101]) := box (by rw [jFull]; rfl)
      rw [hfu.out] at hroom
      have hwd : Box (([.string ⟨#[110, 117, 108, 108]⟩, .string ⟨#[102, 97, 108, 115, 101]⟩, .string ⟨#[116, 114, 117, 101]⟩] : List Value)[2]? = some (.string ⟨#[116, 114, 117, 101]⟩)) := box rfl
      go_enter Tryd.func52, Tryd.ntmps52
      go_wp2_with (first | ((with_reducible refine lst (by with_unfolding_all rfl) (wp_fbox hF (cs := (vlL 2 n ⟨t.toArray⟩ (.slice An nn cn) (.slice Ak nk ck))) rfl (by with_unfolding_all rfl) (by with_unfolding_all rfl) ?_)); intro w1 g1 hF1 hz1) | ((with_reducible refine lst (by with_unfolding_all rfl) (wp_fbsl T_strs hF1 (vs := [.string ⟨#[110, 117, 108, 108]⟩, .string ⟨#[102, 97, 108, 115, 101]⟩, .string ⟨#[116, 114, 117, 101]⟩]) (by with_unfolding_all rfl) (by with_unfolding_all rfl) (by with_unfolding_all rfl) (by decide) (by simp [Value.cells]) ?_)); intro w2 g2 hF2 hz2) | (with_reducible refine lst (by with_unfolding_all rfl) (wp_fld1 hF2 Tryd.underlying3 rfl (by with_unfolding_all exact ⟨_, rfl, rfl⟩) rfl ?_)) | (with_reducible refine lst (by with_unfolding_all rfl) (wp_indexAddr T_strs (hF2.rdOwn (i := 0) rfl) (by with_unfolding_all exact ⟨_, _, _, _, rfl, rfl, rfl⟩) (by omega) (by omega) ?_)) | (with_reducible refine lst (by with_unfolding_all rfl) (wp_load1C (hF2.rdOwn (i := 0) rfl) hwd Tryd.underlying9 rfl (by with_unfolding_all exact ⟨_, rfl, rfl⟩) (by first | (simp; done) | (simp; omega) | omega) ?_)) | ((with_reducible refine lst (by with_unfolding_all rfl) (wp_fs2b T_u8 Tryd.underlying5 Tryd.underlying9 hF2 (by with_unfolding_all exact ⟨_, rfl, rfl⟩) ?_)); intro w3 g3 c3 hF3 hz3 hc3) | ((with_reducible refine lst (by with_unfolding_all rfl) (wp_fapp3 T_u8 hF3 (Nat.le_refl _) (hF3.rd (i := 0) rfl : Rd _ _ _ 1 4 (([116, 114, 117, 101] : List UInt8).map bv)) (by with_unfolding_all exact ⟨_, _, rfl, rfl, rfl⟩) (by simp at hroom; omega) ?_)); intro v4 w4 hF4 hz4))
      go_ret
      refine ⟨_, _, rfl, box ⟨Nat.le_refl _, .inl rfl⟩, ?_⟩
      rw [hfu.out]
      exact hF4.tail.tail.tail
    · subst hk
      have hfu : Box (jFull (.mk 3 n t ns ks) = Lib.itoa n) := box (by rw [jFull]; rfl)
      rw [hfu.out] at hroom
      have hil := itoa_len (n := n) (by omega) (by omega)
      have hde := box (fun w' => rdec_any n w' hn0 hn1)
      replace hn0 := box hn0
      replace hn1 := box hn1
      go_enter Tryd.func52, Tryd.ntmps52
      go_wp2_with (first | ((with_reducible refine lst (by with_unfolding_all rfl) (wp_fbox hF (cs := (vlL 3 n ⟨t.toArray⟩ (.slice An nn cn) (.slice Ak nk ck))) rfl (by with_unfolding_all rfl) (by with_unfolding_all rfl) ?_)); intro w1 g1 hF1 hz1) | ((with_reducible refine lst (by with_unfolding_all rfl) (wp_fbsl T_strs hF1 (vs := [.string ⟨#[110, 117, 108, 108]⟩, .string ⟨#[102, 97, 108, 115, 101]⟩, .string ⟨#[116, 114, 117, 101]⟩]) (by with_unfolding_all rfl) (by with_unfolding_all rfl) (by with_unfolding_all rfl) (by decide) (by simp [Value.cells]) ?_)); intro w2 g2 hF2 hz2) | (with_reducible refine lst (by with_unfolding_all rfl) (wp_fld1 hF2 Tryd.underlying3 rfl (by with_unfolding_all exact ⟨_, rfl, rfl⟩) rfl ?_)))
      refine (hde.out _).mono ?_
      rintro e w3 ⟨rfl, hb3⟩
      have hF3 := hF2.call hb3
      obtain ⟨I, hI⟩ : ∃ I, I = Lib.itoa n := ⟨_, rfl⟩
      rw [← hI] at hil hfu hroom
      rw [← hI]
      replace hI := box hI
      go_wp2_with (first | ((with_reducible refine lst (by with_unfolding_all rfl) (wp_fs2b T_u8 Tryd.underlying5 Tryd.underlying9 hF3 (by with_unfolding_all exact ⟨_, rfl, rfl⟩) ?_)); intro w4 g4 c4 hF4 hz4 hc4) | ((with_reducible refine lst (by with_unfolding_all rfl) (wp_fapp3 T_u8 hF4 (Nat.le_refl _) (by have h := hF4.rd (i := 0) rfl; rw [str_mk_size] at h; exact (h : Rd _ _ _ 1 I.length (I.map bv))) (by with_unfolding_all exact ⟨_, _, rfl, rfl, rfl⟩) (by omega) ?_)); intro v5 w5 hF5 hz5))
      go_ret
      refine ⟨_, _, rfl, box ⟨Nat.le_refl _, .inl rfl⟩, ?_⟩
      rw [hfu.out]
      exact hF5.tail.tail.tail
    · subst hk
      have hfu : Box (jFull (.mk 4 n t ns ks) = jQuote t) := box (by rw [jFull]; rfl)
      rw [hfu.out] at hroom
      have hqg := jQuote_ge t
      go_enter Tryd.func52, Tryd.ntmps52
      go_wp2_with (first | ((with_reducible refine lst (by with_unfolding_all rfl) (wp_fbox hF (cs := (vlL 4 n ⟨t.toArray⟩ (.slice An nn cn) (.slice Ak nk ck))) rfl (by with_unfolding_all rfl) (by with_unfolding_all rfl) ?_)); intro w1 g1 hF1 hz1) | ((with_reducible refine lst (by with_unfolding_all rfl) (wp_fbsl T_strs hF1 (vs := [.string ⟨#[110, 117, 108, 108]⟩, .string ⟨#[102, 97, 108, 115, 101]⟩, .string ⟨#[116, 114, 117, 101]⟩]) (by with_unfolding_all rfl) (by with_unfolding_all rfl) (by with_unfolding_all rfl) (by decide) (by simp [Value.cells]) ?_)); intro w2 g2 hF2 hz2) | (with_reducible refine lst (by with_unfolding_all rfl) (wp_fld1 hF2 Tryd.underlying3 rfl (by with_unfolding_all exact ⟨_, rfl, rfl⟩) rfl ?_)) | (with_reducible refine lst (by with_unfolding_all rfl) (wp_fld1 hF2 Tryd.underlying9 rfl (by with_unfolding_all exact ⟨_, rfl, rfl⟩) rfl ?_)))
      have hF3 := hF2.perm ((List.Perm.swap _ _ _).trans ((List.Perm.swap _ _ _).cons _) |>.trans (List.Perm.swap _ _ _))
      have hq := rquote_any [] w0 w2 A c out _ ⟨t.toArray⟩ (by rw [str_mk_size]; omega) hF3
      refine hq.mono ?_
      rintro e w4 ⟨v4, rfl, hF4⟩
      clear hq
      go_wp2_with fail
      go_ret
      refine ⟨_, _, rfl, box ⟨Nat.le_refl _, .inl rfl⟩, ?_⟩
      rw [hfu.out]
      exact hF4.drop1.drop1

set_option maxRecDepth 20000 in
set_option maxHeartbeats 25600000 in
theorem rlay_any (N : Nat) : ∀ (v : JV) (cs : List Value) (w0 w : World) (A : Option Addr) (c : Nat) (out : List UInt8) (rest : List Ent), SizeOf.sizeOf v ≤ N → VRd w0 (· < w0.heap.size) v cs → JSm v → JOk2 v → out.length + 6 * (jFull v).length ≤ 140737480000000 →
    Fr [] w0 w (Ent.bytes w0.heap.size 5 (.slice A out.length c) out :: rest) →
    Calls Tryd.prog 52 #[.slice A out.length c, .agg cs.toArray] w (WrPost w0 rest (out ++ jFull v)) := by
  induction N with
  | zero => intro v _ _ _ _ _ _ _ h; cases v; simp only [JV.mk.sizeOf_spec] at h; omega
  | succ N ih =>
    intro v cs w0 w A c out rest hN hv hsm hok hroom hF
    obtain ⟨k, n, t, ns, ks⟩ := v
    rw [VRd] at hv
    obtain ⟨An, nn, cn, Ak, nk, ck, xk, hcn, hck, rfl, hrn, hrk, hvk⟩ := hv
    rw [JSm] at hsm
    obtain ⟨hs1, hs2, hs3⟩ := hsm
    have hnk : ks.length = nk := by have := hrk.len; rw [hvk.len] at this; omega
    rw [hnk] at hs2
    replace hnk := box hnk
    replace hvk := box hvk
    replace hs3 := box hs3
    replace hN := box hN
    replace hrn := box hrn
    replace hrk := box hrk
    have hnn : ns.length = nn := by have := hrn.out.len; simpa using this
    rw [hnn] at hs1
    replace hnn := box hnn
    rw [JOk2] at hok
    rcases hok with hk | hk | hk
    · exact rlay_leaf w0 w k n t ns ks An nn cn Ak nk ck A c out rest hk hroom hF
    · obtain ⟨rfl, hok⟩ := hk
      replace hok := box hok
      have hfu : Box (jFull (.mk 5 n t ns ks) = [91] ++ jFullL false false ns ks ++ [93]) := box (by rw [jFull]; rfl)
      obtain ⟨FU, hFU⟩ : ∃ FU, FU = jFull (.mk 5 n t ns ks) := ⟨_, rfl⟩
      rw [← hFU] at hroom hfu
      rw [← hFU]
      have hFl1 : 1 ≤ FU.length := by rw [hfu.out]; simp
      clear hFU
      go_enter Tryd.func52, Tryd.ntmps52
      go_wp2_with (first | ((with_reducible refine lst (by with_unfolding_all rfl) (wp_fbox hF (cs := (vlL 5 n ⟨t.toArray⟩ (.slice An nn cn) (.slice Ak nk ck))) rfl (by with_unfolding_all rfl) (by with_unfolding_all rfl) ?_)); intro w1 g1 hF1 hz1) | ((with_reducible refine lst (by with_unfolding_all rfl) (wp_fbsl T_strs hF1 (vs := [.string ⟨#[110, 117, 108, 108]⟩, .string ⟨#[102, 97, 108, 115, 101]⟩, .string ⟨#[116, 114, 117, 101]⟩]) (by with_unfolding_all rfl) (by with_unfolding_all rfl) (by with_unfolding_all rfl) (by decide) (by simp [Value.cells]) ?_)); intro w2 g2 hF2 hz2) | (with_reducible refine lst (by with_unfolding_all rfl) (wp_fld1 hF2 Tryd.underlying3 rfl (by with_unfolding_all exact ⟨_, rfl, rfl⟩) rfl ?_)) | ((with_reducible refine lst (by with_unfolding_all rfl) (wp_fbsl T_u8 hF2 (vs := [bv 91]) (by with_unfolding_all rfl) (by with_unfolding_all rfl) (by with_unfolding_all rfl) (by decide) (by simp [bv, Value.cells]) ?_)); intro w3 g3 hF3 hz3; have hr3 : Rd w3 (· < w3.heap.size) (some ⟨g3, 0, none⟩) 1 1 ([91].map bv) := hF3.rdOwn0; replace hF3 : Fr _ _ w3 (Ent.bytes _ 5 (.slice (some ⟨g3, 0, none⟩) 1 1) [91] :: _) := hF3) | ((with_reducible refine lst (by with_unfolding_all rfl) (wp_fapp3 T_u8 hF3 (Nat.le_refl _) hr3 (by with_unfolding_all exact ⟨_, _, rfl, rfl, rfl⟩) (by omega) ?_)); intro v4 w4 hF4 hz4))
      have hF5 := hF4.tail.tail.perm (List.Perm.swap _ _ _)
      clear hF hF1 hF2 hF3 hF4
      go_loopg [0, 8] nk (fun gk v s wr => ∃ (i : Nat) (P O : List UInt8), i ≤ nk ∧ Box (gk = nk - i) ∧ s = .int .i64 (i : Int) ∧ Box (out ++ FU = P ++ jFullL false (decide (0 < i)) (ns.drop i) (ks.drop i) ++ [93]) ∧ out.length ≤ P.length ∧ Box (O.length ≤ P.length ∧ (O = P ∨ 65536 < O.length)) ∧ Fr [] w0 wr (Ent.bytes w0.heap.size 5 v O :: .blk g1 33 (vlL 5 n ⟨t.toArray⟩ (.slice An nn cn) (.slice Ak nk ck)) :: rest))
      case atStart => exact ⟨0, out ++ [91], out ++ [91], by omega, box rfl, rfl, box (by rw [hfu.out]; simp), by simp, box ⟨Nat.le_refl _, .inl rfl⟩, hF5⟩
      case round =>
        clear hF5
        obtain ⟨i, P, O, hi, hk, rfl, hfull, hoP, hO, hF⟩ := hrel
        have hkf : Box (gk = nk - i) := hk
        clear hk
        obtain ⟨Ao, co, rfl, hco, hro⟩ := (hF.own (i := 0) rfl).arg
        have hPl : P.length + 1 ≤ out.length + FU.length := by have := congrArg List.length hfull.out; simp only [List.length_append, List.length_cons, List.length_nil] at this; omega
        have hOl : O.length ≤ P.length := hO.out.1
        by_cases hlt : i < nk
        · by_cases hbig : 65536 < O.length
          · have d1 : decide ((O.length : Int) ≤ 65536) = false := decide_eq_false (by omega)
            have hkl : Box (jFullL false (decide (0 < i)) (ns.drop i) (ks.drop i) ≠ [] ∨ True) := box (.inr trivial)
            replace hbig := box hbig
            go_wp2_with (first | (with_reducible refine lst (by with_unfolding_all rfl) (wp_fld1 hF Tryd.underlying3 rfl (by with_unfolding_all exact ⟨_, rfl, rfl⟩) rfl ?_)) | (with_reducible refine lst (by with_unfolding_all rfl) (wp_fld1 hF Tryd.underlying24 rfl (by with_unfolding_all exact ⟨_, rfl, rfl⟩) rfl ?_)) | (with_reducible refine lst (by with_unfolding_all rfl) (wp_fld1 hF Tryd.underlying31 rfl (by with_unfolding_all exact ⟨_, rfl, rfl⟩) rfl ?_)) | ((with_reducible refine lst (by with_unfolding_all rfl) (wp_fbsl T_u8 hF (vs := [bv 93]) (by with_unfolding_all rfl) (by with_unfolding_all rfl) (by with_unfolding_all rfl) (by decide) (by simp [bv, Value.cells]) ?_)); intro w6 g6 hF6 hz6; have hr6 : Rd w6 (· < w6.heap.size) (some ⟨g6, 0, none⟩) 1 1 ([93].map bv) := hF6.rdOwn0; replace hF6 : Fr _ _ w6 (Ent.bytes _ 5 (.slice (some ⟨g6, 0, none⟩) 1 1) [93] :: _) := hF6) | ((with_reducible refine lst (by with_unfolding_all rfl) (wp_fapp1 T_u8 hF6 (Nat.le_refl _) hr6 (by with_unfolding_all exact ⟨_, _, rfl, rfl, rfl⟩) (by omega) ?_)); intro v7 w7 hF7 hz7))
            go_ret
            refine ⟨_, _, rfl, box ⟨?_, .inr (by have := hbig.out; simp only [List.length_append, List.length_cons, List.length_nil]; omega)⟩, hF7.tail.drop1⟩
            simp only [List.length_append, List.length_cons, List.length_nil]
            omega
          · obtain ⟨vi, hvi⟩ : ∃ vi, ks[i]? = some vi := ⟨ks[i]'(by rw [hnk.out]; exact hlt), by simp⟩
            obtain ⟨ci, hci, hvri⟩ := hvk.out.at hvi
            have hcil := box hvri.len
            replace hci := box hci
            have hsi := box (hs3.out.at hvi)
            have hoki := box (hok.out.at hvi)
            have hsz : Box (SizeOf.sizeOf vi ≤ N) := box (by have := JV.size_kid (k := 5) (n := n) (t := t) (ns := ns) hvi; have := hN.out; omega)
            have hstep := box (hfull.out.trans (by rw [jFullL_drop hvi]))
            replace hvi := box hvi
            replace hvri := box hvri
            have hOP : O = P := hO.out.2.resolve_right hbig
            subst hOP
            have d1 : decide ((O.length : Int) ≤ 65536) = true := decide_eq_true (by omega)
            replace hbig := box hbig
            clear hO hfull
            by_cases h0 : 0 < i
            · have hz : decide (0 < i) = true := decide_eq_true h0
              rw [hz] at hstep
              clear hz
              replace hstep : Box (out ++ FU = (O ++ [44]) ++ jFull vi ++ jFullL false true (ns.drop (i + 1)) (ks.drop (i + 1)) ++ [93]) := box (hstep.out.trans (by simp))
              have hrl : (O ++ [44]).length + (jFull vi).length + 1 ≤ out.length + FU.length := by have := congrArg List.length hstep.out; simp only [List.length_append, List.length_cons, List.length_nil] at this ⊢; omega
              have hbo : out.length ≤ (O ++ [44]).length := by first | omega | (simp only [List.length_append]; omega)
              go_wp2_with (first | (with_reducible refine lst (by with_unfolding_all rfl) (wp_fld1 hF Tryd.underlying3 rfl (by with_unfolding_all exact ⟨_, rfl, rfl⟩) rfl ?_)) | (with_reducible refine lst (by with_unfolding_all rfl) (wp_fld1 hF Tryd.underlying24 rfl (by with_unfolding_all exact ⟨_, rfl, rfl⟩) rfl ?_)) | (with_reducible refine lst (by with_unfolding_all rfl) (wp_fld1 hF Tryd.underlying31 rfl (by with_unfolding_all exact ⟨_, rfl, rfl⟩) rfl ?_)) | ((with_reducible refine lst (by with_unfolding_all rfl) (wp_fbsl T_u8 hF (vs := [bv 44]) (by with_unfolding_all rfl) (by with_unfolding_all rfl) (by with_unfolding_all rfl) (by decide) (by simp [bv, Value.cells]) ?_)); intro w8 g8 hF8 hz8; have hr8 : Rd w8 (· < w8.heap.size) (some ⟨g8, 0, none⟩) 1 1 ([44].map bv) := hF8.rdOwn0; replace hF8 : Fr _ _ w8 (Ent.bytes _ 5 (.slice (some ⟨g8, 0, none⟩) 1 1) [44] :: _) := hF8) | ((with_reducible refine lst (by with_unfolding_all rfl) (wp_fapp1 T_u8 hF8 (Nat.le_refl _) hr8 (by with_unfolding_all exact ⟨_, _, rfl, rfl, rfl⟩) (by omega) ?_)); intro v9 w9 hF9 hz9) | (with_reducible refine lst (by with_unfolding_all rfl) (wp_fld2 hF9 Tryd.underlying3 rfl (by with_unfolding_all exact ⟨_, rfl, rfl⟩) rfl ?_)) | (with_reducible refine lst (by with_unfolding_all rfl) (wp_fld2 hF9 Tryd.underlying24 rfl (by with_unfolding_all exact ⟨_, rfl, rfl⟩) rfl ?_)) | (with_reducible refine lst (by with_unfolding_all rfl) (wp_fld2 hF9 Tryd.underlying31 rfl (by with_unfolding_all exact ⟨_, rfl, rfl⟩) rfl ?_)) | (with_reducible refine lst (by with_unfolding_all rfl) (wp_fld2 hF9 Tryd.underlying3 rfl (by with_unfolding_all exact ⟨_, rfl, rfl⟩) rfl ?_)) | (with_reducible refine lst (by with_unfolding_all rfl) (wp_fld2 hF9 Tryd.underlying24 rfl (by with_unfolding_all exact ⟨_, rfl, rfl⟩) rfl ?_)) | (with_reducible refine lst (by with_unfolding_all rfl) (wp_fld2 hF9 Tryd.underlying31 rfl (by with_unfolding_all exact ⟨_, rfl, rfl⟩) rfl ?_)) | (with_reducible refine lst (by with_unfolding_all rfl) (wp_indexAddr T_rvals (hrk.out.below hF9.below) (by with_unfolding_all exact ⟨_, _, _, _, rfl, rfl, rfl⟩) (by omega) (by omega) ?_)) | (with_reducible refine lst (by with_unfolding_all rfl) (wp_loadA (hrk.out.below hF9.below) Tryd.underlying33 rfl (by with_unfolding_all exact ⟨_, rfl, rfl⟩) (ds := ci) (by rw [hcil.out]; kernel_rfl) (by rw [hcil.out]; with_unfolding_all exact hci.out) ?_)))
              have hF14 := hF9.tail
              obtain ⟨A14, c14, hv14, hc14, hr14⟩ := (hF14.own (i := 0) rfl).arg
              subst hv14
              have hwr := ih vi ci w0 _ _ _ (O ++ [44]) _ hsz.out hvri.out hsi.out hoki.out (by omega) hF14
              refine hwr.mono ?_
              rintro e w15 ⟨v15, l15, rfl, hl15, hF15⟩
              clear hwr
              go_wp2_with fail
              go_roundg (nk - (i + 1))
              case rel => exact ⟨i + 1, (O ++ [44]) ++ jFull vi, l15, by omega, box rfl, by go_num, box (by rw [hstep.out, decide_eq_true (Nat.succ_pos _)]), by rw [List.length_append]; omega, hl15, hF15⟩
              case measure => have := hkf.out; omega
            · obtain rfl : i = 0 := by omega
              replace hstep : Box (out ++ FU = (O) ++ jFull vi ++ jFullL false true (ns.drop (0 + 1)) (ks.drop (0 + 1)) ++ [93]) := box (hstep.out.trans (by simp))
              have hrl : (O).length + (jFull vi).length + 1 ≤ out.length + FU.length := by have := congrArg List.length hstep.out; simp only [List.length_append, List.length_cons, List.length_nil] at this ⊢; omega
              have hbo : out.length ≤ (O).length := by first | omega | (simp only [List.length_append]; omega)
              go_wp2_with (first | (with_reducible refine lst (by with_unfolding_all rfl) (wp_fld1 hF Tryd.underlying3 rfl (by with_unfolding_all exact ⟨_, rfl, rfl⟩) rfl ?_)) | (with_reducible refine lst (by with_unfolding_all rfl) (wp_fld1 hF Tryd.underlying24 rfl (by with_unfolding_all exact ⟨_, rfl, rfl⟩) rfl ?_)) | (with_reducible refine lst (by with_unfolding_all rfl) (wp_fld1 hF Tryd.underlying31 rfl (by with_unfolding_all exact ⟨_, rfl, rfl⟩) rfl ?_)) | (with_reducible refine lst (by with_unfolding_all rfl) (wp_fld1 hF Tryd.underlying3 rfl (by with_unfolding_all exact ⟨_, rfl, rfl⟩) rfl ?_)) | (with_reducible refine lst (by with_unfolding_all rfl) (wp_fld1 hF Tryd.underlying24 rfl (by with_unfolding_all exact ⟨_, rfl, rfl⟩) rfl ?_)) | (with_reducible refine lst (by with_unfolding_all rfl) (wp_fld1 hF Tryd.underlying31 rfl (by with_unfolding_all exact ⟨_, rfl, rfl⟩) rfl ?_)) | (with_reducible refine lst (by with_unfolding_all rfl) (wp_indexAddr T_rvals (hrk.out.below hF.below) (by with_unfolding_all exact ⟨_, _, _, _, rfl, rfl, rfl⟩) (by omega) (by omega) ?_)) | (with_reducible refine lst (by with_unfolding_all rfl) (wp_loadA (hrk.out.below hF.below) Tryd.underlying33 rfl (by with_unfolding_all exact ⟨_, rfl, rfl⟩) (ds := ci) (by rw [hcil.out]; kernel_rfl) (by rw [hcil.out]; with_unfolding_all exact hci.out) ?_)))
              have hF14 := hF
              have hwr := ih vi ci w0 _ _ _ (O) _ hsz.out hvri.out hsi.out hoki.out (by omega) hF14
              refine hwr.mono ?_
              rintro e w15 ⟨v15, l15, rfl, hl15, hF15⟩
              clear hwr
              go_wp2_with fail
              go_roundg (nk - (0 + 1))
              case rel => exact ⟨0 + 1, (O) ++ jFull vi, l15, by omega, box rfl, by go_num, box (by rw [hstep.out, decide_eq_true (Nat.succ_pos _)]), by rw [List.length_append]; omega, hl15, hF15⟩
              case measure => have := hkf.out; omega
        · have hin : nk = i := by omega
          subst hin
          have hend : Box (out ++ FU = P ++ [93]) := box (by
            rw [hfull.out, List.drop_of_length_le (l := ks) (by rw [hnk.out]; exact Nat.le_refl _), jFullL, List.append_nil])
          clear hfull hkf
          go_wp2_with (first | (with_reducible refine lst (by with_unfolding_all rfl) (wp_fld1 hF Tryd.underlying3 rfl (by with_unfolding_all exact ⟨_, rfl, rfl⟩) rfl ?_)) | (with_reducible refine lst (by with_unfolding_all rfl) (wp_fld1 hF Tryd.underlying24 rfl (by with_unfolding_all exact ⟨_, rfl, rfl⟩) rfl ?_)) | (with_reducible refine lst (by with_unfolding_all rfl) (wp_fld1 hF Tryd.underlying31 rfl (by with_unfolding_all exact ⟨_, rfl, rfl⟩) rfl ?_)) | ((with_reducible refine lst (by with_unfolding_all rfl) (wp_fbsl T_u8 hF (vs := [bv 93]) (by with_unfolding_all rfl) (by with_unfolding_all rfl) (by with_unfolding_all rfl) (by decide) (by simp [bv, Value.cells]) ?_)); intro w5 g5 hF5 hz5; have hr5 : Rd w5 (· < w5.heap.size) (some ⟨g5, 0, none⟩) 1 1 ([93].map bv) := hF5.rdOwn0; replace hF5 : Fr _ _ w5 (Ent.bytes _ 5 (.slice (some ⟨g5, 0, none⟩) 1 1) [93] :: _) := hF5) | ((with_reducible refine lst (by with_unfolding_all rfl) (wp_fapp1 T_u8 hF5 (Nat.le_refl _) hr5 (by with_unfolding_all exact ⟨_, _, rfl, rfl, rfl⟩) (by omega) ?_)); intro v6 w6 hF6 hz6))
          go_ret
          refine ⟨_, _, rfl, box ⟨?_, ?_⟩, hF6.tail.drop1⟩
          · rw [hend.out]; simp only [List.length_append, List.length_cons, List.length_nil]; omega
          · rcases hO.out.2 with h | h
            · left; rw [hend.out, h]
            · right; simp only [List.length_append, List.length_cons, List.length_nil]; omega

    · obtain ⟨rfl, hnk5, hok⟩ := hk
      replace hok := box hok
      have hnn5 := hnn.out
      rw [hnn5] at hnk5
      rw [hnk.out] at hnk5
      have hnnk : nk ≤ nn := by omega
      replace hnk5 := box hnk5
      clear hnn5
      have hfu : Box (jFull (.mk 6 n t ns ks) = [123] ++ jFullL true false ns ks ++ [125]) := box (by rw [jFull]; rfl)
      obtain ⟨FU, hFU⟩ : ∃ FU, FU = jFull (.mk 6 n t ns ks) := ⟨_, rfl⟩
      rw [← hFU] at hroom hfu
      rw [← hFU]
      have hFl1 : 1 ≤ FU.length := by rw [hfu.out]; simp
      clear hFU
      go_enter Tryd.func52, Tryd.ntmps52
      go_wp2_with (first | ((with_reducible refine lst (by with_unfolding_all rfl) (wp_fbox hF (cs := (vlL 6 n ⟨t.toArray⟩ (.slice An nn cn) (.slice Ak nk ck))) rfl (by with_unfolding_all rfl) (by with_unfolding_all rfl) ?_)); intro w1 g1 hF1 hz1) | ((with_reducible refine lst (by with_unfolding_all rfl) (wp_fbsl T_strs hF1 (vs := [.string ⟨#[110, 117, 108, 108]⟩, .string ⟨#[102, 97, 108, 115, 101]⟩, .string ⟨#[116, 114, 117, 101]⟩]) (by with_unfolding_all rfl) (by with_unfolding_all rfl) (by with_unfolding_all rfl) (by decide) (by simp [Value.cells]) ?_)); intro w2 g2 hF2 hz2) | (with_reducible refine lst (by with_unfolding_all rfl) (wp_fld1 hF2 Tryd.underlying3 rfl (by with_unfolding_all exact ⟨_, rfl, rfl⟩) rfl ?_)) | ((with_reducible refine lst (by with_unfolding_all rfl) (wp_fbsl T_u8 hF2 (vs := [bv 123]) (by with_unfolding_all rfl) (by with_unfolding_all rfl) (by with_unfolding_all rfl) (by decide) (by simp [bv, Value.cells]) ?_)); intro w3 g3 hF3 hz3; have hr3 : Rd w3 (· < w3.heap.size) (some ⟨g3, 0, none⟩) 1 1 ([123].map bv) := hF3.rdOwn0; replace hF3 : Fr _ _ w3 (Ent.bytes _ 5 (.slice (some ⟨g3, 0, none⟩) 1 1) [123] :: _) := hF3) | ((with_reducible refine lst (by with_unfolding_all rfl) (wp_fapp3 T_u8 hF3 (Nat.le_refl _) hr3 (by with_unfolding_all exact ⟨_, _, rfl, rfl, rfl⟩) (by omega) ?_)); intro v4 w4 hF4 hz4))
      have hF5 := hF4.tail.tail.perm (List.Perm.swap _ _ _)
      clear hF hF1 hF2 hF3 hF4
      go_loopg [0, 8] nk (fun gk v s wr => ∃ (i : Nat) (P O : List UInt8), i ≤ nk ∧ Box (gk = nk - i) ∧ s = .int .i64 (i : Int) ∧ Box (out ++ FU = P ++ jFullL true (decide (0 < i)) (ns.drop i) (ks.drop i) ++ [125]) ∧ out.length ≤ P.length ∧ Box (O.length ≤ P.length ∧ (O = P ∨ 65536 < O.length)) ∧ Fr [] w0 wr (Ent.bytes w0.heap.size 5 v O :: .blk g1 33 (vlL 6 n ⟨t.toArray⟩ (.slice An nn cn) (.slice Ak nk ck)) :: rest))
      case atStart => exact ⟨0, out ++ [123], out ++ [123], by omega, box rfl, rfl, box (by rw [hfu.out]; simp), by simp, box ⟨Nat.le_refl _, .inl rfl⟩, hF5⟩
      case round =>
        clear hF5
        obtain ⟨i, P, O, hi, hk, rfl, hfull, hoP, hO, hF⟩ := hrel
        have hkf : Box (gk = nk - i) := hk
        clear hk
        obtain ⟨Ao, co, rfl, hco, hro⟩ := (hF.own (i := 0) rfl).arg
        have hPl : P.length + 1 ≤ out.length + FU.length := by have := congrArg List.length hfull.out; simp only [List.length_append, List.length_cons, List.length_nil] at this; omega
        have hOl : O.length ≤ P.length := hO.out.1
        by_cases hlt : i < nk
        · by_cases hbig : 65536 < O.length
          · have d1 : decide ((O.length : Int) ≤ 65536) = false := decide_eq_false (by omega)
            have hkl : Box (jFullL true (decide (0 < i)) (ns.drop i) (ks.drop i) ≠ [] ∨ True) := box (.inr trivial)
            replace hbig := box hbig
            go_wp2_with (first | (with_reducible refine lst (by with_unfolding_all rfl) (wp_fld1 hF Tryd.underlying3 rfl (by with_unfolding_all exact ⟨_, rfl, rfl⟩) rfl ?_)) | (with_reducible refine lst (by with_unfolding_all rfl) (wp_fld1 hF Tryd.underlying24 rfl (by with_unfolding_all exact ⟨_, rfl, rfl⟩) rfl ?_)) | (with_reducible refine lst (by with_unfolding_all rfl) (wp_fld1 hF Tryd.underlying31 rfl (by with_unfolding_all exact ⟨_, rfl, rfl⟩) rfl ?_)) | ((with_reducible refine lst (by with_unfolding_all rfl) (wp_fbsl T_u8 hF (vs := [bv 125]) (by with_unfolding_all rfl) (by with_unfolding_all rfl) (by with_unfolding_all rfl) (by decide) (by simp [bv, Value.cells]) ?_)); intro w6 g6 hF6 hz6; have hr6 : Rd w6 (· < w6.heap.size) (some ⟨g6, 0, none⟩) 1 1 ([125].map bv) := hF6.rdOwn0; replace hF6 : Fr _ _ w6 (Ent.bytes _ 5 (.slice (some ⟨g6, 0, none⟩) 1 1) [125] :: _) := hF6) | ((with_reducible refine lst (by with_unfolding_all rfl) (wp_fapp1 T_u8 hF6 (Nat.le_refl _) hr6 (by with_unfolding_all exact ⟨_, _, rfl, rfl, rfl⟩) (by omega) ?_)); intro v7 w7 hF7 hz7))
            go_ret
            refine ⟨_, _, rfl, box ⟨?_, .inr (by have := hbig.out; simp only [List.length_append, List.length_cons, List.length_nil]; omega)⟩, hF7.tail.drop1⟩
            simp only [List.length_append, List.length_cons, List.length_nil]
            omega
          · obtain ⟨vi, hvi⟩ : ∃ vi, ks[i]? = some vi := ⟨ks[i]'(by rw [hnk.out]; exact hlt), by simp⟩
            obtain ⟨ci, hci, hvri⟩ := hvk.out.at hvi
            have hcil := box hvri.len
            replace hci := box hci
            have hsi := box (hs3.out.at hvi)
            have hoki := box (hok.out.at hvi)
            have hsz : Box (SizeOf.sizeOf vi ≤ N) := box (by have := JV.size_kid (k := 6) (n := n) (t := t) (ns := ns) hvi; have := hN.out; omega)
            have hstep := box (hfull.out.trans (by rw [jFullL_drop hvi]))
            replace hvi := box hvi
            replace hvri := box hvri
            have hOP : O = P := hO.out.2.resolve_right hbig
            subst hOP
            have d1 : decide ((O.length : Int) ≤ 65536) = true := decide_eq_true (by omega)
            replace hbig := box hbig
            clear hO hfull
            by_cases h0 : 0 < i
            · have hz : decide (0 < i) = true := decide_eq_true h0
              rw [hz] at hstep
              clear hz
              obtain ⟨s, hs⟩ : ∃ s, ns[i]? = some s := ⟨ns[i]'(by rw [hnn.out]; omega), by simp⟩
              have hss : Box ((ns.map strv)[i]? = some (.string ⟨s.toArray⟩)) := box (by rw [List.getElem?_map, hs]; rfl)
              have hhd : (ns.drop i).headD [] = s := by rw [List.drop_eq_getElem_cons (List.getElem?_eq_some_iff.1 hs).1, (List.getElem?_eq_some_iff.1 hs).2]; rfl
              rw [hhd] at hstep
              clear hhd hs
              have hqg := jQuote_ge s
              replace hstep : Box (out ++ FU = (O ++ [44] ++ (jQuote s ++ [58])) ++ jFull vi ++ jFullL true true (ns.drop (i + 1)) (ks.drop (i + 1)) ++ [125]) := box (hstep.out.trans (by simp))
              have hrl : (O ++ [44] ++ (jQuote s ++ [58])).length + (jFull vi).length + 1 ≤ out.length + FU.length := by have := congrArg List.length hstep.out; simp only [List.length_append, List.length_cons, List.length_nil] at this ⊢; omega
              have hbo : out.length ≤ (O ++ [44] ++ (jQuote s ++ [58])).length := by first | omega | (simp only [List.length_append]; omega)
              have hrl3 : ((O ++ [44]) ++ jQuote s).length + 1 ≤ 140737488355328 := by simp only [List.length_append, List.length_cons, List.length_nil] at hrl ⊢; omega
              have hrl2 : O.length + s.length + 4 ≤ out.length + FU.length := by simp only [List.length_append, List.length_cons, List.length_nil] at hrl; omega
              go_wp2_with (first | (with_reducible refine lst (by with_unfolding_all rfl) (wp_fld1 hF Tryd.underlying3 rfl (by with_unfolding_all exact ⟨_, rfl, rfl⟩) rfl ?_)) | (with_reducible refine lst (by with_unfolding_all rfl) (wp_fld1 hF Tryd.underlying24 rfl (by with_unfolding_all exact ⟨_, rfl, rfl⟩) rfl ?_)) | (with_reducible refine lst (by with_unfolding_all rfl) (wp_fld1 hF Tryd.underlying31 rfl (by with_unfolding_all exact ⟨_, rfl, rfl⟩) rfl ?_)) | ((with_reducible refine lst (by with_unfolding_all rfl) (wp_fbsl T_u8 hF (vs := [bv 44]) (by with_unfolding_all rfl) (by with_unfolding_all rfl) (by with_unfolding_all rfl) (by decide) (by simp [bv, Value.cells]) ?_)); intro w8 g8 hF8 hz8; have hr8 : Rd w8 (· < w8.heap.size) (some ⟨g8, 0, none⟩) 1 1 ([44].map bv) := hF8.rdOwn0; replace hF8 : Fr _ _ w8 (Ent.bytes _ 5 (.slice (some ⟨g8, 0, none⟩) 1 1) [44] :: _) := hF8) | ((with_reducible refine lst (by with_unfolding_all rfl) (wp_fapp1 T_u8 hF8 (Nat.le_refl _) hr8 (by with_unfolding_all exact ⟨_, _, rfl, rfl, rfl⟩) (by omega) ?_)); intro v9 w9 hF9 hz9) | (with_reducible refine lst (by with_unfolding_all rfl) (wp_fld2 hF9 Tryd.underlying3 rfl (by with_unfolding_all exact ⟨_, rfl, rfl⟩) rfl ?_)) | (with_reducible refine lst (by with_unfolding_all rfl) (wp_fld2 hF9 Tryd.underlying24 rfl (by with_unfolding_all exact ⟨_, rfl, rfl⟩) rfl ?_)) | (with_reducible refine lst (by with_unfolding_all rfl) (wp_fld2 hF9 Tryd.underlying31 rfl (by with_unfolding_all exact ⟨_, rfl, rfl⟩) rfl ?_)) | (with_reducible refine lst (by with_unfolding_all rfl) (wp_indexAddr T_strs (hrn.out.below hF9.below) (by with_unfolding_all exact ⟨_, _, _, _, rfl, rfl, rfl⟩) (by omega) (by omega) ?_)) | (with_reducible refine lst (by with_unfolding_all rfl) (wp_load1C (hrn.out.below hF9.below) hss Tryd.underlying9 rfl (by with_unfolding_all exact ⟨_, rfl, rfl⟩) (by first | (simp; done) | (simp; omega) | omega) ?_)))
              have hF10 := hF9.tail
              obtain ⟨A10, c10, hv10, hc10, hr10⟩ := (hF10.own (i := 0) rfl).arg
              subst hv10
              have hq := rquote_any [] w0 _ _ _ (O ++ [44]) _ ⟨s.toArray⟩ (by rw [str_mk_size]; first | omega | (simp only [List.length_append, List.length_cons, List.length_nil]; omega)) hF10
              refine hq.mono ?_
              rintro e w11 ⟨v11, rfl, hF11⟩
              clear hq
              obtain ⟨Y, hY⟩ : ∃ Y, Y = (O ++ [44]) ++ jQuote (⟨s.toArray⟩ : ByteArray).data.toList := ⟨_, rfl⟩
              rw [← hY] at hF11
              replace hrl3 : Y.length + 1 ≤ 140737488355328 := by rw [hY]; exact hrl3
              replace hY := box hY
              clear hF10
              obtain ⟨A11, c11, rfl, hc11, hr11⟩ := (hF11.own (i := 0) rfl).arg
              go_wp2_with (first | ((with_reducible refine lst (by with_unfolding_all rfl) (wp_fbsl T_u8 hF11 (vs := [bv 58]) (by with_unfolding_all rfl) (by with_unfolding_all rfl) (by with_unfolding_all rfl) (by decide) (by simp [bv, Value.cells]) ?_)); intro w12 g12 hF12 hz12; have hr12 : Rd w12 (· < w12.heap.size) (some ⟨g12, 0, none⟩) 1 1 ([58].map bv) := hF12.rdOwn0; replace hF12 : Fr _ _ w12 (Ent.bytes _ 5 (.slice (some ⟨g12, 0, none⟩) 1 1) [58] :: _) := hF12) | ((with_reducible refine lst (by with_unfolding_all rfl) (wp_fapp1 T_u8 hF12 (Nat.le_refl _) hr12 (by with_unfolding_all exact ⟨_, _, rfl, rfl, rfl⟩) (by omega) ?_)); intro v13 w13 hF13 hz13) | (with_reducible refine lst (by with_unfolding_all rfl) (wp_fld2 hF13 Tryd.underlying3 rfl (by with_unfolding_all exact ⟨_, rfl, rfl⟩) rfl ?_)) | (with_reducible refine lst (by with_unfolding_all rfl) (wp_fld2 hF13 Tryd.underlying24 rfl (by with_unfolding_all exact ⟨_, rfl, rfl⟩) rfl ?_)) | (with_reducible refine lst (by with_unfolding_all rfl) (wp_fld2 hF13 Tryd.underlying31 rfl (by with_unfolding_all exact ⟨_, rfl, rfl⟩) rfl ?_)) | (with_reducible refine lst (by with_unfolding_all rfl) (wp_indexAddr T_rvals (hrk.out.below hF13.below) (by with_unfolding_all exact ⟨_, _, _, _, rfl, rfl, rfl⟩) (by omega) (by omega) ?_)) | (with_reducible refine lst (by with_unfolding_all rfl) (wp_loadA (hrk.out.below hF13.below) Tryd.underlying33 rfl (by with_unfolding_all exact ⟨_, rfl, rfl⟩) (ds := ci) (by rw [hcil.out]; kernel_rfl) (by rw [hcil.out]; with_unfolding_all exact hci.out) ?_)))
              have hF14 := hF13.tail
              rw [hY.out, List.append_assoc] at hF14
              obtain ⟨A14, c14, rfl, hc14, hr14⟩ := (hF14.own (i := 0) rfl).arg
              have hwr := ih vi ci w0 _ _ _ (O ++ [44] ++ (jQuote s ++ [58])) _ hsz.out hvri.out hsi.out hoki.out (by omega) hF14
              refine hwr.mono ?_
              rintro e w15 ⟨v15, l15, rfl, hl15, hF15⟩
              clear hwr
              go_wp2_with fail
              go_roundg (nk - (i + 1))
              case rel => exact ⟨i + 1, (O ++ [44] ++ (jQuote s ++ [58])) ++ jFull vi, l15, by omega, box rfl, by go_num, box (by rw [hstep.out, decide_eq_true (Nat.succ_pos _)]), by rw [List.length_append]; omega, hl15, hF15⟩
              case measure => have := hkf.out; omega
            · obtain rfl : i = 0 := by omega
              obtain ⟨s, hs⟩ : ∃ s, ns[0]? = some s := ⟨ns[0]'(by rw [hnn.out]; omega), by simp⟩
              have hss : Box ((ns.map strv)[0]? = some (.string ⟨s.toArray⟩)) := box (by rw [List.getElem?_map, hs]; rfl)
              have hhd : (ns.drop 0).headD [] = s := by rw [List.drop_eq_getElem_cons (List.getElem?_eq_some_iff.1 hs).1, (List.getElem?_eq_some_iff.1 hs).2]; rfl
              rw [hhd] at hstep
              clear hhd hs
              have hqg := jQuote_ge s
              replace hstep : Box (out ++ FU = (O ++ (jQuote s ++ [58])) ++ jFull vi ++ jFullL true true (ns.drop (0 + 1)) (ks.drop (0 + 1)) ++ [125]) := box (hstep.out.trans (by simp))
              have hrl : (O ++ (jQuote s ++ [58])).length + (jFull vi).length + 1 ≤ out.length + FU.length := by have := congrArg List.length hstep.out; simp only [List.length_append, List.length_cons, List.length_nil] at this ⊢; omega
              have hbo : out.length ≤ (O ++ (jQuote s ++ [58])).length := by first | omega | (simp only [List.length_append]; omega)
              have hrl3 : ((O) ++ jQuote s).length + 1 ≤ 140737488355328 := by simp only [List.length_append, List.length_cons, List.length_nil] at hrl ⊢; omega
              have hrl2 : O.length + s.length + 4 ≤ out.length + FU.length := by simp only [List.length_append, List.length_cons, List.length_nil] at hrl; omega
              go_wp2_with (first | (with_reducible refine lst (by with_unfolding_all rfl) (wp_fld1 hF Tryd.underlying3 rfl (by with_unfolding_all exact ⟨_, rfl, rfl⟩) rfl ?_)) | (with_reducible refine lst (by with_unfolding_all rfl) (wp_fld1 hF Tryd.underlying24 rfl (by with_unfolding_all exact ⟨_, rfl, rfl⟩) rfl ?_)) | (with_reducible refine lst (by with_unfolding_all rfl) (wp_fld1 hF Tryd.underlying31 rfl (by with_unfolding_all exact ⟨_, rfl, rfl⟩) rfl ?_)) | (with_reducible refine lst (by with_unfolding_all rfl) (wp_indexAddr T_strs (hrn.out.below hF.below) (by with_unfolding_all exact ⟨_, _, _, _, rfl, rfl, rfl⟩) (by omega) (by omega) ?_)) | (with_reducible refine lst (by with_unfolding_all rfl) (wp_load1C (hrn.out.below hF.below) hss Tryd.underlying9 rfl (by with_unfolding_all exact ⟨_, rfl, rfl⟩) (by first | (simp; done) | (simp; omega) | omega) ?_)))
              have hF10 := hF
              have hq := rquote_any [] w0 _ _ _ (O) _ ⟨s.toArray⟩ (by rw [str_mk_size]; first | omega | (simp only [List.length_append, List.length_cons, List.length_nil]; omega)) hF10
              refine hq.mono ?_
              rintro e w11 ⟨v11, rfl, hF11⟩
              clear hq
              obtain ⟨Y, hY⟩ : ∃ Y, Y = (O) ++ jQuote (⟨s.toArray⟩ : ByteArray).data.toList := ⟨_, rfl⟩
              rw [← hY] at hF11
              replace hrl3 : Y.length + 1 ≤ 140737488355328 := by rw [hY]; exact hrl3
              replace hY := box hY
              clear hF10
              obtain ⟨A11, c11, rfl, hc11, hr11⟩ := (hF11.own (i := 0) rfl).arg
              go_wp2_with (first | ((with_reducible refine lst (by with_unfolding_all rfl) (wp_fbsl T_u8 hF11 (vs := [bv 58]) (by with_unfolding_all rfl) (by with_unfolding_all rfl) (by with_unfolding_all rfl) (by decide) (by simp [bv, Value.cells]) ?_)); intro w12 g12 hF12 hz12; have hr12 : Rd w12 (· < w12.heap.size) (some ⟨g12, 0, none⟩) 1 1 ([58].map bv) := hF12.rdOwn0; replace hF12 : Fr _ _ w12 (Ent.bytes _ 5 (.slice (some ⟨g12, 0, none⟩) 1 1) [58] :: _) := hF12) | ((with_reducible refine lst (by with_unfolding_all rfl) (wp_fapp1 T_u8 hF12 (Nat.le_refl _) hr12 (by with_unfolding_all exact ⟨_, _, rfl, rfl, rfl⟩) (by omega) ?_)); intro v13 w13 hF13 hz13) | (with_reducible refine lst (by with_unfolding_all rfl) (wp_fld2 hF13 Tryd.underlying3 rfl (by with_unfolding_all exact ⟨_, rfl, rfl⟩) rfl ?_)) | (with_reducible refine lst (by with_unfolding_all rfl) (wp_fld2 hF13 Tryd.underlying24 rfl (by with_unfolding_all exact ⟨_, rfl, rfl⟩) rfl ?_)) | (with_reducible refine lst (by with_unfolding_all rfl) (wp_fld2 hF13 Tryd.underlying31 rfl (by with_unfolding_all exact ⟨_, rfl, rfl⟩) rfl ?_)) | (with_reducible refine lst (by with_unfolding_all rfl) (wp_indexAddr T_rvals (hrk.out.below hF13.below) (by with_unfolding_all exact ⟨_, _, _, _, rfl, rfl, rfl⟩) (by omega) (by omega) ?_)) | (with_reducible refine lst (by with_unfolding_all rfl) (wp_loadA (hrk.out.below hF13.below) Tryd.underlying33 rfl (by with_unfolding_all exact ⟨_, rfl, rfl⟩) (ds := ci) (by rw [hcil.out]; kernel_rfl) (by rw [hcil.out]; with_unfolding_all exact hci.out) ?_)))
              have hF14 := hF13.tail
              rw [hY.out, List.append_assoc] at hF14
              obtain ⟨A14, c14, rfl, hc14, hr14⟩ := (hF14.own (i := 0) rfl).arg
              have hwr := ih vi ci w0 _ _ _ (O ++ (jQuote s ++ [58])) _ hsz.out hvri.out hsi.out hoki.out (by omega) hF14
              refine hwr.mono ?_
              rintro e w15 ⟨v15, l15, rfl, hl15, hF15⟩
              clear hwr
              go_wp2_with fail
              go_roundg (nk - (0 + 1))
              case rel => exact ⟨0 + 1, (O ++ (jQuote s ++ [58])) ++ jFull vi, l15, by omega, box rfl, by go_num, box (by rw [hstep.out, decide_eq_true (Nat.succ_pos _)]), by rw [List.length_append]; omega, hl15, hF15⟩
              case measure => have := hkf.out; omega
        · have hin : nk = i := by omega
          subst hin
          have hend : Box (out ++ FU = P ++ [125]) := box (by
            rw [hfull.out, List.drop_of_length_le (l := ks) (by rw [hnk.out]; exact Nat.le_refl _), jFullL, List.append_nil])
          clear hfull hkf
          go_wp2_with (first | (with_reducible refine lst (by with_unfolding_all rfl) (wp_fld1 hF Tryd.underlying3 rfl (by with_unfolding_all exact ⟨_, rfl, rfl⟩) rfl ?_)) | (with_reducible refine lst (by with_unfolding_all rfl) (wp_fld1 hF Tryd.underlying24 rfl (by with_unfolding_all exact ⟨_, rfl, rfl⟩) rfl ?_)) | (with_reducible refine lst (by with_unfolding_all rfl) (wp_fld1 hF Tryd.underlying31 rfl (by with_unfolding_all exact ⟨_, rfl, rfl⟩) rfl ?_)) | ((with_reducible refine lst (by with_unfolding_all rfl) (wp_fbsl T_u8 hF (vs := [bv 125]) (by with_unfolding_all rfl) (by with_unfolding_all rfl) (by with_unfolding_all rfl) (by decide) (by simp [bv, Value.cells]) ?_)); intro w5 g5 hF5 hz5; have hr5 : Rd w5 (· < w5.heap.size) (some ⟨g5, 0, none⟩) 1 1 ([125].map bv) := hF5.rdOwn0; replace hF5 : Fr _ _ w5 (Ent.bytes _ 5 (.slice (some ⟨g5, 0, none⟩) 1 1) [125] :: _) := hF5) | ((with_reducible refine lst (by with_unfolding_all rfl) (wp_fapp1 T_u8 hF5 (Nat.le_refl _) hr5 (by with_unfolding_all exact ⟨_, _, rfl, rfl, rfl⟩) (by omega) ?_)); intro v6 w6 hF6 hz6))
          go_ret
          refine ⟨_, _, rfl, box ⟨?_, ?_⟩, hF6.tail.drop1⟩
          · rw [hend.out]; simp only [List.length_append, List.length_cons, List.length_nil]; omega
          · rcases hO.out.2 with h | h
            · left; rw [hend.out, h]
            · right; simp only [List.length_append, List.length_cons, List.length_nil]; omega

end Go.Proofs.YtdekogmegdhjoaaDoor

namespace Go.Proofs.YtdekogmegdhjoaaDoor

theorem bulk_pos {H : Type} : ∀ d : DataW H, 1 ≤ Rows.uptoBulk d
  | .lit l => by cases l <;> simp [Rows.uptoBulk]
  | .nil => by simp [Rows.uptoBulk]
  | .ptr d => by simp [Rows.uptoBulk]
  | .slice e s => by simp [Rows.uptoBulk]
  | .agg p => by simp [Rows.uptoBulk]
  | .iface t d => by simp [Rows.uptoBulk]
  | .map e => by simp [Rows.uptoBulk]
  | .held h => by simp [Rows.uptoBulk]
theorem bulk_len {H : Type} : ∀ l : List (DataW H), l.length ≤ Rows.uptoBulkAll l
  | [] => Nat.zero_le _
  | d :: r => by have h1 := bulk_pos d; have h2 := bulk_len r; simp only [Rows.uptoBulkAll, List.length_cons]; omega
theorem bulk_cap {H : Type} (e s : List (DataW H)) : e.length + s.length + 1 ≤ Rows.uptoBulk (.slice e s) := by
  have h1 := bulk_len e
  have h2 := bulk_len s
  simp only [Rows.uptoBulk]; omega
end Go.Proofs.YtdekogmegdhjoaaDoor

namespace Go.Proofs.YtdekogmegdhjoaaDoor
open Go.ChangeShapes Go.WideShapes Go.ChangeAt Go.RowKit

section
variable {H : Type} {enc : TypeId × Value → H} {P : Program} {W : World} {hd : Bool} {fuel : Nat}

theorem bulk_mem {l : List (DataW H)} {d : DataW H} (h : d ∈ l) : Rows.uptoBulk d ≤ Rows.uptoBulkAll l := by
  induction l with
  | nil => cases h
  | cons a l ih =>
    simp only [Rows.uptoBulkAll]
    rcases List.mem_cons.1 h with rfl | h
    · omega
    · have := ih h; omega
/-- A field of a struct that came in: its cells, and how they are read. -/
theorem field_in {t : TypeId} {fs : Array Field} (ht : P.underlying t = some (.struct fs)) {cs : List Value} {x : DataW H × List MemPlace} (h : DataW.trod enc P W 0 (fun _ => true) hd fuel t cs = some x)
    {i : Nat} {f : Field} (hf : fs[i]? = some f) : ∃ n y, DataW.trod enc P W 0 (fun _ => true) hd n f.type ((cs.drop f.offset).take (P.cellsOf f.type)) = some y ∧ Rows.uptoBulk y.1 + 1 ≤ Rows.uptoBulk x.1 := by
  obtain ⟨xs, n, _, hx, _, hlen, hg⟩ := DataW.trod_struct ht h
  have hi : i < fs.size := (Array.getElem?_eq_some_iff.1 hf).1
  have hy : xs[i]? = some (xs[i]'(by omega)) := List.getElem?_eq_getElem (by omega)
  refine ⟨n, _, (hg i f hf).trans hy, ?_⟩
  rw [hx]
  have := bulk_mem (d := (xs[i]'(by omega)).1) (l := xs.map (·.1)) (List.mem_map_of_mem (List.getElem_mem _))
  simp only [Rows.uptoBulk]; omega
theorem ints_in {t : TypeId} {k : IntKind} (ht : P.underlying t = some (.int k)) {cs : List Value} {x : DataW H × List MemPlace} (h : DataW.trod enc P W 0 (fun _ => true) hd fuel t cs = some x) : ∃ n, cs = [.int k n] ∧ (Lit.int k n).wf = true := by
  obtain ⟨n, h1, _, h2⟩ := DataW.trod_int ht h
  exact ⟨n, h1, h2⟩
theorem strs_in {t : TypeId} (ht : P.underlying t = some .string) {cs : List Value} {x : DataW H × List MemPlace} (h : DataW.trod enc P W 0 (fun _ => true) hd fuel t cs = some x) : ∃ s : ByteArray, cs = [.string s] ∧ s.size + 1 ≤ Rows.uptoBulk x.1 := by
  obtain ⟨s, h1, h2, _⟩ := DataW.trod_string ht h
  exact ⟨s, h1, by rw [h2]; simp [Rows.uptoBulk]⟩
theorem bools_in {t : TypeId} (ht : P.underlying t = some .bool) {cs : List Value} {x : DataW H × List MemPlace} (h : DataW.trod enc P W 0 (fun _ => true) hd fuel t cs = some x) : ∃ b : Bool, cs = [.bool b] := by
  cases fuel with
  | zero => simp [DataW.trod] at h
  | succ n =>
    unfold DataW.trod at h
    rw [ht] at h
    split at h <;> simp_all
theorem bytes_of_cells : ∀ (cs : List Value), (∀ i, i < cs.length → ∃ c : UInt8, cs[i]? = some (bv c)) → ∃ d : List UInt8, cs = d.map bv
  | [], _ => ⟨[], rfl⟩
  | c :: cs, h => by
    obtain ⟨a, ha⟩ := h 0 (by simp)
    obtain ⟨d, hd⟩ := bytes_of_cells cs (fun i hi => by
      have := h (i + 1) (by simp; omega)
      simpa using this)
    simp only [List.getElem?_cons_zero, Option.some.injEq] at ha
    exact ⟨a :: d, by rw [ha, hd]; rfl⟩
/-- An array of bytes that came in. -/
theorem arr_in {t e : TypeId} {n : Nat} (ht : P.underlying t = some (.array n e)) (he : P.underlying e = some (.int .u8)) (hc : P.cellsOf e = 1) (hcs : P.cellsOf t = n) {cs : List Value} {x : DataW H × List MemPlace} (h : DataW.trod enc P W 0 (fun _ => true) hd fuel t cs = some x) :
    ∃ d : List UInt8, cs = d.map bv ∧ d.length = n := by
  obtain ⟨xs, m, _, _, hlen, hxl, hg⟩ := DataW.trod_array ht h
  rw [hcs] at hlen
  have key : ∀ i, i < n → ∃ c : UInt8, cs[i]? = some (bv c) := fun i hi => by
    have h1 := hg i hi
    rw [hc, Nat.mul_one, List.getElem?_eq_getElem (by omega)] at h1
    obtain ⟨k, h2, h3⟩ := ints_in he h1
    obtain ⟨c, rfl⟩ := u8_of_wf h3
    refine ⟨c, ?_⟩
    have h4 : ((cs.drop i).take 1)[0]? = some (bv c) := by rw [h2]; rfl
    rw [List.getElem?_take, if_pos (by omega), List.getElem?_drop] at h4
    simpa using h4
  obtain ⟨d, hd⟩ := bytes_of_cells cs (fun i hi => key i (by omega))
  exact ⟨d, hd, by rw [hd, List.length_map] at hlen; exact hlen⟩
/-- A slice of bytes that came in, as a cell. -/
theorem sl_in {t e : TypeId} (ht : P.underlying t = some (.slice e)) (he : P.underlying e = some (.int .u8)) (hc : P.cellsOf e = 1) {cs : List Value} {x : DataW H × List MemPlace} (h : DataW.trod enc P W 0 (fun _ => true) hd fuel t cs = some x) :
    ∃ (a : Option Addr) (len cap : Nat) (l : List UInt8), cs = [.slice a len cap] ∧ len ≤ cap ∧ cap ≤ maxLen ∧ Rd W (· < W.heap.size) a 1 len (l.map bv) ∧ cap + 1 ≤ Rows.uptoBulk x.1 := by
  have hform : ∃ a len cap, cs = [.slice a len cap] := by
    rcases open_ints ht he hc h with ⟨hcs, _⟩ | ⟨x, l, c, zs, hcs, _⟩
    · exact ⟨none, 0, 0, hcs⟩
    · exact ⟨some x, l, c, hcs⟩
  obtain ⟨a, len, cap, rfl⟩ := hform
  obtain ⟨l, h1, h2, h3, h4⟩ := bytes_in (a := a) (len := len) (cap := cap) ht he hc (d := x.1) (ps := x.2) ⟨fuel, h⟩
  refine ⟨a, len, cap, l, rfl, h1, h2, h3, ?_⟩
  rcases h4 with ⟨e1, e2⟩ | ⟨es, sp, e1, e2⟩
  · rw [e1, e2]; simp [Rows.uptoBulk]
  · rw [e1, ← e2]; exact bulk_cap es sp
theorem cut_at (cs : List Value) (k m : Nat) : cs.drop k = (cs.drop k).take m ++ cs.drop (k + m) := by rw [← List.drop_drop, List.take_append_drop]
end
end Go.Proofs.YtdekogmegdhjoaaDoor

namespace Go.Proofs.YtdekogmegdhjoaaDoor
open Go.ChangeShapes Go.WideShapes Go.ChangeAt Go.RowKit

theorem flat_at {α β : Type} {f : α → List β} {sz : Nat} (hsz : 0 < sz) : ∀ {l : List α}, (∀ u ∈ l, (f u).length = sz) → ∀ {j : Nat} {v : β}, (l.flatMap f)[j]? = some v → ∃ u, l[j / sz]? = some u ∧ (f u)[j % sz]? = some v
  | [], _, j, v, h => by simp at h
  | u :: l, hl, j, v, h => by
    have hu := hl u (by simp)
    rw [List.flatMap_cons] at h
    rcases Nat.lt_or_ge j sz with hj | hj
    · rw [List.getElem?_append_left (by omega)] at h
      refine ⟨u, ?_, ?_⟩
      · rw [Nat.div_eq_of_lt hj]; rfl
      · rw [Nat.mod_eq_of_lt hj]; exact h
    · rw [List.getElem?_append_right (by omega), hu] at h
      obtain ⟨u', h1, h2⟩ := flat_at hsz (l := l) (fun x hx => hl x (by simp [hx])) h
      have e1 : j / sz = (j - sz) / sz + 1 := by rw [Nat.div_eq_sub_div hsz hj]
      have e2 : j % sz = (j - sz) % sz := by rw [Nat.mod_eq_sub_mod hj]
      exact ⟨u', by rw [e1]; exact h1, by rw [e2]; exact h2⟩
theorem flat_len {α β : Type} {f : α → List β} {sz : Nat} : ∀ {l : List α}, (∀ u ∈ l, (f u).length = sz) → (l.flatMap f).length = l.length * sz
  | [], _ => by simp
  | u :: l, hl => by
    rw [List.flatMap_cons, List.length_append, hl u (by simp), flat_len (fun x hx => hl x (by simp [hx])), List.length_cons, Nat.add_mul]; omega
theorem list_of {α : Type} {p : Nat → α → Prop} : ∀ (n : Nat), (∀ i, i < n → ∃ u, p i u) → ∃ l : List α, l.length = n ∧ ∀ i u, l[i]? = some u → p i u
  | 0, _ => ⟨[], rfl, fun i u h => by simp at h⟩
  | n + 1, h => by
    obtain ⟨l, hl, hp⟩ := list_of n (fun i hi => h i (by omega))
    obtain ⟨u, hu⟩ := h n (by omega)
    refine ⟨l ++ [u], by simp [hl], fun i x hx => ?_⟩
    rcases Nat.lt_or_ge i n with hi | hi
    · rw [List.getElem?_append_left (by omega)] at hx; exact hp i x hx
    · rw [List.getElem?_append_right (by omega)] at hx
      match hk : i - l.length, hx with
      | 0, hx => injection hx with hx; subst hx; obtain rfl : i = n := by omega
                 exact hu
      | k + 1, hx => simp at hx

section
variable {H : Type} {enc : TypeId × Value → H} {P : Program} {W : World} {hd : Bool} {fuel : Nat}
theorem slG_in {α : Type} {t e : TypeId} {sz : Nat} (ht : P.underlying t = some (.slice e)) (hc : P.cellsOf e = sz) (hpos : 0 < sz) {f : α → List Value} (hel : ∀ n cs x, DataW.trod enc P W 0 (fun _ => true) hd n e cs = some x → ∃ u : α, cs = f u ∧ (f u).length = sz)
    {cs : List Value} {x : DataW H × List MemPlace} (h : DataW.trod enc P W 0 (fun _ => true) hd fuel t cs = some x) :
    ∃ (A : Option Addr) (len cap : Nat) (l : List α), cs = [.slice A len cap] ∧ len ≤ cap ∧ cap ≤ maxLen ∧ l.length = len ∧ Rd W (· < W.heap.size) A sz len (l.flatMap f) ∧ (∀ u ∈ l, (f u).length = sz) ∧ cap + 1 ≤ Rows.uptoBulk x.1 := by
  rcases DataW.trod_slice ht h with ⟨hcs, hx⟩ | ⟨a, len, cap, es, rest, n, _, hcs, hx, _, hl, hm, hlen, hat, hsp, _⟩
  · exact ⟨none, 0, 0, [], hcs, Nat.le_refl _, Nat.zero_le _, rfl, Rd.nil _ _ _ _, fun u hu => by simp at hu, by rw [hx]; simp [Rows.uptoBulk]⟩
  · have key : ∀ i, i < len → ∃ u : α, W.cells? 0 (a.add (i * sz)) sz = some (f u) ∧ (f u).length = sz := fun i hi => by
      have h1 := hat i hi
      rw [hc, List.getElem?_eq_getElem (by omega), Option.bind_eq_some_iff] at h1
      obtain ⟨cs', h2, h3⟩ := h1
      obtain ⟨u, rfl, h4⟩ := hel _ _ _ h3
      exact ⟨u, h2, h4⟩
    obtain ⟨l, hll, hp⟩ := list_of len key
    have hone : ∀ u ∈ l, (f u).length = sz := fun u hu => by
      obtain ⟨i, hi⟩ := List.mem_iff_getElem?.1 hu
      exact (hp i u hi).2
    have hcell : ∀ j v, (l.flatMap f)[j]? = some v → W.cell? (a.add j) = some v := fun j v hv => by
      obtain ⟨u, h1, h2⟩ := flat_at hpos hone hv
      obtain ⟨h3, _⟩ := hp _ u h1
      obtain ⟨_, _, h5⟩ := World.cells?_some h3
      have h6 := h5 (j % sz) (Nat.mod_lt _ hpos)
      rw [add_add, Nat.mul_comm, Nat.div_add_mod] at h6
      rw [h6]; exact h2
    have hrest := (hsp rfl).1
    refine ⟨some a, len, cap, l, hcs, hl, hm, hll, ⟨by rw [flat_len hone, hll], fun _ => rfl, fun h0 => ?_, hcell⟩, hone, ?_⟩
    · have hlt : 0 < (l.flatMap f).length := by rw [flat_len hone, hll]; exact Nat.mul_pos h0 hpos
      have := hcell 0 _ (List.getElem?_eq_getElem hlt)
      have hb := World.block_lt_of_cell? W _ this
      have e : (a.add 0).block = a.block := by unfold Addr.add; split <;> rfl
      rw [e] at hb
      exact hb
    · rw [hx]
      have := bulk_cap (es.map (·.1)) (rest.map (·.1))
      simp only [List.length_map] at this
      show cap + 1 ≤ Rows.uptoBulk (DataW.slice _ _)
      omega
end
end Go.Proofs.YtdekogmegdhjoaaDoor
