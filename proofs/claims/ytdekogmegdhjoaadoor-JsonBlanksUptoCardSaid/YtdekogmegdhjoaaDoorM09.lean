/-
  Layer 6: answers that the document fixes.
-/
import Derived.Test.YtdekogmegdhjoaaDoorM08
namespace Go.Proofs.YtdekogmegdhjoaaDoor
open Go.RowKit
set_option linter.unusedSimpArgs false

theorem wp_fmark {P : Program} {o : Oper} {a : Act} {K : Act → World → Prop} {Q : Exit → Act → World → Prop} {X : List Nat} {w0 w : World} {es : List Ent} {t e : TypeId} {size bytes : Nat} {z : Value} (T : SlT P t e size bytes z) (he : P.underlying e = some (.int .u8)) {b g n c : Nat} {el : TypeId} {xs : List Value}
    (hF : Fr X w0 w (.own b el 1 (.slice (some ⟨g, 0, none⟩) n c) n xs :: es)) (ho : IsCv o a t t (.slice (some ⟨g, 0, none⟩) n c))
    (k : ∀ w', Fr X w0 w' (.rd (some ⟨g, 0, none⟩) 1 n xs :: es) → w'.heap.size = w.heap.size → K (a.put o.dst (.slice (some ⟨g, 0, none⟩) n c)) w') : o.wp P a w K Q := by
  obtain ⟨x, ho, hx⟩ := ho
  have hrun : (convert t t (.slice (some ⟨g, 0, none⟩) n c)).run P w = .ok (.slice (some ⟨g, 0, none⟩) n c) (match w.shape? g with | some (_, q) => w.freeze ⟨g, q, none⟩ 1 | none => w) := by
    cases hs : w.shape? g with
    | none => simp [convert, run_underlying T.und, run_underlying he, markStringish, hs]
    | some y => simp [convert, run_underlying T.und, run_underlying he, markStringish, hs]
  have hr := hF.rdOwn (i := 0) rfl
  have hlt : g < w.heap.size := Ent.lt (hF.holds 0 _ rfl) rfl
  unfold Oper.wp execOp
  simp only [ho, hx, hrun, Sem.run_bind, Sem.run_pure, Result.andThen_ok]
  cases hs : w.shape? g with
  | none => exact k w (hF.toRd (i := 0) rfl) rfl
  | some y =>
    refine k _ (hF.put (i := 0) (e' := .rd (some ⟨g, 0, none⟩) 1 n xs) rfl ⟨?_, ?_, ?_, ?_, fun j hj hne => freeze_block _ _ _ _ (fun h => hne (by show some j = some g; rw [h]))⟩ ⟨⟨hr.len, hr.some_, fun _ => ?_, fun j u hu => ?_⟩, fun a ha => ?_⟩ (.inl rfl)) (freeze_size _ _ _)
    · unfold World.freeze; split <;> rfl
    · unfold World.freeze; split <;> rfl
    · unfold World.freeze; split <;> rfl
    · rw [freeze_size]; exact Nat.le_refl _
    · rw [freeze_size]; exact hlt
    · rw [freeze_cell]; exact hr.cell j u hu
    · injection ha with ha; subst ha; rw [freeze_size]; exact hlt
theorem LibsAt.up {B B' : Nat} {w : World} (h : LibsAt B w) (hb : B ≤ B') : LibsAt B' w :=
  ⟨fun w' h2 => h.u8 w' (h2.mono hb), fun w' h2 => h.pow w' (h2.mono hb), h.syn.imp fun _ h => h.imp fun _ h w' h2 => h w' (h2.mono hb), h.rng.imp fun _ h => h.imp fun _ h w' h2 => h w' (h2.mono hb)⟩
/-- Parse, within a frame; its answer stands ahead of the other entries. -/
def ParseEndF (X : List Nat) (w0 : World) (es : List Ent) (r : JR JV) (e : Ending) (w' : World) : Prop :=
  match r with
  | .ok v => ∃ cs es', e = .returned (.tuple #[.agg cs.toArray, .int .i64 0, .int .i64 0]) ∧ VT v cs es' ∧ Fr X w0 w' (es' ++ es)
  | .error x => e = .returned (.tuple #[.agg vl0.toArray, .int .i64 (x.1 : Int), .int .i64 (x.2 : Int)]) ∧ Fr X w0 w' es
theorem parse_F {X : List Nat} {w0 w : World} {es : List Ent} {B : Nat} (hF : Fr X w0 w es) (hL : LibsAt B w) (hB : B ≤ w.heap.size) {A : Option Addr} {n c : Nat} {b : List UInt8} (hnc : n ≤ c) (hn47 : n ≤ 140737488355328) (hr : Rd w (· < w.heap.size) A 1 n (b.map bv)) :
    Calls Tryd.prog 11 #[.slice A n c] w (ParseEndF X w0 es (jParse b)) := by
  refine (parse_any A n c b w (hL.up hB) hnc hn47 hr).mono ?_
  intro e w' h
  unfold ParseEnd at h
  unfold ParseEndF
  cases hj : jParse b with
  | error x => rw [hj] at h; exact ⟨h.1, hF.call h.2⟩
  | ok v =>
    rw [hj] at h
    obtain ⟨cs, es', rfl, hvt, hF'⟩ := h
    exact ⟨cs, es', rfl, hvt, hF.join hF'⟩
/-- What is known of a value that was read. -/
theorem VT.kids {k n : Int} {t : List UInt8} {ns : List (List UInt8)} {ks : List JV} {cs : List Value} {es' es : List Ent} {X : List Nat} {w0 w : World} (h : VT (.mk k n t ns ks) cs es') (hF : Fr X w0 w (es' ++ es)) :
    ∃ An nn cn Ak ck xs TE, nn ≤ cn ∧ ks.length ≤ ck ∧ cs = vlL k n ⟨t.toArray⟩ (.slice An nn cn) (.slice Ak ks.length ck) ∧ Rd w (· < w.heap.size) An 1 nn (ns.map strv) ∧ Rd w (· < w.heap.size) Ak 5 ks.length xs ∧ VTL ks xs TE := by
  rw [VT] at h
  obtain ⟨An, nn, cn, Ak, nk, ck, xs, TE, h1, h2, rfl, rfl, h3⟩ := h
  have r1 := hF.rd (i := 0) rfl
  have r2 := hF.rd (i := 1) rfl
  have hl := r2.len
  rw [h3.len] at hl
  obtain rfl : ks.length = nk := by omega
  exact ⟨An, nn, cn, Ak, ck, xs, TE, h1, h2, rfl, r1, r2, h3⟩
theorem awk1 : jParse [91, 49, 44, 32, 45, 50, 93] = .ok (.mk 5 0 [] [] [.mk 3 1 [] [] [], .mk 3 (-2) [] [] []]) := by kernel_rfl
theorem awk2 : jParse [91, 49, 44, 93] = .error (3, 10) := by kernel_rfl

set_option maxRecDepth 20000 in
set_option maxHeartbeats 6400000 in
theorem awake_any (w : World) (B : Nat) (hB : B ≤ w.heap.size) (hL : LibsAt B w) :
    Calls Tryd.prog 13 #[] w fun e w' => e = .returned (.bool true) ∧ Below w.heap.size w w' := by
  have hF0 := Fr.nil w
  go_enter Tryd.func13, Tryd.ntmps13
  go_wp2_with (first | ((with_reducible refine lst (by with_unfolding_all rfl) (wp_fbsl T_u8 hF0 (vs := [bv 91, bv 49, bv 44, bv 32, bv 45, bv 50, bv 93]) (by with_unfolding_all rfl) (by with_unfolding_all rfl) (by with_unfolding_all rfl) (by decide) (by simp [bv, Value.cells]) ?_)); intro w1 g1 hF1 hz1; have hr1 : Rd w1 (· < w1.heap.size) (some ⟨g1, 0, none⟩) 1 7 (([91,49,44,32,45,50,93] : List UInt8).map bv) := hF1.rdOwn (i := 0) rfl) | ((with_reducible refine lst (by with_unfolding_all rfl) (wp_fmark T_u8 Tryd.underlying5 hF1 (by with_unfolding_all exact ⟨_, rfl, rfl⟩) ?_)); intro w2 hF2 hz2))
  have hp := parse_F hF2 ((hL.up hB).on hF2.below) hF2.size (Nat.le_refl _) (by decide) (b := [91, 49, 44, 32, 45, 50, 93]) (hF2.rd (i := 0) rfl)
  rw [awk1] at hp
  refine hp.mono ?_
  rintro e w3 ⟨cs, es, rfl, hvt, hF3⟩
  have hvl := box hvt.len
  have hvo := box hvt.one
  clear hp
  go_wp2_with (first | ((with_reducible refine lst (by with_unfolding_all rfl) (wp_falloc hF3 (cs := vl0) (z := .agg (List.toArray (vl0))) rfl (by kernel_rfl) (by with_unfolding_all rfl) ?_)); intro w4 g4 hF4 hz4) | ((with_reducible refine lst (by with_unfolding_all rfl) (wp_fstA0 hF4 (by with_unfolding_all exact ⟨_, _, rfl, rfl, rfl⟩) (by rw [hvl.out]; kernel_rfl) hvo.out (by rw [hvl.out]; decide) (spl_all (by rw [hvl.out, vlL_len])) ?_)); intro w5 hF5 hz5) | ((with_reducible refine lst (by with_unfolding_all rfl) (wp_fbsl T_u8 hF5 (vs := [bv 91, bv 49, bv 44, bv 93]) (by with_unfolding_all rfl) (by with_unfolding_all rfl) (by with_unfolding_all rfl) (by decide) (by simp [bv, Value.cells]) ?_)); intro w6 g6 hF6 hz6; have hr6 : Rd w6 (· < w6.heap.size) (some ⟨g6, 0, none⟩) 1 4 (([91,49,44,93] : List UInt8).map bv) := hF6.rdOwn (i := 0) rfl) | ((with_reducible refine lst (by with_unfolding_all rfl) (wp_fmark T_u8 Tryd.underlying5 hF6 (by with_unfolding_all exact ⟨_, rfl, rfl⟩) ?_)); intro w7 hF7 hz7))
  have hp := parse_F hF7 ((hL.up hB).on hF7.below) hF7.size (Nat.le_refl _) (by decide) (b := [91, 49, 44, 93]) (hF7.rd (i := 0) rfl)
  rw [awk2] at hp
  refine hp.mono ?_
  rintro e w8 ⟨rfl, hF8⟩
  clear hp
  have hp3 : ((3 : Nat) : Int) = 3 := rfl
  have hp10 : ((10 : Nat) : Int) = 10 := rfl
  go_upto_region 3 with (first | ((with_reducible refine lst (by with_unfolding_all rfl) (wp_falloc hF8 (cs := vl0) (z := .agg (List.toArray (vl0))) rfl (by kernel_rfl) (by with_unfolding_all rfl) ?_)); intro w9 g9 hF9 hz9) | ((with_reducible refine lst (by with_unfolding_all rfl) (wp_fstA0 hF9 (by with_unfolding_all exact ⟨_, _, rfl, rfl, rfl⟩) (by rw [vlL_len]; kernel_rfl) vlL_one vlL_fit vlL_spl ?_)); intro w10 hF10 hz10))
  have hF10' := hF10.perm (es' := es ++ [.blk g9 27 vl0, .rd (some ⟨g6, 0, none⟩) 1 4 [bv 91, bv 49, bv 44, bv 93], .blk g4 27 cs, .rd (some ⟨g1, 0, none⟩) 1 7 [bv 91, bv 49, bv 44, bv 32, bv 45, bv 50, bv 93]]) (by
    refine List.Perm.trans ?_ List.perm_append_comm
    simp only [List.cons_append, List.nil_append]
    exact (((List.perm_append_comm (l₁ := es) (l₂ := [_])).cons _).cons _).cons _)
  obtain ⟨An, nn, cn, Ak, ck, xs, TE, hcn, hck, rfl, hrn, hrk, hvtl⟩ := hvt.kids hF10'
  simp only [VTL] at hvtl
  obtain ⟨c1, y1, E1, E2, rfl, rfl, hv1, c2, y2, E3, E4, rfl, rfl, hv2, rfl, rfl⟩ := hvtl
  have hl1 := hv1.len
  rw [VT] at hv2
  obtain ⟨A2, n2, k2, A3, n3, k3, x3, T3, _, _, rfl, _⟩ := hv2
  rw [show ([JV.mk 3 1 [] [] [], JV.mk 3 (-2) [] [] []] : List JV).length = 2 from rfl] at hF10 hrk
  have hcx : w10.cell? ⟨(atp Ak 5).block, (atp Ak 5).off + 1, none⟩ = some (.int .i64 (-2)) := by
    have hc := hrk.cell 6 (.int .i64 (-2)) (by rw [List.getElem?_append_right (by omega), hl1]; rfl)
    obtain ⟨⟨bk, of, sp⟩, rfl⟩ : ∃ ad, Ak = some ad := ⟨_, hrk.some_ (by decide)⟩
    simpa [atp, Addr.add] using hc
  clear hvl hvo hv1 hF10' hF9 hF8 hF7 hF6 hF5 hF4 hF3 hF2 hF1 hF0 hl1
  go_wp2_with (first | (with_reducible refine lst (by with_unfolding_all rfl) (wp_fld2 hF10 Tryd.underlying3 rfl (by with_unfolding_all exact ⟨_, rfl, rfl⟩) rfl ?_)) | (with_reducible refine lst (by with_unfolding_all rfl) (wp_fld2 hF10 Tryd.underlying25 rfl (by with_unfolding_all exact ⟨_, rfl, rfl⟩) rfl ?_)) | (with_reducible refine lst (by with_unfolding_all rfl) (wp_indexAddr T_vals hrk (by with_unfolding_all exact ⟨_, _, _, _, rfl, rfl, rfl⟩) (by omega) (by omega) ?_)))
  go_ret
  exact ⟨rfl, hF10.below⟩
end Go.Proofs.YtdekogmegdhjoaaDoor
