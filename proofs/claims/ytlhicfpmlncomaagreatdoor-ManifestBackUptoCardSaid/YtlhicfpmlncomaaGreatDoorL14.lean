/-
 Layer 8: descriptors laid anew.
 Layer 8: documents laid anew: the laws' From and To.
 Layer 8, plain law: what is read is small.
 What the second form's bound gives of a slice: its room.
 From what the form reads of structs that came in to the words of the walks: parts of the cells, one by one. No program is named here.
 A slice of any elements that came in. No program is named here.
 Layer 6: the walk of the program's has.
-/
import Derived.Test.YtlhicfpmlncomaaGreatDoorL13
import Derived.Test.YtlhicfpmlncomaaGreatDoorL03
import Derived.Test.YtlhicfpmlncomaaGreatDoorRows
import Derived.Test.YtlhicfpmlncomaaGreatDoorL01
import Derived.Test.YtlhicfpmlncomaaGreatDoorL09
set_option linter.unusedSimpArgs false
namespace Go.Proofs.YtlhicfpmlncomaaGreatDoor
open Go.RowKit
set_option linter.unusedSimpArgs false
set_option linter.unusedVariables false
set_option maxRecDepth 20000 in
set_option maxHeartbeats 3200000 in
theorem backDesc_any (d : MDesc) (cs : List Value) (A : Option Addr) (n c : Nat) (w : World) (hd' : d.dig.length = 32) (hcs : cs = dsL d.media d.dig d.size (.slice A n c)) (hn : n = d.notes.length) (hbd : n ≤ 1048576) (hr : Rd w (· < w.heap.size) A 2 n (ntsL d.notes)) :
  Calls Tryz.prog 36 #[.agg cs.toArray] w fun e w' => ∃ cs' es, e = .returned (.agg cs'.toArray) ∧ VD d cs' es ∧ Fr [] w w' es := by
 have hF0 := Fr.nil w
 obtain ⟨m, dg, z, nts⟩ := d
 simp only [] at hcs hn hd' hr
 subst hcs
 have hd := box hd'
 have hbn := box (fun w' (hb : Below w.heap.size w w') => backNotes_any A n c nts w' hn hbd (hr.on hb))
 clear hn hbd hr hd'
 go_enter Tryz.func36, Tryz.ntmps36
 go_upto_region 1 with (first | ((with_reducible refine lsx (wp_fbox hF0 (cs := (dsL m dg z (.slice A n c))) rfl (by with_unfolding_all rfl) (by with_unfolding_all rfl) ?_)); intro w1 g1 hF1 hz1) | ((with_reducible refine lsx (wp_falloc hF1 (cs := ds0) (z := .agg (List.toArray (ds0))) rfl (by kernel_rfl) (by with_unfolding_all rfl) ?_)); intro w2 g2 hF2 hz2))
 have hFd := (hF2.perm (List.Perm.swap _ _ _)).drew
 clear hF0 hF1 hF2
 refine wp_region_held (S := fun w' => w'.heap[g1]? = some (.cells (List.toArray (dsL m dg z (.slice A n c))) 28 (0, 0))) (by kernel_rfl) ?_
 change wpAnyH _ _ _ _ _ _ _ _ (World.drew _)
 refine tkp 0 (hFd.blk (i := 0) rfl) ?_
 (try simp only [zP, zQ, zS, zZ, zN])
 refine tky 1 (y := yi_fld (by with_unfolding_all rfl) (fun _ h => h) Tryz.underlying9 rfl (by with_unfolding_all exact ⟨_, rfl, rfl⟩) dsL_m0) (s := (hFd.blk (i := 0) rfl)) (h := ?_)
 (try simp only [zP, zQ, zS, zZ, zN])
 refine tkp 2 (hFd.blk (i := 0) rfl) ?_
 (try simp only [zP, zQ, zS, zZ, zN])
 refine tky 3 (y := yi_fldA (by with_unfolding_all rfl) (fun _ h => h) Tryz.underlying25 rfl (by with_unfolding_all exact ⟨_, rfl, rfl⟩) (ds := (dg.map bv)) (by rw [List.length_map, hd.out]; kernel_rfl) (by rw [List.length_map, hd.out]; exact dsL_dig hd.out)) (s := (hFd.blk (i := 0) rfl)) (h := ?_)
 (try simp only [zP, zQ, zS, zZ, zN])
 refine tkp 4 (hFd.blk (i := 0) rfl) ?_
 (try simp only [zP, zQ, zS, zZ, zN])
 refine tky 5 (y := yi_fld (by with_unfolding_all rfl) (fun _ h => h) Tryz.underlying3 rfl (by with_unfolding_all exact ⟨_, rfl, rfl⟩) (dsL_size hd.out)) (s := (hFd.blk (i := 0) rfl)) (h := ?_)
 (try simp only [zP, zQ, zS, zZ, zN])
 refine tkp 6 (hFd.blk (i := 0) rfl) ?_
 (try simp only [zP, zQ, zS, zZ, zN])
 refine tky 7 (y := yi_fld (by with_unfolding_all rfl) (fun _ h => h) Tryz.underlying26 rfl (by with_unfolding_all exact ⟨_, rfl, rfl⟩) (dsL_notes hd.out)) (s := (hFd.blk (i := 0) rfl)) (h := ?_)
 (try simp only [zP, zQ, zS, zZ, zN])
 refine rdy1 8 (fun K hK => ?_)
 refine stp (by with_unfolding_all rfl) (wp_call Tryz.func37 rfl (by with_unfolding_all rfl) (by with_unfolding_all rfl) (by with_unfolding_all rfl) (hbn.out _ hFd.below) ?_)
 rintro e w31 ⟨nt31, es31, rfl, hvn31, hv31⟩
 refine ⟨_, rfl, ?_⟩
 have hF31 := hFd.joinR hv31
 simp only [List.cons_append, List.nil_append] at hF31
 obtain ⟨A31, l31, c31, hlc31, hll31, rfl, hm31⟩ := hvn31
 replace hll31 := box hll31
 refine hK.out _ _ ((hF31.blk (i := 0) rfl)) (fun _ => ?_)
 clear hK K
 (try simp only [zP, zQ, zS, zZ, zN])
 refine rdy1 9 (fun K hK => ?_)
 refine stp (by with_unfolding_all rfl) (wp_fbuild Tryz.underlying37 (z := .agg (List.toArray ds0)) (by kernel_rfl) (pl := dsP) (by kernel_rfl) (cs := dsL m dg z (.slice A31 l31 c31)) rfl (vs := [(0, .string ⟨m.toArray⟩), (1, .agg (dg.map bv).toArray), (2, .int .i64 z), (3, .slice A31 l31 c31)]) (by with_unfolding_all rfl) (ds_fill hd.out) ?_)
 refine hK.out _ _ ((hF31.blk (i := 0) rfl)) (fun _ => ?_)
 clear hK K
 (try simp only [zP, zQ, zS, zZ, zN])
 refine rdy1 10 (fun K hK => ?_)
 refine stp (by with_unfolding_all rfl) (wp_fstA hF31 (i := 1) rfl (ds := dsL m dg z (.slice A31 l31 c31)) (by with_unfolding_all exact ⟨_, _, rfl, rfl, rfl⟩) (by rw [dsL_len hd.out]; kernel_rfl) dsL_one (by rw [dsL_len hd.out, ds0_len]; decide) ?_)
 intro w32 hF32 hz32
 (try simp only [zZ, zN] at hF32)
 rw [(spl_all (by rw [dsL_len hd.out, ds0_len]) : spl ds0 0 (dsL m dg z (.slice A31 l31 c31)) = _)] at hF32
 refine hK.out _ _ ((hF32.blk (i := 0) rfl)) (fun _ => ?_)
 clear hK K
 (try simp only [zP, zQ, zS, zZ, zN])
 refine wpAnyH_done (by kernel_rfl) ?_ _
 go_wp2_with fail
 exact bodyPost_ret (results_cellF rfl _ hF32 (i := 1) rfl rfl Tryz.underlying37 rfl (by rw [dsL_len hd.out]; kernel_rfl)) rfl ⟨_, _, rfl, ⟨_, hd.out, ⟨A31, l31, c31, hlc31, hll31.out, rfl, hm31⟩, rfl⟩, hF32.tail.tail⟩
set_option maxRecDepth 20000 in
set_option maxHeartbeats 3200000 in
theorem backDescs_any (A : Option Addr) (n c : Nat) (l : List MDesc) (xs : List Value) (w : World) (hn : n = l.length) (hbd : n ≤ 1048576) (hr : Rd w (· < w.heap.size) A 35 n xs)
  (hx : ∀ i d, l[i]? = some d → ∃ B k c, d.dig.length = 32 ∧ (xs.drop (i * 35)).take 35 = dsL d.media d.dig d.size (.slice B k c) ∧ k = d.notes.length ∧ k ≤ 1048576 ∧ Rd w (· < w.heap.size) B 2 k (ntsL d.notes)) :
  Calls Tryz.prog 26 #[.slice A n c] w fun e w' => ∃ eg es, e = .returned eg ∧ VE l eg es ∧ Fr [] w w' es := by
 have hF0 := Fr.nil w
 replace hn := box hn
 replace hx := box hx
 go_enter Tryz.func26, Tryz.ntmps26
 go_wp2_with fail
 have hF1 := hF0.none_ w.heap.size 37 35
 go_loopg [3, 8] n (fun g ov iv wr => ∃ (i : Nat) (B : Option Addr) (d : Nat) (zs : List Value) (TE : List Ent), i ≤ n ∧ Box (g = n - i) ∧ iv = .int .i64 (i : Int) ∧ ov = .slice B i d ∧ i ≤ d ∧ Box (VDL (l.take i) zs TE) ∧ Fr [] w wr (.own w.heap.size 37 35 (.slice B i d) i zs :: TE))
 case atStart => exact ⟨0, none, 0, [], [], by omega, box rfl, rfl, rfl, by omega, box rfl, hF1⟩
 case round =>
  clear hF0 hF1
  obtain ⟨i, B, d, zs, TE, hi, hgi, rfl, rfl, hid, hT, hF⟩ := hrel
  have hkk : Box (_ = n - i) := hgi
  clear hgi
  have hr' := hr.below hF.below
  by_cases hlt : i < n
  ·obtain ⟨x, hxi⟩ : ∃ x, l[i]? = some x := ⟨l[i]'(by rw [← hn.out]; exact hlt), by simp⟩
   obtain ⟨D, k, q, hd32, hcs, hk, hkb, hrk⟩ := hx.out i x hxi
   have hbd1 := box (fun w' (hb : Below w.heap.size w w') => backDesc_any x _ D k q w' hd32 rfl hk hkb (hrk.on hb))
   have hcl := box (dsL_len (m := x.media) (z := x.size) (nt := .slice D k q) hd32)
   have htk : l.take (i + 1) = l.take i ++ [x] := by rw [List.take_add_one, hxi]; rfl
   replace htk := box htk
   replace hcs := box hcs
   clear hxi hd32 hk hkb hrk
   go_wp2_with (first | (with_reducible refine lsx (wp_indexAddr T_descs hr' (by with_unfolding_all exact ⟨_, _, _, _, rfl, rfl, rfl⟩) (by omega) (by omega) ?_)) | (with_reducible refine lsx (wp_loadA hr' Tryz.underlying28 rfl (by with_unfolding_all exact ⟨_, rfl, rfl⟩) (ds := (dsL x.media x.dig x.size (.slice D k q))) (by rw [hcl.out]; kernel_rfl) (by rw [hcl.out]; with_unfolding_all exact hcs.out) ?_)) | ((with_reducible refine lsx (wp_falloc hF (cs := ds0) (z := .agg (List.toArray (ds0))) rfl (by kernel_rfl) (by with_unfolding_all rfl) ?_)); intro w2 g2 hF2 hz2) | ((with_reducible refine lsx (wp_fstA0 hF2 (by with_unfolding_all exact ⟨_, _, rfl, rfl, rfl⟩) (by rw [hcl.out]; kernel_rfl) dsL_one (by rw [hcl.out, ds0_len]; decide) (spl_all (by rw [hcl.out, ds0_len])) ?_)); intro w3 hF3 hz3) | (with_reducible refine lsx (wp_fldA0 hF3 Tryz.underlying28 rfl (by with_unfolding_all exact ⟨_, rfl, rfl⟩) (ds := (dsL x.media x.dig x.size (.slice D k q))) (by rw [hcl.out]; kernel_rfl) (take_all _) ?_)))
   refine (hbd1.out _ hF3.below).mono ?_
   rintro e w4 ⟨c4, es4, rfl, hvd, h4⟩
   have hF4 := hF3.joinR h4
   simp only [List.cons_append] at hF4
   have hdl := box hvd.len
   have hdo := box hvd.ones
   have hT2 := box (VDL.snoc (hT.out.mono (es' := TE ++ es4) (fun _ h => List.mem_append_left _ h)) (hvd.mono (fun _ h => List.mem_append_right _ h)))
   rw [← htk.out] at hT2
   clear hvd h4 hbd1
   go_wp2_with (first | ((with_reducible refine lsx (wp_fbs1 T_rdescs hF4 (by with_unfolding_all rfl) (ds := c4) (by with_unfolding_all rfl) hdl.out (by decide) ?_)); intro w7 g7 hF7 hz7) | ((with_reducible refine lsx (wp_fappG T_rdescs hF7 (i := 2) rfl (Nat.le_refl _) (hF7.rdOwn (i := 0) rfl) hdo.out (by with_unfolding_all exact ⟨_, _, rfl, rfl, rfl⟩) (by unfold maxLen; omega) (by omega) ?_)); intro v8 w8 hF8 hz8; simp only [zZ, zN] at hF8; obtain ⟨A8, c8, rfl, hc8⟩ := hF8.ownParts (i := 2) rfl))
   go_roundg (n - (i + 1))
   case rel => exact ⟨i + 1, A8, c8, zs ++ c4, TE ++ es4, by omega, box rfl, by go_num, rfl, hc8, hT2, hF8.tail.tail⟩
   case measure => have := hkk.out; omega
  ·obtain rfl : n = i := by omega
   have hta : Box (l.take n = l) := box (List.take_of_length_le (by rw [hn.out]; exact Nat.le_refl _))
   rw [hta.out] at hT
   go_wp2_with fail
   go_ret
   have hF3 := hF.toRd (i := 0) rfl
   exact ⟨_, _, rfl, ⟨B, n, d, zs, hid, hn.out, rfl, hT.out.mono (fun _ h => by simp [h]), .inr (by simp)⟩, hF3⟩
set_option maxRecDepth 20000 in
set_option maxHeartbeats 3200000 in
theorem desc_any (d : MDesc) (cs : List Value) (A : Option Addr) (n c : Nat) (w : World) (hd' : d.dig.length = 32) (hcs : cs = dsL d.media d.dig d.size (.slice A n c)) (hn : n = d.notes.length) (hbd : n ≤ 1048576) (hr : Rd w (· < w.heap.size) A 2 n (ntsL d.notes)) :
  Calls Tryz.prog 53 #[.agg cs.toArray] w fun e w' => ∃ cs' es, e = .returned (.agg cs'.toArray) ∧ VD d cs' es ∧ Fr [] w w' es := by
 have hF0 := Fr.nil w
 obtain ⟨m, dg, z, nts⟩ := d
 simp only [] at hcs hn hd' hr
 subst hcs
 have hd := box hd'
 have hbn := box (fun w' (hb : Below w.heap.size w w') => notes_any A n c nts w' hn hbd (hr.on hb))
 clear hn hbd hr hd'
 go_enter Tryz.func53, Tryz.ntmps53
 go_upto_region 1 with (first | ((with_reducible refine lsx (wp_fbox hF0 (cs := (dsL m dg z (.slice A n c))) rfl (by with_unfolding_all rfl) (by with_unfolding_all rfl) ?_)); intro w1 g1 hF1 hz1) | ((with_reducible refine lsx (wp_falloc hF1 (cs := ds0) (z := .agg (List.toArray (ds0))) rfl (by kernel_rfl) (by with_unfolding_all rfl) ?_)); intro w2 g2 hF2 hz2))
 have hFd := (hF2.perm (List.Perm.swap _ _ _)).drew
 clear hF0 hF1 hF2
 refine wp_region_held (S := fun w' => w'.heap[g1]? = some (.cells (List.toArray (dsL m dg z (.slice A n c))) 37 (0, 0))) (by kernel_rfl) ?_
 change wpAnyH _ _ _ _ _ _ _ _ (World.drew _)
 refine tkp 0 (hFd.blk (i := 0) rfl) ?_
 (try simp only [zP, zQ, zS, zZ, zN])
 refine tky 1 (y := yi_fld (by with_unfolding_all rfl) (fun _ h => h) Tryz.underlying9 rfl (by with_unfolding_all exact ⟨_, rfl, rfl⟩) dsL_m0) (s := (hFd.blk (i := 0) rfl)) (h := ?_)
 (try simp only [zP, zQ, zS, zZ, zN])
 refine tkp 2 (hFd.blk (i := 0) rfl) ?_
 (try simp only [zP, zQ, zS, zZ, zN])
 refine tky 3 (y := yi_fldA (by with_unfolding_all rfl) (fun _ h => h) Tryz.underlying24 rfl (by with_unfolding_all exact ⟨_, rfl, rfl⟩) (ds := (dg.map bv)) (by rw [List.length_map, hd.out]; kernel_rfl) (by rw [List.length_map, hd.out]; exact dsL_dig hd.out)) (s := (hFd.blk (i := 0) rfl)) (h := ?_)
 (try simp only [zP, zQ, zS, zZ, zN])
 refine tkp 4 (hFd.blk (i := 0) rfl) ?_
 (try simp only [zP, zQ, zS, zZ, zN])
 refine tky 5 (y := yi_fld (by with_unfolding_all rfl) (fun _ h => h) Tryz.underlying3 rfl (by with_unfolding_all exact ⟨_, rfl, rfl⟩) (dsL_size hd.out)) (s := (hFd.blk (i := 0) rfl)) (h := ?_)
 (try simp only [zP, zQ, zS, zZ, zN])
 refine tkp 6 (hFd.blk (i := 0) rfl) ?_
 (try simp only [zP, zQ, zS, zZ, zN])
 refine tky 7 (y := yi_fld (by with_unfolding_all rfl) (fun _ h => h) Tryz.underlying35 rfl (by with_unfolding_all exact ⟨_, rfl, rfl⟩) (dsL_notes hd.out)) (s := (hFd.blk (i := 0) rfl)) (h := ?_)
 (try simp only [zP, zQ, zS, zZ, zN])
 refine rdy1 8 (fun K hK => ?_)
 refine stp (by with_unfolding_all rfl) (wp_call Tryz.func55 rfl (by with_unfolding_all rfl) (by with_unfolding_all rfl) (by with_unfolding_all rfl) (hbn.out _ hFd.below) ?_)
 rintro e w31 ⟨nt31, es31, rfl, hvn31, hv31⟩
 refine ⟨_, rfl, ?_⟩
 have hF31 := hFd.joinR hv31
 simp only [List.cons_append, List.nil_append] at hF31
 obtain ⟨A31, l31, c31, hlc31, hll31, rfl, hm31⟩ := hvn31
 replace hll31 := box hll31
 refine hK.out _ _ ((hF31.blk (i := 0) rfl)) (fun _ => ?_)
 clear hK K
 (try simp only [zP, zQ, zS, zZ, zN])
 refine rdy1 9 (fun K hK => ?_)
 refine stp (by with_unfolding_all rfl) (wp_fbuild Tryz.underlying28 (z := .agg (List.toArray ds0)) (by kernel_rfl) (pl := dsP) (by kernel_rfl) (cs := dsL m dg z (.slice A31 l31 c31)) rfl (vs := [(0, .string ⟨m.toArray⟩), (1, .agg (dg.map bv).toArray), (2, .int .i64 z), (3, .slice A31 l31 c31)]) (by with_unfolding_all rfl) (ds_fill hd.out) ?_)
 refine hK.out _ _ ((hF31.blk (i := 0) rfl)) (fun _ => ?_)
 clear hK K
 (try simp only [zP, zQ, zS, zZ, zN])
 refine rdy1 10 (fun K hK => ?_)
 refine stp (by with_unfolding_all rfl) (wp_fstA hF31 (i := 1) rfl (ds := dsL m dg z (.slice A31 l31 c31)) (by with_unfolding_all exact ⟨_, _, rfl, rfl, rfl⟩) (by rw [dsL_len hd.out]; kernel_rfl) dsL_one (by rw [dsL_len hd.out, ds0_len]; decide) ?_)
 intro w32 hF32 hz32
 (try simp only [zZ, zN] at hF32)
 rw [(spl_all (by rw [dsL_len hd.out, ds0_len]) : spl ds0 0 (dsL m dg z (.slice A31 l31 c31)) = _)] at hF32
 refine hK.out _ _ ((hF32.blk (i := 0) rfl)) (fun _ => ?_)
 clear hK K
 (try simp only [zP, zQ, zS, zZ, zN])
 refine wpAnyH_done (by kernel_rfl) ?_ _
 go_wp2_with fail
 exact bodyPost_ret (results_cellF rfl _ hF32 (i := 1) rfl rfl Tryz.underlying28 rfl (by rw [dsL_len hd.out]; kernel_rfl)) rfl ⟨_, _, rfl, ⟨_, hd.out, ⟨A31, l31, c31, hlc31, hll31.out, rfl, hm31⟩, rfl⟩, hF32.tail.tail⟩
set_option maxRecDepth 20000 in
set_option maxHeartbeats 3200000 in
theorem descs_any (A : Option Addr) (n c : Nat) (l : List MDesc) (xs : List Value) (w : World) (hn : n = l.length) (hbd : n ≤ 1048576) (hr : Rd w (· < w.heap.size) A 35 n xs)
  (hx : ∀ i d, l[i]? = some d → ∃ B k c, d.dig.length = 32 ∧ (xs.drop (i * 35)).take 35 = dsL d.media d.dig d.size (.slice B k c) ∧ k = d.notes.length ∧ k ≤ 1048576 ∧ Rd w (· < w.heap.size) B 2 k (ntsL d.notes)) :
  Calls Tryz.prog 54 #[.slice A n c] w fun e w' => ∃ eg es, e = .returned eg ∧ VE l eg es ∧ Fr [] w w' es := by
 have hF0 := Fr.nil w
 replace hn := box hn
 replace hx := box hx
 go_enter Tryz.func54, Tryz.ntmps54
 go_wp2_with fail
 have hF1 := hF0.none_ w.heap.size 28 35
 go_loopg [3, 8] n (fun g ov iv wr => ∃ (i : Nat) (B : Option Addr) (d : Nat) (zs : List Value) (TE : List Ent), i ≤ n ∧ Box (g = n - i) ∧ iv = .int .i64 (i : Int) ∧ ov = .slice B i d ∧ i ≤ d ∧ Box (VDL (l.take i) zs TE) ∧ Fr [] w wr (.own w.heap.size 28 35 (.slice B i d) i zs :: TE))
 case atStart => exact ⟨0, none, 0, [], [], by omega, box rfl, rfl, rfl, by omega, box rfl, hF1⟩
 case round =>
  clear hF0 hF1
  obtain ⟨i, B, d, zs, TE, hi, hgi, rfl, rfl, hid, hT, hF⟩ := hrel
  have hkk : Box (_ = n - i) := hgi
  clear hgi
  have hr' := hr.below hF.below
  by_cases hlt : i < n
  ·obtain ⟨x, hxi⟩ : ∃ x, l[i]? = some x := ⟨l[i]'(by rw [← hn.out]; exact hlt), by simp⟩
   obtain ⟨D, k, q, hd32, hcs, hk, hkb, hrk⟩ := hx.out i x hxi
   have hbd1 := box (fun w' (hb : Below w.heap.size w w') => desc_any x _ D k q w' hd32 rfl hk hkb (hrk.on hb))
   have hcl := box (dsL_len (m := x.media) (z := x.size) (nt := .slice D k q) hd32)
   have htk : l.take (i + 1) = l.take i ++ [x] := by rw [List.take_add_one, hxi]; rfl
   replace htk := box htk
   replace hcs := box hcs
   clear hxi hd32 hk hkb hrk
   go_wp2_with (first | (with_reducible refine lsx (wp_indexAddr T_rdescs hr' (by with_unfolding_all exact ⟨_, _, _, _, rfl, rfl, rfl⟩) (by omega) (by omega) ?_)) | (with_reducible refine lsx (wp_loadA hr' Tryz.underlying37 rfl (by with_unfolding_all exact ⟨_, rfl, rfl⟩) (ds := (dsL x.media x.dig x.size (.slice D k q))) (by rw [hcl.out]; kernel_rfl) (by rw [hcl.out]; with_unfolding_all exact hcs.out) ?_)) | ((with_reducible refine lsx (wp_falloc hF (cs := ds0) (z := .agg (List.toArray (ds0))) rfl (by kernel_rfl) (by with_unfolding_all rfl) ?_)); intro w2 g2 hF2 hz2) | ((with_reducible refine lsx (wp_fstA0 hF2 (by with_unfolding_all exact ⟨_, _, rfl, rfl, rfl⟩) (by rw [hcl.out]; kernel_rfl) dsL_one (by rw [hcl.out, ds0_len]; decide) (spl_all (by rw [hcl.out, ds0_len])) ?_)); intro w3 hF3 hz3) | (with_reducible refine lsx (wp_fldA0 hF3 Tryz.underlying37 rfl (by with_unfolding_all exact ⟨_, rfl, rfl⟩) (ds := (dsL x.media x.dig x.size (.slice D k q))) (by rw [hcl.out]; kernel_rfl) (take_all _) ?_)))
   refine (hbd1.out _ hF3.below).mono ?_
   rintro e w4 ⟨c4, es4, rfl, hvd, h4⟩
   have hF4 := hF3.joinR h4
   simp only [List.cons_append] at hF4
   have hdl := box hvd.len
   have hdo := box hvd.ones
   have hT2 := box (VDL.snoc (hT.out.mono (es' := TE ++ es4) (fun _ h => List.mem_append_left _ h)) (hvd.mono (fun _ h => List.mem_append_right _ h)))
   rw [← htk.out] at hT2
   clear hvd h4 hbd1
   go_wp2_with (first | ((with_reducible refine lsx (wp_fbs1 T_descs hF4 (by with_unfolding_all rfl) (ds := c4) (by with_unfolding_all rfl) hdl.out (by decide) ?_)); intro w7 g7 hF7 hz7) | ((with_reducible refine lsx (wp_fappG T_descs hF7 (i := 2) rfl (Nat.le_refl _) (hF7.rdOwn (i := 0) rfl) hdo.out (by with_unfolding_all exact ⟨_, _, rfl, rfl, rfl⟩) (by unfold maxLen; omega) (by omega) ?_)); intro v8 w8 hF8 hz8; simp only [zZ, zN] at hF8; obtain ⟨A8, c8, rfl, hc8⟩ := hF8.ownParts (i := 2) rfl))
   go_roundg (n - (i + 1))
   case rel => exact ⟨i + 1, A8, c8, zs ++ c4, TE ++ es4, by omega, box rfl, by go_num, rfl, hc8, hT2, hF8.tail.tail⟩
   case measure => have := hkk.out; omega
  ·obtain rfl : n = i := by omega
   have hta : Box (l.take n = l) := box (List.take_of_length_le (by rw [hn.out]; exact Nat.le_refl _))
   rw [hta.out] at hT
   go_wp2_with fail
   go_ret
   have hF3 := hF.toRd (i := 0) rfl
   exact ⟨_, _, rfl, ⟨B, n, d, zs, hid, hn.out, rfl, hT.out.mono (fun _ h => by simp [h]), .inr (by simp)⟩, hF3⟩
end Go.Proofs.YtlhicfpmlncomaaGreatDoor

namespace Go.Proofs.YtlhicfpmlncomaaGreatDoor
open Go.RowKit
set_option linter.unusedSimpArgs false
set_option linter.unusedVariables false
/-- Memory reads as notes, a descriptor, descriptors, a document. -/
def RdN (w : World) (l : List MNote) (nt : Value) : Prop := ∃ A n c, n ≤ c ∧ n = l.length ∧ nt = .slice A n c ∧ Rd w (· < w.heap.size) A 2 n (ntsL l)
def RdD (w : World) (d : MDesc) (cs : List Value) : Prop := ∃ nt, d.dig.length = 32 ∧ RdN w d.notes nt ∧ cs = dsL d.media d.dig d.size nt
def RdE (w : World) (l : List MDesc) (v : Value) : Prop := ∃ A n c xs, n ≤ c ∧ n = l.length ∧ v = .slice A n c ∧ Rd w (· < w.heap.size) A 35 n xs ∧ ∀ i d, l[i]? = some d → RdD w d ((xs.drop (i * 35)).take 35)
def RdDoc (w : World) (d : MDoc) (cs : List Value) : Prop := ∃ cf eg sj nt, RdD w d.config cf ∧ RdE w d.edges eg ∧ RdD w d.subject sj ∧ RdN w d.notes nt ∧ cs = docL d.media d.type cf eg sj d.has nt
/-- No list of a document is longer than any machine bears. -/
def MB (d : MDoc) : Prop := d.config.notes.length ≤ 1048576 ∧ d.edges.length ≤ 1048576 ∧ (∀ x ∈ d.edges, x.notes.length ≤ 1048576) ∧ d.subject.notes.length ≤ 1048576 ∧ d.notes.length ≤ 1048576
section
variable {w w' : World}
theorem RdN.on {l : List MNote} {nt : Value} (h : RdN w l nt) (hb : Below w.heap.size w w') : RdN w' l nt := by
 obtain ⟨A, n, c, h1, h2, h3, h4⟩ := h
 exact ⟨A, n, c, h1, h2, h3, h4.on hb⟩
theorem RdD.on {d : MDesc} {cs : List Value} (h : RdD w d cs) (hb : Below w.heap.size w w') : RdD w' d cs := by
 obtain ⟨nt, h1, h2, h3⟩ := h
 exact ⟨nt, h1, h2.on hb, h3⟩
theorem RdE.on {l : List MDesc} {v : Value} (h : RdE w l v) (hb : Below w.heap.size w w') : RdE w' l v := by
 obtain ⟨A, n, c, xs, h1, h2, h3, h4, h5⟩ := h
 exact ⟨A, n, c, xs, h1, h2, h3, h4.on hb, fun i d hi => (h5 i d hi).on hb⟩
theorem RdDoc.on {d : MDoc} {cs : List Value} (h : RdDoc w d cs) (hb : Below w.heap.size w w') : RdDoc w' d cs := by
 obtain ⟨cf, eg, sj, nt, h1, h2, h3, h4, h5⟩ := h
 exact ⟨cf, eg, sj, nt, h1.on hb, h2.on hb, h3.on hb, h4.on hb, h5⟩
theorem RdD.len {d : MDesc} {cs : List Value} (h : RdD w d cs) : cs.length = 35 := by
 obtain ⟨nt, h1, _, rfl⟩ := h
 exact dsL_len h1
theorem RdD.ones {d : MDesc} {cs : List Value} (h : RdD w d cs) : ∀ u ∈ cs, u.oneCell' = true := by
 obtain ⟨nt, h1, ⟨A, n, c, _, _, rfl, _⟩, rfl⟩ := h
 exact dsL_one
variable {X : List Nat} {w0 : World} {es es' : List Ent}
theorem VN.rdN {l : List MNote} {nt : Value} (h : VN l nt es) (hF : Fr X w0 w es') (hs : ∀ e ∈ es, e ∈ es') : RdN w l nt := (h.mono hs).rd hF
theorem VD.rdD {d : MDesc} {cs : List Value} (h : VD d cs es) (hF : Fr X w0 w es') (hs : ∀ e ∈ es, e ∈ es') : RdD w d cs := by
 obtain ⟨nt, h1, h2, h3⟩ := h
 exact ⟨nt, h1, h2.rdN hF hs, h3⟩
theorem VE.rdE {l : List MDesc} {v : Value} (h : VE l v es) (hF : Fr X w0 w es') (hs : ∀ e ∈ es, e ∈ es') : RdE w l v := by
 obtain ⟨A, n, c, xs, h1, h2, h3, h4, h5⟩ := (h.mono hs).rd hF
 exact ⟨A, n, c, xs, h1, h2, h3, h5, fun i d hi => (h4.at hi).rdD hF (fun _ h => h)⟩
theorem VDoc.rdDoc {d : MDoc} {cs : List Value} (h : VDoc d cs es) (hF : Fr X w0 w es') (hs : ∀ e ∈ es, e ∈ es') : RdDoc w d cs := by
 obtain ⟨cf, eg, sj, nt, h1, h2, h3, h4, h5⟩ := h
 exact ⟨cf, eg, sj, nt, h1.rdD hF hs, h2.rdE hF hs, h3.rdD hF hs, h4.rdN hF hs, h5⟩
end
theorem doc_fill {m t : List UInt8} {cf sj : List Value} {A B : Option Addr} {n c n' c' : Nat} {has : Bool} (h1 : cf.length = 35) (h2 : sj.length = 35) :
  Instr.fill (fun i : Nat => docP[i]?) doc0.toArray [(0, .string ⟨m.toArray⟩), (1, .string ⟨t.toArray⟩), (2, .agg cf.toArray), (3, .slice A n c), (4, .agg sj.toArray), (5, .bool has), (6, .slice B n' c')] = some (docL m t cf (.slice A n c) sj has (.slice B n' c')).toArray := by
 unfold doc0
 rw [fill_step (off := 0) (size := 1) rfl rfl (by rw [docL_len ds0_len ds0_len]; omega), show (Value.string ⟨m.toArray⟩).cells.toList = [.string ⟨m.toArray⟩] from rfl, docL_0s,
  fill_step (off := 1) (size := 1) rfl rfl (by rw [docL_len ds0_len ds0_len]; omega), show (Value.string ⟨t.toArray⟩).cells.toList = [.string ⟨t.toArray⟩] from rfl, docL_1s,
  fill_step (off := 2) (size := 35) rfl (by simpa [Value.cells] using h1) (by rw [docL_len ds0_len ds0_len]; omega), show (Value.agg cf.toArray).cells.toList = cf from rfl, docL_2 (by rw [ds0_len, h1]),
  fill_step (off := 37) (size := 1) rfl rfl (by rw [docL_len h1 ds0_len]; omega), show (Value.slice A n c).cells.toList = [.slice A n c] from rfl, docL_37 h1,
  fill_step (off := 38) (size := 35) rfl (by simpa [Value.cells] using h2) (by rw [docL_len h1 ds0_len]; omega), show (Value.agg sj.toArray).cells.toList = sj from rfl, docL_38 h1 (by rw [ds0_len, h2]),
  fill_step (off := 73) (size := 1) rfl rfl (by rw [docL_len h1 h2]; omega), show (Value.bool has).cells.toList = [.bool has] from rfl, docL_73 h1 h2,
  fill_step (off := 74) (size := 1) rfl rfl (by rw [docL_len h1 h2]; omega), show (Value.slice B n' c').cells.toList = [.slice B n' c'] from rfl, docL_74 h1 h2]
 rfl
set_option maxRecDepth 20000 in
set_option maxHeartbeats 6400000 in
theorem From_any (d : MDoc) (cs : List Value) (w : World) (hD : RdDoc w d cs) (hB : MB d) :
  Calls Tryz.prog 15 #[.agg cs.toArray] w fun e w' => ∃ cs' es, e = .returned (.agg cs'.toArray) ∧ VDoc d cs' es ∧ Fr [] w w' es := by
 have hF0 := Fr.nil w
 obtain ⟨cf, eg, sj, nt, hC, hE, hS, hN, rfl⟩ := hD
 have hcl := box hC.len
 have hsl := box hS.len
 have hco := hC.ones
 have hso := hS.ones
 obtain ⟨hB1, hB2, hB3, hB4, hB5⟩ := hB
 have hcC : Box (∀ w', Below w.heap.size w w' → Calls Tryz.prog 36 #[.agg cf.toArray] w' fun e w2 => ∃ cs' es, e = .returned (.agg cs'.toArray) ∧ VD d.config cs' es ∧ Fr [] w' w2 es) := box (fun w' hb => by
  obtain ⟨nt, h1, ⟨A, n, c, _, h3, rfl, h5⟩, rfl⟩ := hC.on hb
  exact backDesc_any d.config _ A n c w' h1 rfl h3 (by omega) h5)
 have hcS : Box (∀ w', Below w.heap.size w w' → Calls Tryz.prog 36 #[.agg sj.toArray] w' fun e w2 => ∃ cs' es, e = .returned (.agg cs'.toArray) ∧ VD d.subject cs' es ∧ Fr [] w' w2 es) := box (fun w' hb => by
  obtain ⟨nt, h1, ⟨A, n, c, _, h3, rfl, h5⟩, rfl⟩ := hS.on hb
  exact backDesc_any d.subject _ A n c w' h1 rfl h3 (by omega) h5)
 have hcE : Box (∀ w', Below w.heap.size w w' → Calls Tryz.prog 26 #[eg] w' fun e w2 => ∃ eg' es, e = .returned eg' ∧ VE d.edges eg' es ∧ Fr [] w' w2 es) := box (fun w' hb => by
  obtain ⟨A, n, c, xs, _, h2, rfl, h4, h5⟩ := hE.on hb
  exact backDescs_any A n c d.edges xs w' h2 (by omega) h4 (fun i x hx => by
   obtain ⟨nt, h6, ⟨B, k, q, _, h8, rfl, h9⟩, h10⟩ := h5 i x hx
   have := hB3 x (List.mem_of_getElem? hx)
   exact ⟨B, k, q, h6, h10, h8, by omega, h9⟩))
 have hcN : Box (∀ w', Below w.heap.size w w' → Calls Tryz.prog 37 #[nt] w' fun e w2 => ∃ nt' es, e = .returned nt' ∧ VN d.notes nt' es ∧ Fr [] w' w2 es) := box (fun w' hb => by
  obtain ⟨A, n, c, _, h2, rfl, h4⟩ := hN.on hb
  exact backNotes_any A n c d.notes w' h2 (by omega) h4)
 obtain ⟨Ae, ne, ce, _, _, _, rfl, _, _⟩ := hE
 obtain ⟨An, nn, cn, _, _, rfl, _⟩ := hN
 clear hC hS hB1 hB2 hB3 hB4 hB5 hco hso
 go_enter Tryz.func15, Tryz.ntmps15
 go_upto_region 1 with (first | ((with_reducible refine lsx (wp_fbox hF0 (cs := (docL d.media d.type cf (.slice Ae ne ce) sj d.has (.slice An nn cn))) rfl (by with_unfolding_all rfl) (by with_unfolding_all rfl) ?_)); intro w1 g1 hF1 hz1) | ((with_reducible refine lsx (wp_falloc hF1 (cs := doc0) (z := .agg (List.toArray (doc0))) rfl (by kernel_rfl) (by with_unfolding_all rfl) ?_)); intro w2 g2 hF2 hz2))
 have hFd := (hF2.perm (List.Perm.swap _ _ _)).drew
 clear hF0 hF1 hF2
 refine wp_region_held (S := fun w' => w'.heap[g1]? = some (.cells (List.toArray (docL d.media d.type cf (.slice Ae ne ce) sj d.has (.slice An nn cn))) 31 (0, 0))) (by kernel_rfl) ?_
 change wpAnyH _ _ _ _ _ _ _ _ (World.drew _)
 refine tkp 0 (hFd.blk (i := 0) rfl) ?_
 (try simp only [zP, zQ, zS, zZ, zN])
 refine tky 1 (y := yi_fld (by with_unfolding_all rfl) (fun _ h => h) Tryz.underlying9 rfl (by with_unfolding_all exact ⟨_, rfl, rfl⟩) docL_m0) (s := (hFd.blk (i := 0) rfl)) (h := ?_)
 (try simp only [zP, zQ, zS, zZ, zN])
 refine tkp 2 (hFd.blk (i := 0) rfl) ?_
 (try simp only [zP, zQ, zS, zZ, zN])
 refine tky 3 (y := yi_fld (by with_unfolding_all rfl) (fun _ h => h) Tryz.underlying9 rfl (by with_unfolding_all exact ⟨_, rfl, rfl⟩) docL_t0) (s := (hFd.blk (i := 0) rfl)) (h := ?_)
 (try simp only [zP, zQ, zS, zZ, zN])
 refine tkp 4 (hFd.blk (i := 0) rfl) ?_
 (try simp only [zP, zQ, zS, zZ, zN])
 refine tky 5 (y := yi_fldA (by with_unfolding_all rfl) (fun _ h => h) Tryz.underlying28 rfl (by with_unfolding_all exact ⟨_, rfl, rfl⟩) (ds := cf) (by rw [hcl.out]; kernel_rfl) (by rw [hcl.out]; exact docL_cf hcl.out)) (s := (hFd.blk (i := 0) rfl)) (h := ?_)
 (try simp only [zP, zQ, zS, zZ, zN])
 refine tkp 7 (hFd.blk (i := 0) rfl) ?_
 (try simp only [zP, zQ, zS, zZ, zN])
 refine tky 8 (y := yi_fld (by with_unfolding_all rfl) (fun _ h => h) Tryz.underlying29 rfl (by with_unfolding_all exact ⟨_, rfl, rfl⟩) (docL_eg hcl.out)) (s := (hFd.blk (i := 0) rfl)) (h := ?_)
 (try simp only [zP, zQ, zS, zZ, zN])
 refine tkp 10 (hFd.blk (i := 0) rfl) ?_
 (try simp only [zP, zQ, zS, zZ, zN])
 refine tky 11 (y := yi_fldA (by with_unfolding_all rfl) (fun _ h => h) Tryz.underlying28 rfl (by with_unfolding_all exact ⟨_, rfl, rfl⟩) (ds := sj) (by rw [hsl.out]; kernel_rfl) (by rw [hsl.out]; exact docL_sj hcl.out hsl.out)) (s := (hFd.blk (i := 0) rfl)) (h := ?_)
 (try simp only [zP, zQ, zS, zZ, zN])
 refine tkp 13 (hFd.blk (i := 0) rfl) ?_
 (try simp only [zP, zQ, zS, zZ, zN])
 refine tky 14 (y := yi_fld (by with_unfolding_all rfl) (fun _ h => h) Tryz.underlying4 rfl (by with_unfolding_all exact ⟨_, rfl, rfl⟩) (docL_has hcl.out hsl.out)) (s := (hFd.blk (i := 0) rfl)) (h := ?_)
 (try simp only [zP, zQ, zS, zZ, zN])
 refine tkp 15 (hFd.blk (i := 0) rfl) ?_
 (try simp only [zP, zQ, zS, zZ, zN])
 refine tky 16 (y := yi_fld (by with_unfolding_all rfl) (fun _ h => h) Tryz.underlying26 rfl (by with_unfolding_all exact ⟨_, rfl, rfl⟩) (docL_nt hcl.out hsl.out)) (s := (hFd.blk (i := 0) rfl)) (h := ?_)
 (try simp only [zP, zQ, zS, zZ, zN])
 refine rdy1 6 (fun K hK => ?_)
 refine stp (by with_unfolding_all rfl) (wp_call Tryz.func36 rfl (by with_unfolding_all rfl) (by with_unfolding_all rfl) (by with_unfolding_all rfl) (hcC.out _ hFd.below) ?_)
 rintro e w31 ⟨nt31, es31, rfl, hvn31, hv31⟩
 refine ⟨_, rfl, ?_⟩
 have hF31 := hFd.joinR hv31
 simp only [List.cons_append, List.nil_append] at hF31
 have hdl31 := box hvn31.len
 have hdo31 := hvn31.ones
 replace hdo31 := box hdo31
 refine hK.out _ _ ((hF31.blk (i := 0) rfl)) (fun _ => ?_)
 clear hK K
 (try simp only [zP, zQ, zS, zZ, zN])
 refine rdy1 9 (fun K hK => ?_)
 refine stp (by with_unfolding_all rfl) (wp_call Tryz.func26 rfl (by with_unfolding_all rfl) (by with_unfolding_all rfl) (by with_unfolding_all rfl) (hcE.out _ hF31.below) ?_)
 rintro e w32 ⟨nt32, es32, rfl, hvn32, hv32⟩
 refine ⟨_, rfl, ?_⟩
 have hF32 := hF31.joinR hv32
 simp only [List.cons_append, List.nil_append] at hF32
 obtain ⟨A32, l32, c32, xs32, hlc32, hll32, rfl, hT32, hm32⟩ := hvn32
 replace hll32 := box hll32
 refine hK.out _ _ ((hF32.blk (i := 0) rfl)) (fun _ => ?_)
 clear hK K
 (try simp only [zP, zQ, zS, zZ, zN])
 refine rdy1 12 (fun K hK => ?_)
 refine stp (by with_unfolding_all rfl) (wp_call Tryz.func36 rfl (by with_unfolding_all rfl) (by with_unfolding_all rfl) (by with_unfolding_all rfl) (hcS.out _ hF32.below) ?_)
 rintro e w33 ⟨nt33, es33, rfl, hvn33, hv33⟩
 refine ⟨_, rfl, ?_⟩
 have hF33 := hF32.joinR hv33
 simp only [List.cons_append, List.nil_append] at hF33
 have hdl33 := box hvn33.len
 have hdo33 := hvn33.ones
 replace hdo33 := box hdo33
 refine hK.out _ _ ((hF33.blk (i := 0) rfl)) (fun _ => ?_)
 clear hK K
 (try simp only [zP, zQ, zS, zZ, zN])
 refine rdy1 17 (fun K hK => ?_)
 refine stp (by with_unfolding_all rfl) (wp_call Tryz.func37 rfl (by with_unfolding_all rfl) (by with_unfolding_all rfl) (by with_unfolding_all rfl) (hcN.out _ hF33.below) ?_)
 rintro e w34 ⟨nt34, es34, rfl, hvn34, hv34⟩
 refine ⟨_, rfl, ?_⟩
 have hF34 := hF33.joinR hv34
 simp only [List.cons_append, List.nil_append] at hF34
 obtain ⟨A34, l34, c34, hlc34, hll34, rfl, hm34⟩ := hvn34
 replace hll34 := box hll34
 refine hK.out _ _ ((hF34.blk (i := 0) rfl)) (fun _ => ?_)
 clear hK K
 (try simp only [zP, zQ, zS, zZ, zN])
 refine rdy1 18 (fun K hK => ?_)
 refine stp (by with_unfolding_all rfl) (wp_fbuild Tryz.underlying40 (z := .agg (List.toArray doc0)) (by kernel_rfl) (pl := docP) (by kernel_rfl) (cs := (docL d.media d.type nt31 (.slice A32 l32 c32) nt33 d.has (.slice A34 l34 c34))) rfl (vs := [(0, .string ⟨d.media.toArray⟩), (1, .string ⟨d.type.toArray⟩), (2, .agg nt31.toArray), (3, .slice A32 l32 c32), (4, .agg nt33.toArray), (5, .bool d.has), (6, .slice A34 l34 c34)]) (by with_unfolding_all rfl) (doc_fill hdl31.out hdl33.out) ?_)
 refine hK.out _ _ ((hF34.blk (i := 0) rfl)) (fun _ => ?_)
 clear hK K
 (try simp only [zP, zQ, zS, zZ, zN])
 refine rdy1 19 (fun K hK => ?_)
 refine stp (by with_unfolding_all rfl) (wp_fstA hF34 (i := 1) rfl (ds := (docL d.media d.type nt31 (.slice A32 l32 c32) nt33 d.has (.slice A34 l34 c34))) (by with_unfolding_all exact ⟨_, _, rfl, rfl, rfl⟩) (by rw [docL_len hdl31.out hdl33.out]; kernel_rfl) (docL_one hdo31.out hdo33.out rfl rfl) (by rw [docL_len hdl31.out hdl33.out, doc0_len]; decide) ?_)
 intro w35 hF35 hz35
 (try simp only [zZ, zN] at hF35)
 rw [(spl_all (by rw [docL_len hdl31.out hdl33.out, doc0_len]) : spl doc0 0 (docL d.media d.type nt31 (.slice A32 l32 c32) nt33 d.has (.slice A34 l34 c34)) = _)] at hF35
 refine hK.out _ _ ((hF35.blk (i := 0) rfl)) (fun _ => ?_)
 clear hK K
 (try simp only [zP, zQ, zS, zZ, zN])
 refine wpAnyH_done (by kernel_rfl) ?_ _
 go_wp2_with fail
 exact bodyPost_ret (results_cellF rfl _ hF35 (i := 1) rfl rfl Tryz.underlying40 rfl (by rw [docL_len hdl31.out hdl33.out]; kernel_rfl)) rfl ⟨_, _, rfl, ⟨_, _, _, _, hvn31.mono (fun _ h => by simp [h]), ⟨A32, l32, c32, xs32, hlc32, hll32.out, rfl, hT32.mono (fun _ h => by simp [h]), hm32.imp id (fun h => by simp [h])⟩, hvn33.mono (fun _ h => by simp [h]), ⟨A34, l34, c34, hlc34, hll34.out, rfl, hm34.imp id (fun h => by simp [h])⟩, rfl⟩, hF35.tail.tail⟩
set_option maxRecDepth 20000 in
set_option maxHeartbeats 6400000 in
theorem To_any (d : MDoc) (cs : List Value) (w : World) (hD : RdDoc w d cs) (hB : MB d) :
  Calls Tryz.prog 23 #[.agg cs.toArray] w fun e w' => ∃ cs' es, e = .returned (.agg cs'.toArray) ∧ VDoc d cs' es ∧ Fr [] w w' es := by
 have hF0 := Fr.nil w
 obtain ⟨cf, eg, sj, nt, hC, hE, hS, hN, rfl⟩ := hD
 have hcl := box hC.len
 have hsl := box hS.len
 have hco := hC.ones
 have hso := hS.ones
 obtain ⟨hB1, hB2, hB3, hB4, hB5⟩ := hB
 have hcC : Box (∀ w', Below w.heap.size w w' → Calls Tryz.prog 53 #[.agg cf.toArray] w' fun e w2 => ∃ cs' es, e = .returned (.agg cs'.toArray) ∧ VD d.config cs' es ∧ Fr [] w' w2 es) := box (fun w' hb => by
  obtain ⟨nt, h1, ⟨A, n, c, _, h3, rfl, h5⟩, rfl⟩ := hC.on hb
  exact desc_any d.config _ A n c w' h1 rfl h3 (by omega) h5)
 have hcS : Box (∀ w', Below w.heap.size w w' → Calls Tryz.prog 53 #[.agg sj.toArray] w' fun e w2 => ∃ cs' es, e = .returned (.agg cs'.toArray) ∧ VD d.subject cs' es ∧ Fr [] w' w2 es) := box (fun w' hb => by
  obtain ⟨nt, h1, ⟨A, n, c, _, h3, rfl, h5⟩, rfl⟩ := hS.on hb
  exact desc_any d.subject _ A n c w' h1 rfl h3 (by omega) h5)
 have hcE : Box (∀ w', Below w.heap.size w w' → Calls Tryz.prog 54 #[eg] w' fun e w2 => ∃ eg' es, e = .returned eg' ∧ VE d.edges eg' es ∧ Fr [] w' w2 es) := box (fun w' hb => by
  obtain ⟨A, n, c, xs, _, h2, rfl, h4, h5⟩ := hE.on hb
  exact descs_any A n c d.edges xs w' h2 (by omega) h4 (fun i x hx => by
   obtain ⟨nt, h6, ⟨B, k, q, _, h8, rfl, h9⟩, h10⟩ := h5 i x hx
   have := hB3 x (List.mem_of_getElem? hx)
   exact ⟨B, k, q, h6, h10, h8, by omega, h9⟩))
 have hcN : Box (∀ w', Below w.heap.size w w' → Calls Tryz.prog 55 #[nt] w' fun e w2 => ∃ nt' es, e = .returned nt' ∧ VN d.notes nt' es ∧ Fr [] w' w2 es) := box (fun w' hb => by
  obtain ⟨A, n, c, _, h2, rfl, h4⟩ := hN.on hb
  exact notes_any A n c d.notes w' h2 (by omega) h4)
 obtain ⟨Ae, ne, ce, _, _, _, rfl, _, _⟩ := hE
 obtain ⟨An, nn, cn, _, _, rfl, _⟩ := hN
 clear hC hS hB1 hB2 hB3 hB4 hB5 hco hso
 go_enter Tryz.func23, Tryz.ntmps23
 go_upto_region 1 with (first | ((with_reducible refine lsx (wp_fbox hF0 (cs := (docL d.media d.type cf (.slice Ae ne ce) sj d.has (.slice An nn cn))) rfl (by with_unfolding_all rfl) (by with_unfolding_all rfl) ?_)); intro w1 g1 hF1 hz1) | ((with_reducible refine lsx (wp_falloc hF1 (cs := doc0) (z := .agg (List.toArray (doc0))) rfl (by kernel_rfl) (by with_unfolding_all rfl) ?_)); intro w2 g2 hF2 hz2))
 have hFd := (hF2.perm (List.Perm.swap _ _ _)).drew
 clear hF0 hF1 hF2
 refine wp_region_held (S := fun w' => w'.heap[g1]? = some (.cells (List.toArray (docL d.media d.type cf (.slice Ae ne ce) sj d.has (.slice An nn cn))) 40 (0, 0))) (by kernel_rfl) ?_
 change wpAnyH _ _ _ _ _ _ _ _ (World.drew _)
 refine tkp 0 (hFd.blk (i := 0) rfl) ?_
 (try simp only [zP, zQ, zS, zZ, zN])
 refine tky 1 (y := yi_fld (by with_unfolding_all rfl) (fun _ h => h) Tryz.underlying9 rfl (by with_unfolding_all exact ⟨_, rfl, rfl⟩) docL_m0) (s := (hFd.blk (i := 0) rfl)) (h := ?_)
 (try simp only [zP, zQ, zS, zZ, zN])
 refine tkp 2 (hFd.blk (i := 0) rfl) ?_
 (try simp only [zP, zQ, zS, zZ, zN])
 refine tky 3 (y := yi_fld (by with_unfolding_all rfl) (fun _ h => h) Tryz.underlying9 rfl (by with_unfolding_all exact ⟨_, rfl, rfl⟩) docL_t0) (s := (hFd.blk (i := 0) rfl)) (h := ?_)
 (try simp only [zP, zQ, zS, zZ, zN])
 refine tkp 4 (hFd.blk (i := 0) rfl) ?_
 (try simp only [zP, zQ, zS, zZ, zN])
 refine tky 5 (y := yi_fldA (by with_unfolding_all rfl) (fun _ h => h) Tryz.underlying37 rfl (by with_unfolding_all exact ⟨_, rfl, rfl⟩) (ds := cf) (by rw [hcl.out]; kernel_rfl) (by rw [hcl.out]; exact docL_cf hcl.out)) (s := (hFd.blk (i := 0) rfl)) (h := ?_)
 (try simp only [zP, zQ, zS, zZ, zN])
 refine tkp 7 (hFd.blk (i := 0) rfl) ?_
 (try simp only [zP, zQ, zS, zZ, zN])
 refine tky 8 (y := yi_fld (by with_unfolding_all rfl) (fun _ h => h) Tryz.underlying38 rfl (by with_unfolding_all exact ⟨_, rfl, rfl⟩) (docL_eg hcl.out)) (s := (hFd.blk (i := 0) rfl)) (h := ?_)
 (try simp only [zP, zQ, zS, zZ, zN])
 refine tkp 10 (hFd.blk (i := 0) rfl) ?_
 (try simp only [zP, zQ, zS, zZ, zN])
 refine tky 11 (y := yi_fldA (by with_unfolding_all rfl) (fun _ h => h) Tryz.underlying37 rfl (by with_unfolding_all exact ⟨_, rfl, rfl⟩) (ds := sj) (by rw [hsl.out]; kernel_rfl) (by rw [hsl.out]; exact docL_sj hcl.out hsl.out)) (s := (hFd.blk (i := 0) rfl)) (h := ?_)
 (try simp only [zP, zQ, zS, zZ, zN])
 refine tkp 13 (hFd.blk (i := 0) rfl) ?_
 (try simp only [zP, zQ, zS, zZ, zN])
 refine tky 14 (y := yi_fld (by with_unfolding_all rfl) (fun _ h => h) Tryz.underlying4 rfl (by with_unfolding_all exact ⟨_, rfl, rfl⟩) (docL_has hcl.out hsl.out)) (s := (hFd.blk (i := 0) rfl)) (h := ?_)
 (try simp only [zP, zQ, zS, zZ, zN])
 refine tkp 15 (hFd.blk (i := 0) rfl) ?_
 (try simp only [zP, zQ, zS, zZ, zN])
 refine tky 16 (y := yi_fld (by with_unfolding_all rfl) (fun _ h => h) Tryz.underlying35 rfl (by with_unfolding_all exact ⟨_, rfl, rfl⟩) (docL_nt hcl.out hsl.out)) (s := (hFd.blk (i := 0) rfl)) (h := ?_)
 (try simp only [zP, zQ, zS, zZ, zN])
 refine rdy1 6 (fun K hK => ?_)
 refine stp (by with_unfolding_all rfl) (wp_call Tryz.func53 rfl (by with_unfolding_all rfl) (by with_unfolding_all rfl) (by with_unfolding_all rfl) (hcC.out _ hFd.below) ?_)
 rintro e w31 ⟨nt31, es31, rfl, hvn31, hv31⟩
 refine ⟨_, rfl, ?_⟩
 have hF31 := hFd.joinR hv31
 simp only [List.cons_append, List.nil_append] at hF31
 have hdl31 := box hvn31.len
 have hdo31 := hvn31.ones
 replace hdo31 := box hdo31
 refine hK.out _ _ ((hF31.blk (i := 0) rfl)) (fun _ => ?_)
 clear hK K
 (try simp only [zP, zQ, zS, zZ, zN])
 refine rdy1 9 (fun K hK => ?_)
 refine stp (by with_unfolding_all rfl) (wp_call Tryz.func54 rfl (by with_unfolding_all rfl) (by with_unfolding_all rfl) (by with_unfolding_all rfl) (hcE.out _ hF31.below) ?_)
 rintro e w32 ⟨nt32, es32, rfl, hvn32, hv32⟩
 refine ⟨_, rfl, ?_⟩
 have hF32 := hF31.joinR hv32
 simp only [List.cons_append, List.nil_append] at hF32
 obtain ⟨A32, l32, c32, xs32, hlc32, hll32, rfl, hT32, hm32⟩ := hvn32
 replace hll32 := box hll32
 refine hK.out _ _ ((hF32.blk (i := 0) rfl)) (fun _ => ?_)
 clear hK K
 (try simp only [zP, zQ, zS, zZ, zN])
 refine rdy1 12 (fun K hK => ?_)
 refine stp (by with_unfolding_all rfl) (wp_call Tryz.func53 rfl (by with_unfolding_all rfl) (by with_unfolding_all rfl) (by with_unfolding_all rfl) (hcS.out _ hF32.below) ?_)
 rintro e w33 ⟨nt33, es33, rfl, hvn33, hv33⟩
 refine ⟨_, rfl, ?_⟩
 have hF33 := hF32.joinR hv33
 simp only [List.cons_append, List.nil_append] at hF33
 have hdl33 := box hvn33.len
 have hdo33 := hvn33.ones
 replace hdo33 := box hdo33
 refine hK.out _ _ ((hF33.blk (i := 0) rfl)) (fun _ => ?_)
 clear hK K
 (try simp only [zP, zQ, zS, zZ, zN])
 refine rdy1 17 (fun K hK => ?_)
 refine stp (by with_unfolding_all rfl) (wp_call Tryz.func55 rfl (by with_unfolding_all rfl) (by with_unfolding_all rfl) (by with_unfolding_all rfl) (hcN.out _ hF33.below) ?_)
 rintro e w34 ⟨nt34, es34, rfl, hvn34, hv34⟩
 refine ⟨_, rfl, ?_⟩
 have hF34 := hF33.joinR hv34
 simp only [List.cons_append, List.nil_append] at hF34
 obtain ⟨A34, l34, c34, hlc34, hll34, rfl, hm34⟩ := hvn34
 replace hll34 := box hll34
 refine hK.out _ _ ((hF34.blk (i := 0) rfl)) (fun _ => ?_)
 clear hK K
 (try simp only [zP, zQ, zS, zZ, zN])
 refine rdy1 18 (fun K hK => ?_)
 refine stp (by with_unfolding_all rfl) (wp_fbuild Tryz.underlying31 (z := .agg (List.toArray doc0)) (by kernel_rfl) (pl := docP) (by kernel_rfl) (cs := (docL d.media d.type nt31 (.slice A32 l32 c32) nt33 d.has (.slice A34 l34 c34))) rfl (vs := [(0, .string ⟨d.media.toArray⟩), (1, .string ⟨d.type.toArray⟩), (2, .agg nt31.toArray), (3, .slice A32 l32 c32), (4, .agg nt33.toArray), (5, .bool d.has), (6, .slice A34 l34 c34)]) (by with_unfolding_all rfl) (doc_fill hdl31.out hdl33.out) ?_)
 refine hK.out _ _ ((hF34.blk (i := 0) rfl)) (fun _ => ?_)
 clear hK K
 (try simp only [zP, zQ, zS, zZ, zN])
 refine rdy1 19 (fun K hK => ?_)
 refine stp (by with_unfolding_all rfl) (wp_fstA hF34 (i := 1) rfl (ds := (docL d.media d.type nt31 (.slice A32 l32 c32) nt33 d.has (.slice A34 l34 c34))) (by with_unfolding_all exact ⟨_, _, rfl, rfl, rfl⟩) (by rw [docL_len hdl31.out hdl33.out]; kernel_rfl) (docL_one hdo31.out hdo33.out rfl rfl) (by rw [docL_len hdl31.out hdl33.out, doc0_len]; decide) ?_)
 intro w35 hF35 hz35
 (try simp only [zZ, zN] at hF35)
 rw [(spl_all (by rw [docL_len hdl31.out hdl33.out, doc0_len]) : spl doc0 0 (docL d.media d.type nt31 (.slice A32 l32 c32) nt33 d.has (.slice A34 l34 c34)) = _)] at hF35
 refine hK.out _ _ ((hF35.blk (i := 0) rfl)) (fun _ => ?_)
 clear hK K
 (try simp only [zP, zQ, zS, zZ, zN])
 refine wpAnyH_done (by kernel_rfl) ?_ _
 go_wp2_with fail
 exact bodyPost_ret (results_cellF rfl _ hF35 (i := 1) rfl rfl Tryz.underlying31 rfl (by rw [docL_len hdl31.out hdl33.out]; kernel_rfl)) rfl ⟨_, _, rfl, ⟨_, _, _, _, hvn31.mono (fun _ h => by simp [h]), ⟨A32, l32, c32, xs32, hlc32, hll32.out, rfl, hT32.mono (fun _ h => by simp [h]), hm32.imp id (fun h => by simp [h])⟩, hvn33.mono (fun _ h => by simp [h]), ⟨A34, l34, c34, hlc34, hll34.out, rfl, hm34.imp id (fun h => by simp [h])⟩, rfl⟩, hF35.tail.tail⟩
end Go.Proofs.YtlhicfpmlncomaaGreatDoor

namespace Go.Proofs.YtlhicfpmlncomaaGreatDoor
set_option linter.unusedSimpArgs false
set_option linter.unusedVariables false
/-- A document is small. -/
def MBs (d : MDoc) : Prop := d.config.notes.length ≤ 32 ∧ d.edges.length ≤ 64 ∧ (∀ x ∈ d.edges, x.notes.length ≤ 32) ∧ d.subject.notes.length ≤ 32 ∧ d.notes.length ≤ 32
theorem MBs.zero : MBs .zero := ⟨by simp [MDoc.zero, MDesc.zero], by simp [MDoc.zero], by simp [MDoc.zero], by simp [MDoc.zero, MDesc.zero], by simp [MDoc.zero]⟩
end Go.Proofs.YtlhicfpmlncomaaGreatDoor

namespace Go.Proofs.YtlhicfpmlncomaaGreatDoor
end Go.Proofs.YtlhicfpmlncomaaGreatDoor

namespace Go.Proofs.YtlhicfpmlncomaaGreatDoor
open Go.ChangeShapes Go.WideShapes Go.ChangeAt Go.RowKit
section
variable {H : Type} {enc : TypeId × Value → H} {P : Program} {W : World} {hd : Bool} {fuel : Nat}
theorem ints_in {t : TypeId} {k : IntKind} (ht : P.underlying t = some (.int k)) {cs : List Value} {x : DataW H × List MemPlace} (h : DataW.trod enc P W 0 (fun _ => true) hd fuel t cs = some x) : ∃ n, cs = [.int k n] ∧ (Lit.int k n).wf = true := by
 obtain ⟨n, h1, _, h2⟩ := DataW.trod_int ht h
 exact ⟨n, h1, h2⟩
theorem strs_in {t : TypeId} (ht : P.underlying t = some .string) {cs : List Value} {x : DataW H × List MemPlace} (h : DataW.trod enc P W 0 (fun _ => true) hd fuel t cs = some x) : ∃ s : ByteArray, cs = [.string s] ∧ s.size + 1 ≤ Rows.uptoBulk x.1 := by
 obtain ⟨s, h1, h2, _⟩ := DataW.trod_string ht h
 exact ⟨s, h1, by rw [h2]; simp [Rows.uptoBulk]⟩
theorem bools_in {t : TypeId} (ht : P.underlying t = some .bool) {cs : List Value} {x : DataW H × List MemPlace} (h : DataW.trod enc P W 0 (fun _ => true) hd fuel t cs = some x) : ∃ b : Bool, cs = [.bool b] := by
 cases fuel with
 | zero => simp [DataW.trod] at h
 | succ n =>
  unfold DataW.trod at h
  rw [ht] at h
  split at h <;> simp_all
theorem bytes_of_cells : ∀ (cs : List Value), (∀ i, i < cs.length → ∃ c : UInt8, cs[i]? = some (bv c)) → ∃ d : List UInt8, cs = d.map bv
 | [], _ => ⟨[], rfl⟩
 | c :: cs, h => by
  obtain ⟨a, ha⟩ := h 0 (by simp)
  obtain ⟨d, hd⟩ := bytes_of_cells cs (fun i hi => by
   have := h (i + 1) (by simp; omega)
   simpa using this)
  simp only [List.getElem?_cons_zero, Option.some.injEq] at ha
  exact ⟨a :: d, by rw [ha, hd]; rfl⟩
/-- An array of bytes that came in. -/
theorem arr_in {t e : TypeId} {n : Nat} (ht : P.underlying t = some (.array n e)) (he : P.underlying e = some (.int .u8)) (hc : P.cellsOf e = 1) (hcs : P.cellsOf t = n) {cs : List Value} {x : DataW H × List MemPlace} (h : DataW.trod enc P W 0 (fun _ => true) hd fuel t cs = some x) :
  ∃ d : List UInt8, cs = d.map bv ∧ d.length = n := by
 obtain ⟨xs, m, _, _, hlen, hxl, hg⟩ := DataW.trod_array ht h
 rw [hcs] at hlen
 have key : ∀ i, i < n → ∃ c : UInt8, cs[i]? = some (bv c) := fun i hi => by
  have h1 := hg i hi
  rw [hc, Nat.mul_one, List.getElem?_eq_getElem (by omega)] at h1
  obtain ⟨k, h2, h3⟩ := ints_in he h1
  obtain ⟨c, rfl⟩ := u8_of_wf h3
  refine ⟨c, ?_⟩
  have h4 : ((cs.drop i).take 1)[0]? = some (bv c) := by rw [h2]; rfl
  rw [List.getElem?_take, if_pos (by omega), List.getElem?_drop] at h4
  simpa using h4
 obtain ⟨d, hd⟩ := bytes_of_cells cs (fun i hi => key i (by omega))
 exact ⟨d, hd, by rw [hd, List.length_map] at hlen; exact hlen⟩
theorem cut_at (cs : List Value) (k m : Nat) : cs.drop k = (cs.drop k).take m ++ cs.drop (k + m) := by rw [← List.drop_drop, List.take_append_drop]
end
end Go.Proofs.YtlhicfpmlncomaaGreatDoor

namespace Go.Proofs.YtlhicfpmlncomaaGreatDoor
open Go.ChangeShapes Go.WideShapes Go.ChangeAt Go.RowKit
theorem flat_at {α β : Type} {f : α → List β} {sz : Nat} (hsz : 0 < sz) : ∀ {l : List α}, (∀ u ∈ l, (f u).length = sz) → ∀ {j : Nat} {v : β}, (l.flatMap f)[j]? = some v → ∃ u, l[j / sz]? = some u ∧ (f u)[j % sz]? = some v
 | [], _, j, v, h => by simp at h
 | u :: l, hl, j, v, h => by
  have hu := hl u (by simp)
  rw [List.flatMap_cons] at h
  rcases Nat.lt_or_ge j sz with hj | hj
  ·rw [List.getElem?_append_left (by omega)] at h
   refine ⟨u, ?_, ?_⟩
   ·rw [Nat.div_eq_of_lt hj]; rfl
   ·rw [Nat.mod_eq_of_lt hj]; exact h
  ·rw [List.getElem?_append_right (by omega), hu] at h
   obtain ⟨u', h1, h2⟩ := flat_at hsz (l := l) (fun x hx => hl x (by simp [hx])) h
   have e1 : j / sz = (j - sz) / sz + 1 := by rw [Nat.div_eq_sub_div hsz hj]
   have e2 : j % sz = (j - sz) % sz := by rw [Nat.mod_eq_sub_mod hj]
   exact ⟨u', by rw [e1]; exact h1, by rw [e2]; exact h2⟩
theorem flat_len {α β : Type} {f : α → List β} {sz : Nat} : ∀ {l : List α}, (∀ u ∈ l, (f u).length = sz) → (l.flatMap f).length = l.length * sz
 | [], _ => by simp
 | u :: l, hl => by
  rw [List.flatMap_cons, List.length_append, hl u (by simp), flat_len (fun x hx => hl x (by simp [hx])), List.length_cons, Nat.add_mul]; omega
theorem list_of {α : Type} {p : Nat → α → Prop} : ∀ (n : Nat), (∀ i, i < n → ∃ u, p i u) → ∃ l : List α, l.length = n ∧ ∀ i u, l[i]? = some u → p i u
 | 0, _ => ⟨[], rfl, fun i u h => by simp at h⟩
 | n + 1, h => by
  obtain ⟨l, hl, hp⟩ := list_of n (fun i hi => h i (by omega))
  obtain ⟨u, hu⟩ := h n (by omega)
  refine ⟨l ++ [u], by simp [hl], fun i x hx => ?_⟩
  rcases Nat.lt_or_ge i n with hi | hi
  ·rw [List.getElem?_append_left (by omega)] at hx; exact hp i x hx
  ·rw [List.getElem?_append_right (by omega)] at hx
   match hk : i - l.length, hx with
   | 0, hx => injection hx with hx; subst hx; obtain rfl : i = n := by omega
              exact hu
   | k + 1, hx => simp at hx
section
variable {H : Type} {enc : TypeId × Value → H} {P : Program} {W : World} {hd : Bool} {fuel : Nat}
end
end Go.Proofs.YtlhicfpmlncomaaGreatDoor

namespace Go.Proofs.YtlhicfpmlncomaaGreatDoor
open Go.RowKit
set_option linter.unusedSimpArgs false
set_option maxRecDepth 20000 in
set_option maxHeartbeats 3200000 in
theorem has_any (A : Option Addr) (n c : Nat) (ns : List (List UInt8)) (s : List UInt8) (w : World) (S : Nat → Prop) (hn : n ≤ 1048576) (hr : Rd w S A 1 n (ns.map strv)) :
  Calls Tryz.prog 114 #[.slice A n c, .string ⟨s.toArray⟩] w fun e w' => e = .returned (.bool (decide (s ∈ ns))) ∧ w = w' := by
 have hl : ns.length = n := by have := hr.len; simpa using this
 replace hl := box hl
 obtain ⟨R, hR⟩ : ∃ R, R = decide (s ∈ ns) := ⟨_, rfl⟩
 rw [← hR]
 replace hR := box hR
 go_enter Tryz.func114, Tryz.ntmps114
 go_wp2
 go_loopg [9] n (fun k i wr => ∃ j : Nat, j ≤ n ∧ Box (k = n - j) ∧ i = .int .i64 (j : Int) ∧ Box (∀ t ∈ ns.take j, s ≠ t) ∧ wr = w)
 case atStart => exact ⟨0, by omega, box rfl, rfl, box (by simp), rfl⟩
 case round =>
  obtain ⟨j, hj, hk, rfl, hno, rfl⟩ := hrel
  by_cases hlt : j < n
  ·obtain ⟨t, ht⟩ : ∃ t, ns[j]? = some t := ⟨ns[j]'(by rw [hl.out]; exact hlt), by simp⟩
   have hts : Box ((ns.map strv)[j]? = some (.string ⟨t.toArray⟩)) := box (by rw [List.getElem?_map, ht]; rfl)
   have htk : ns.take (j + 1) = ns.take j ++ [t] := by rw [List.take_add_one, ht]; rfl
   by_cases hst : s = t
   ·have hRt : R = true := by rw [hR.out, hst]; exact decide_eq_true (List.mem_of_getElem? ht)
    subst hst
    clear ht htk
    go_wp2_with (first | (with_reducible refine lsx (wp_indexAddr T_strs hr (by with_unfolding_all exact ⟨_, _, _, _, rfl, rfl, rfl⟩) (by omega) (by omega) ?_)) | (with_reducible refine lsx (wp_load1C hr hts Tryz.underlying9 rfl (by with_unfolding_all exact ⟨_, rfl, rfl⟩) (by first | (simp; done) | (simp; omega) | omega) ?_)))
    go_ret
    exact ⟨by rw [hRt]; rfl, rfl⟩
   ·have hno2 : Box (∀ t ∈ ns.take (j + 1), s ≠ t) := box (fun u hu => by
     rw [htk] at hu
     rcases List.mem_append.1 hu with hu | hu
     ·exact hno.out u hu
     ·rw [List.mem_singleton.1 hu]; exact hst)
    have hst2 : (s == t) = false := by rw [beq_eq_false_iff_ne]; exact hst
    replace hst := box hst
    clear ht htk
    go_wp2_with (first | (with_reducible refine lsx (wp_indexAddr T_strs hr (by with_unfolding_all exact ⟨_, _, _, _, rfl, rfl, rfl⟩) (by omega) (by omega) ?_)) | (with_reducible refine lsx (wp_load1C hr hts Tryz.underlying9 rfl (by with_unfolding_all exact ⟨_, rfl, rfl⟩) (by first | (simp; done) | (simp; omega) | omega) ?_)))
    go_roundg (n - (j + 1))
    case rel => exact ⟨j + 1, by omega, box rfl, by go_num, hno2, rfl⟩
    case measure => have := hk.out; omega
  ·have hRf : R = false := by
    rw [hR.out]
    refine decide_eq_false (fun hm => ?_)
    obtain rfl : j = n := by omega
    have h2 := hno.out s
    rw [List.take_of_length_le (by rw [hl.out]; exact Nat.le_refl _)] at h2
    exact h2 hm rfl
   clear hk
   go_wp2
   go_ret
   exact ⟨by rw [hRf]; rfl, rfl⟩
end Go.Proofs.YtlhicfpmlncomaaGreatDoor
