/-
 Layer 8: answers that the document fixes.
 Layer 8: the laws' From, and parts of To: notes, descriptors and documents laid anew.
 Layer 8: descriptors laid anew.
 Layer 8: documents laid anew: the laws' From and To.
 Layer 8, plain law: what is read is small.
 Layer 8: the document's SameNotes at one list twice.
-/
import Derived.Test.YtlhicfpmlncomaaGreatDoorH11
import Derived.Test.YtlhicfpmlncomaaGreatDoorH02
import Derived.Laws.StructEq
namespace Go.Proofs.YtlhicfpmlncomaaGreatDoor
open Go.RowKit
set_option linter.unusedSimpArgs false
set_option linter.unusedVariables false
def awkB : List UInt8 := [123, 34, 115, 99, 104, 101, 109, 97, 86, 101, 114, 115, 105, 111, 110, 34, 58, 50, 44, 34, 109, 101, 100, 105, 97, 84, 121, 112, 101, 34, 58, 34, 97, 112, 112, 108, 105, 99, 97, 116, 105, 111, 110, 47, 118, 110, 100, 46, 111, 99, 105, 46, 105, 109, 97, 103, 101, 46, 105, 110, 100, 101, 120, 46, 118, 49, 43, 106, 115, 111, 110, 34, 44, 34, 109, 97, 110, 105, 102, 101, 115, 116, 115, 34, 58, 91, 93, 125]
theorem mawk1 : mParse awkB = .ok ⟨[97, 112, 112, 108, 105, 99, 97, 116, 105, 111, 110, 47, 118, 110, 100, 46, 111, 99, 105, 46, 105, 109, 97, 103, 101, 46, 105, 110, 100, 101, 120, 46, 118, 49, 43, 106, 115, 111, 110], [], .zero, [], .zero, false, []⟩ := by kernel_rfl
theorem mawk2 : mParse [91, 93] = .error 80 := by kernel_rfl
set_option maxRecDepth 20000 in
set_option maxHeartbeats 6400000 in
theorem mawake_any (w : World) (B : Nat) (hB : B ≤ w.heap.size) (hL : MLibs B w) :
  Calls Tryz.prog 13 #[] w fun e w' => e = .returned (.bool true) ∧ Below w.heap.size w w' := by
 have hF0 := Fr.nil w
 have hL1 := hL.up hB
 go_enter Tryz.func13, Tryz.ntmps13
 go_wp2_with (first | ((with_reducible refine lst (by with_unfolding_all rfl) (wp_fbsl T_u8 hF0 (vs := [bv 123, bv 34, bv 115, bv 99, bv 104, bv 101, bv 109, bv 97, bv 86, bv 101, bv 114, bv 115, bv 105, bv 111, bv 110, bv 34, bv 58, bv 50, bv 44, bv 34, bv 109, bv 101, bv 100, bv 105, bv 97, bv 84, bv 121, bv 112, bv 101, bv 34, bv 58, bv 34, bv 97, bv 112, bv 112, bv 108, bv 105, bv 99, bv 97, bv 116, bv 105, bv 111, bv 110, bv 47, bv 118, bv 110, bv 100, bv 46, bv 111, bv 99, bv 105, bv 46, bv 105, bv 109, bv 97, bv 103, bv 101, bv 46, bv 105, bv 110, bv 100, bv 101, bv 120, bv 46, bv 118, bv 49, bv 43, bv 106, bv 115, bv 111, bv 110, bv 34, bv 44, bv 34, bv 109, bv 97, bv 110, bv 105, bv 102, bv 101, bv 115, bv 116, bv 115, bv 34, bv 58, bv 91, bv 93, bv 125]) (by with_unfolding_all rfl) (by with_unfolding_all rfl) (by with_unfolding_all rfl) (by decide) (by simp [bv, Value.cells]) ?_)); intro w1 g1 hF1 hz1; have hr1 : Rd w1 (· < w1.heap.size) (some ⟨g1, 0, none⟩) 1 88 (([123,34,115,99,104,101,109,97,86,101,114,115,105,111,110,34,58,50,44,34,109,101,100,105,97,84,121,112,101,34,58,34,97,112,112,108,105,99,97,116,105,111,110,47,118,110,100,46,111,99,105,46,105,109,97,103,101,46,105,110,100,101,120,46,118,49,43,106,115,111,110,34,44,34,109,97,110,105,102,101,115,116,115,34,58,91,93,125] : List UInt8).map bv) := hF1.rdOwn (i := 0) rfl) | ((with_reducible refine lst (by with_unfolding_all rfl) (wp_fmark T_u8 Tryz.underlying5 hF1 (by with_unfolding_all exact ⟨_, rfl, rfl⟩) ?_)); intro w2 hF2 hz2))
 have hp := mparse_any (some ⟨g1, 0, none⟩) 88 88 awkB w2 ((hL1.on hF2.below).up hF2.below.size) (Nat.le_refl _) (by decide) (hF2.rd (i := 0) rfl)
 rw [mawk1] at hp
 replace hp := box hp
 refine hp.out.mono ?_
 rintro e w3 ⟨cs, es, rfl, hD, h3⟩
 have hF3 := hF2.joinR h3
 simp only [List.cons_append, List.nil_append] at hF3
 obtain ⟨cf, eg, sj, nt, hC, ⟨A, n, c, xs, hnc, hn0, rfl, _, _⟩, hS, hN, rfl⟩ := hD
 simp only [mDc, List.length_nil] at hn0
 subst hn0
 have hcl := box hC.len
 have hsl := box hS.len
 have hco := box hC.ones
 have hso := box hS.ones
 have hno := hN.one
 simp only [mDc]
 clear hp h3 hC hS hN hF1 hF2
 have hdl := box (docL_len (m := [97, 112, 112, 108, 105, 99, 97, 116, 105, 111, 110, 47, 118, 110, 100, 46, 111, 99, 105, 46, 105, 109, 97, 103, 101, 46, 105, 110, 100, 101, 120, 46, 118, 49, 43, 106, 115, 111, 110]) (t := []) (eg := .slice A 0 c) (has := false) (nt := nt) hcl.out hsl.out)
 have hdo := box (docL_one (m := [97, 112, 112, 108, 105, 99, 97, 116, 105, 111, 110, 47, 118, 110, 100, 46, 111, 99, 105, 46, 105, 109, 97, 103, 101, 46, 105, 110, 100, 101, 120, 46, 118, 49, 43, 106, 115, 111, 110]) (t := []) (has := false) hco.out hso.out (rfl : (Value.slice A 0 c).oneCell' = true) hno)
 replace hno := box hno
 go_wp2_with (first | ((with_reducible refine lst (by with_unfolding_all rfl) (wp_falloc hF3 (cs := doc0) (z := .agg (List.toArray (doc0))) rfl (by kernel_rfl) (by with_unfolding_all rfl) ?_)); intro w4 g4 hF4 hz4) | ((with_reducible refine lst (by with_unfolding_all rfl) (wp_fstA0 hF4 (by with_unfolding_all exact ⟨_, _, rfl, rfl, rfl⟩) (by rw [hdl.out]; kernel_rfl) hdo.out (by rw [hdl.out, doc0_len]; decide) (spl_all (by rw [hdl.out, doc0_len])) ?_)); intro w5 hF5 hz5) | ((with_reducible refine lst (by with_unfolding_all rfl) (wp_fbsl T_u8 hF5 (vs := [bv 91, bv 93]) (by with_unfolding_all rfl) (by with_unfolding_all rfl) (by with_unfolding_all rfl) (by decide) (by simp [bv, Value.cells]) ?_)); intro w6 g6 hF6 hz6; have hr6 : Rd w6 (· < w6.heap.size) (some ⟨g6, 0, none⟩) 1 2 (([91,93] : List UInt8).map bv) := hF6.rdOwn (i := 0) rfl) | ((with_reducible refine lst (by with_unfolding_all rfl) (wp_fmark T_u8 Tryz.underlying5 hF6 (by with_unfolding_all exact ⟨_, rfl, rfl⟩) ?_)); intro w7 hF7 hz7))
 have hp := mparse_any (some ⟨g6, 0, none⟩) 2 2 [91, 93] w7 ((hL1.on hF7.below).up hF7.below.size) (Nat.le_refl _) (by decide) (hF7.rd (i := 0) rfl)
 rw [mawk2] at hp
 replace hp := box hp
 refine hp.out.mono ?_
 rintro e w8 ⟨cs8, es8, rfl, hD8, h8⟩
 have hF8 := hF7.joinR h8
 simp only [List.cons_append, List.nil_append] at hF8
 have hl8 := box hD8.len
 have ho8 := box hD8.ones
 simp only [mCode]
 clear hp h8 hD8 hF3 hF4 hF5 hF6 hF7
 go_wp2_with (first | ((with_reducible refine lst (by with_unfolding_all rfl) (wp_falloc hF8 (cs := doc0) (z := .agg (List.toArray (doc0))) rfl (by kernel_rfl) (by with_unfolding_all rfl) ?_)); intro w9 g9 hF9 hz9) | ((with_reducible refine lst (by with_unfolding_all rfl) (wp_fstA0 hF9 (by with_unfolding_all exact ⟨_, _, rfl, rfl, rfl⟩) (by rw [hl8.out]; kernel_rfl) ho8.out (by rw [hl8.out, doc0_len]; decide) (spl_all (by rw [hl8.out, doc0_len])) ?_)); intro w10 hF10 hz10) | (with_reducible refine lst (by with_unfolding_all rfl) (wp_fld2 hF10 Tryz.underlying9 rfl (by with_unfolding_all exact ⟨_, rfl, rfl⟩) docL_m0 ?_)) | (with_reducible refine lst (by with_unfolding_all rfl) (wp_fld2 hF10 Tryz.underlying29 rfl (by with_unfolding_all exact ⟨_, rfl, rfl⟩) (docL_eg hcl.out) ?_)))
 go_ret
 exact ⟨rfl, hF10.below⟩
end Go.Proofs.YtlhicfpmlncomaaGreatDoor

namespace Go.Proofs.YtlhicfpmlncomaaGreatDoor
open Go.RowKit
set_option linter.unusedSimpArgs false
set_option linter.unusedVariables false
theorem T_rnotes : SlT Tryz.prog 35 149 2 32 (.agg #[.string ⟨#[]⟩, .string ⟨#[]⟩]) := ⟨Tryz.underlying35, by kernel_rfl, rfl, by decide⟩
theorem T_rdescs : SlT Tryz.prog 38 37 35 80 (.agg ds0.toArray) := ⟨Tryz.underlying38, by kernel_rfl, by kernel_rfl, by decide⟩
theorem ds_fill {m dig : List UInt8} {z : Int} {A : Option Addr} {n c : Nat} (hd : dig.length = 32) : Instr.fill (fun i : Nat => dsP[i]?) ds0.toArray [(0, .string ⟨m.toArray⟩), (1, .agg (dig.map bv).toArray), (2, .int .i64 z), (3, .slice A n c)] = some (dsL m dig z (.slice A n c)).toArray := by
 have hz : zeros.length = 32 := by decide
 unfold ds0
 rw [fill_step (off := 0) (size := 1) rfl rfl (by rw [dsL_len hz]; omega), show (Value.string ⟨m.toArray⟩).cells.toList = [.string ⟨m.toArray⟩] from rfl, dsL_0s,
  fill_step (off := 1) (size := 32) rfl (by simpa [Value.cells] using hd) (by rw [dsL_len hz]; omega), show (Value.agg (dig.map bv).toArray).cells.toList = dig.map bv from rfl, dsL_1 (by rw [hz, hd]),
  fill_step (off := 33) (size := 1) rfl rfl (by rw [dsL_len hd]; omega), show (Value.int .i64 z).cells.toList = [.int .i64 z] from rfl, dsL_33 hd,
  fill_step (off := 34) (size := 1) rfl rfl (by rw [dsL_len hd]; omega), show (Value.slice A n c).cells.toList = [.slice A n c] from rfl, dsL_34 hd]
 rfl
set_option maxRecDepth 20000 in
set_option maxHeartbeats 3200000 in
theorem backNotes_any (A : Option Addr) (n c : Nat) (l : List MNote) (w : World) (hn : n = l.length) (hbd : n ≤ 1048576) (hr : Rd w (· < w.heap.size) A 2 n (ntsL l)) :
  Calls Tryz.prog 37 #[.slice A n c] w fun e w' => ∃ nt es, e = .returned nt ∧ VN l nt es ∧ Fr [] w w' es := by
 have hF0 := Fr.nil w
 replace hn := box hn
 go_enter Tryz.func37, Tryz.ntmps37
 go_wp2_with fail
 have hF1 := hF0.none_ w.heap.size 149 2
 go_loopg [3, 8] n (fun g ov iv wr => ∃ (i : Nat) (B : Option Addr) (d : Nat), i ≤ n ∧ Box (g = n - i) ∧ iv = .int .i64 (i : Int) ∧ ov = .slice B i d ∧ i ≤ d ∧ Fr [] w wr [.own w.heap.size 149 2 (.slice B i d) i (ntsL (l.take i))])
 case atStart => exact ⟨0, none, 0, by omega, box rfl, rfl, rfl, by omega, hF1⟩
 case round =>
  clear hF0 hF1
  obtain ⟨i, B, d, hi, hgi, rfl, rfl, hid, hF⟩ := hrel
  have hkk : Box (_ = n - i) := hgi
  clear hgi
  have hr' := hr.below hF.below
  by_cases hlt : i < n
  ·obtain ⟨x, hx⟩ : ∃ x, l[i]? = some x := ⟨l[i]'(by rw [← hn.out]; exact hlt), by simp⟩
   have hxc := box (ntsL_at hx)
   have hsn : Box (ntsL (l.take (i + 1)) = ntsL (l.take i) ++ ntL x) := box (by rw [List.take_add_one, hx, ← ntsL_snoc]; rfl)
   clear hx
   go_wp2_with (first | (with_reducible refine lst (by with_unfolding_all rfl) (wp_indexAddr T_notes hr' (by with_unfolding_all exact ⟨_, _, _, _, rfl, rfl, rfl⟩) (by omega) (by omega) ?_)) | (with_reducible refine lst (by with_unfolding_all rfl) (wp_loadA hr' Tryz.underlying70 rfl (by with_unfolding_all exact ⟨_, rfl, rfl⟩) (ds := (ntL x)) (by kernel_rfl) (by with_unfolding_all exact hxc.out) ?_)) | ((with_reducible refine lst (by with_unfolding_all rfl) (wp_falloc hF (cs := nt0) (z := .agg (List.toArray (nt0))) rfl (by kernel_rfl) (by with_unfolding_all rfl) ?_)); intro w2 g2 hF2 hz2) | ((with_reducible refine lst (by with_unfolding_all rfl) (wp_fstA0 hF2 (by with_unfolding_all exact ⟨_, _, rfl, rfl, rfl⟩) (by kernel_rfl) (ntL_one _) (Nat.le_refl 2) (spl_all rfl) ?_)); intro w3 hF3 hz3) | (with_reducible refine lst (by with_unfolding_all rfl) (wp_fld0 hF3 Tryz.underlying9 rfl (by with_unfolding_all exact ⟨_, rfl, rfl⟩) rfl ?_)) | (with_reducible refine lst (by with_unfolding_all rfl) (wp_fbuild Tryz.underlying149 (z := .agg (List.toArray nt0)) (by kernel_rfl) (pl := ntP) (by kernel_rfl) (cs := (ntL x)) rfl (vs := [(0, strv x.key), (1, strv x.val)]) (by with_unfolding_all rfl) (by with_unfolding_all rfl) ?_)) | ((with_reducible refine lst (by with_unfolding_all rfl) (wp_fbs1 T_rnotes hF3 (by with_unfolding_all rfl) (ds := (ntL x)) (by with_unfolding_all rfl) (ntL_len _) (by decide) ?_)); intro w4 g4 hF4 hz4) | ((with_reducible refine lst (by with_unfolding_all rfl) (wp_fappG T_rnotes hF4 (i := 2) rfl (Nat.le_refl _) (hF4.rdOwn (i := 0) rfl) (ntL_one _) (by with_unfolding_all exact ⟨_, _, rfl, rfl, rfl⟩) (by unfold maxLen; omega) (by omega) ?_)); intro v5 w5 hF5 hz5; simp only [List.set_cons_zero, List.set_cons_succ] at hF5; obtain ⟨A5, c5, rfl, hc5⟩ := hF5.ownParts (i := 2) rfl))
   go_roundg (n - (i + 1))
   case rel => exact ⟨i + 1, A5, c5, by omega, box rfl, by go_num, rfl, hc5, by rw [hsn.out]; exact hF5.tail.tail⟩
   case measure => have := hkk.out; omega
  ·obtain rfl : n = i := by omega
   have hta : Box (l.take n = l) := box (List.take_of_length_le (by rw [hn.out]; exact Nat.le_refl _))
   rw [hta.out] at hF
   go_wp2_with fail
   go_ret
   have hF3 := hF.toRd (i := 0) rfl
   exact ⟨_, _, rfl, ⟨B, n, d, hid, hn.out, rfl, .inr (by simp)⟩, hF3⟩
end Go.Proofs.YtlhicfpmlncomaaGreatDoor

namespace Go.Proofs.YtlhicfpmlncomaaGreatDoor
open Go.RowKit
set_option linter.unusedSimpArgs false
set_option linter.unusedVariables false
set_option maxRecDepth 20000 in
set_option maxHeartbeats 3200000 in
theorem backDesc_any (d : MDesc) (cs : List Value) (A : Option Addr) (n c : Nat) (w : World) (hd' : d.dig.length = 32) (hcs : cs = dsL d.media d.dig d.size (.slice A n c)) (hn : n = d.notes.length) (hbd : n ≤ 1048576) (hr : Rd w (· < w.heap.size) A 2 n (ntsL d.notes)) :
  Calls Tryz.prog 36 #[.agg cs.toArray] w fun e w' => ∃ cs' es, e = .returned (.agg cs'.toArray) ∧ VD d cs' es ∧ Fr [] w w' es := by
 have hF0 := Fr.nil w
 obtain ⟨m, dg, z, nts⟩ := d
 simp only [] at hcs hn hd' hr
 subst hcs
 have hd := box hd'
 have hbn := box (fun w' (hb : Below w.heap.size w w') => backNotes_any A n c nts w' hn hbd (hr.on hb))
 clear hn hbd hr hd'
 go_enter Tryz.func36, Tryz.ntmps36
 go_upto_region 1 with (first | ((with_reducible refine lst (by with_unfolding_all rfl) (wp_fbox hF0 (cs := (dsL m dg z (.slice A n c))) rfl (by with_unfolding_all rfl) (by with_unfolding_all rfl) ?_)); intro w1 g1 hF1 hz1) | ((with_reducible refine lst (by with_unfolding_all rfl) (wp_falloc hF1 (cs := ds0) (z := .agg (List.toArray (ds0))) rfl (by kernel_rfl) (by with_unfolding_all rfl) ?_)); intro w2 g2 hF2 hz2))
 have hFd := (hF2.perm (List.Perm.swap _ _ _)).drew
 clear hF0 hF1 hF2
 refine wp_region_held (S := fun w' => w'.heap[g1]? = some (.cells (List.toArray (dsL m dg z (.slice A n c))) 28 (0, 0))) (by kernel_rfl) ?_
 change wpAnyH _ _ _ _ _ _ _ _ (World.drew _)
 refine tkp 0 (hFd.blk (i := 0) rfl) ?_
 (try simp only [Act.put, List.setIfInBounds_toArray, List.set_cons_zero, List.set_cons_succ])
 refine tky 1 (y := yi_fld (by with_unfolding_all rfl) (fun _ h => h) Tryz.underlying9 rfl (by with_unfolding_all exact ⟨_, rfl, rfl⟩) dsL_m0) (s := (hFd.blk (i := 0) rfl)) (h := ?_)
 (try simp only [Act.put, List.setIfInBounds_toArray, List.set_cons_zero, List.set_cons_succ])
 refine tkp 2 (hFd.blk (i := 0) rfl) ?_
 (try simp only [Act.put, List.setIfInBounds_toArray, List.set_cons_zero, List.set_cons_succ])
 refine tky 3 (y := yi_fldA (by with_unfolding_all rfl) (fun _ h => h) Tryz.underlying25 rfl (by with_unfolding_all exact ⟨_, rfl, rfl⟩) (ds := (dg.map bv)) (by rw [List.length_map, hd.out]; kernel_rfl) (by rw [List.length_map, hd.out]; exact dsL_dig hd.out)) (s := (hFd.blk (i := 0) rfl)) (h := ?_)
 (try simp only [Act.put, List.setIfInBounds_toArray, List.set_cons_zero, List.set_cons_succ])
 refine tkp 4 (hFd.blk (i := 0) rfl) ?_
 (try simp only [Act.put, List.setIfInBounds_toArray, List.set_cons_zero, List.set_cons_succ])
 refine tky 5 (y := yi_fld (by with_unfolding_all rfl) (fun _ h => h) Tryz.underlying3 rfl (by with_unfolding_all exact ⟨_, rfl, rfl⟩) (dsL_size hd.out)) (s := (hFd.blk (i := 0) rfl)) (h := ?_)
 (try simp only [Act.put, List.setIfInBounds_toArray, List.set_cons_zero, List.set_cons_succ])
 refine tkp 6 (hFd.blk (i := 0) rfl) ?_
 (try simp only [Act.put, List.setIfInBounds_toArray, List.set_cons_zero, List.set_cons_succ])
 refine tky 7 (y := yi_fld (by with_unfolding_all rfl) (fun _ h => h) Tryz.underlying26 rfl (by with_unfolding_all exact ⟨_, rfl, rfl⟩) (dsL_notes hd.out)) (s := (hFd.blk (i := 0) rfl)) (h := ?_)
 (try simp only [Act.put, List.setIfInBounds_toArray, List.set_cons_zero, List.set_cons_succ])
 refine rdy1 8 (fun K hK => ?_)
 refine stp (by with_unfolding_all rfl) (wp_call Tryz.func37 rfl (by with_unfolding_all rfl) (by with_unfolding_all rfl) (by with_unfolding_all rfl) (hbn.out _ hFd.below) ?_)
 rintro e w31 ⟨nt31, es31, rfl, hvn31, hv31⟩
 refine ⟨_, rfl, ?_⟩
 have hF31 := hFd.joinR hv31
 simp only [List.cons_append, List.nil_append] at hF31
 obtain ⟨A31, l31, c31, hlc31, hll31, rfl, hm31⟩ := hvn31
 replace hll31 := box hll31
 refine hK.out _ _ ((hF31.blk (i := 0) rfl)) (fun _ => ?_)
 clear hK K
 (try simp only [Act.put, List.setIfInBounds_toArray, List.set_cons_zero, List.set_cons_succ])
 refine rdy1 9 (fun K hK => ?_)
 refine stp (by with_unfolding_all rfl) (wp_fbuild Tryz.underlying37 (z := .agg (List.toArray ds0)) (by kernel_rfl) (pl := dsP) (by kernel_rfl) (cs := dsL m dg z (.slice A31 l31 c31)) rfl (vs := [(0, .string ⟨m.toArray⟩), (1, .agg (dg.map bv).toArray), (2, .int .i64 z), (3, .slice A31 l31 c31)]) (by with_unfolding_all rfl) (ds_fill hd.out) ?_)
 refine hK.out _ _ ((hF31.blk (i := 0) rfl)) (fun _ => ?_)
 clear hK K
 (try simp only [Act.put, List.setIfInBounds_toArray, List.set_cons_zero, List.set_cons_succ])
 refine rdy1 10 (fun K hK => ?_)
 refine stp (by with_unfolding_all rfl) (wp_fstA hF31 (i := 1) rfl (ds := dsL m dg z (.slice A31 l31 c31)) (by with_unfolding_all exact ⟨_, _, rfl, rfl, rfl⟩) (by rw [dsL_len hd.out]; kernel_rfl) dsL_one (by rw [dsL_len hd.out, ds0_len]; decide) ?_)
 intro w32 hF32 hz32
 (try simp only [List.set_cons_zero, List.set_cons_succ] at hF32)
 rw [(spl_all (by rw [dsL_len hd.out, ds0_len]) : spl ds0 0 (dsL m dg z (.slice A31 l31 c31)) = _)] at hF32
 refine hK.out _ _ ((hF32.blk (i := 0) rfl)) (fun _ => ?_)
 clear hK K
 (try simp only [Act.put, List.setIfInBounds_toArray, List.set_cons_zero, List.set_cons_succ])
 refine wpAnyH_done (by kernel_rfl) ?_ _
 go_wp2_with fail
 exact bodyPost_ret (results_cellF rfl _ hF32 (i := 1) rfl rfl Tryz.underlying37 rfl (by rw [dsL_len hd.out]; kernel_rfl)) rfl ⟨_, _, rfl, ⟨_, hd.out, ⟨A31, l31, c31, hlc31, hll31.out, rfl, hm31⟩, rfl⟩, hF32.tail.tail⟩
set_option maxRecDepth 20000 in
set_option maxHeartbeats 3200000 in
theorem backDescs_any (A : Option Addr) (n c : Nat) (l : List MDesc) (xs : List Value) (w : World) (hn : n = l.length) (hbd : n ≤ 1048576) (hr : Rd w (· < w.heap.size) A 35 n xs)
  (hx : ∀ i d, l[i]? = some d → ∃ B k c, d.dig.length = 32 ∧ (xs.drop (i * 35)).take 35 = dsL d.media d.dig d.size (.slice B k c) ∧ k = d.notes.length ∧ k ≤ 1048576 ∧ Rd w (· < w.heap.size) B 2 k (ntsL d.notes)) :
  Calls Tryz.prog 26 #[.slice A n c] w fun e w' => ∃ eg es, e = .returned eg ∧ VE l eg es ∧ Fr [] w w' es := by
 have hF0 := Fr.nil w
 replace hn := box hn
 replace hx := box hx
 go_enter Tryz.func26, Tryz.ntmps26
 go_wp2_with fail
 have hF1 := hF0.none_ w.heap.size 37 35
 go_loopg [3, 8] n (fun g ov iv wr => ∃ (i : Nat) (B : Option Addr) (d : Nat) (zs : List Value) (TE : List Ent), i ≤ n ∧ Box (g = n - i) ∧ iv = .int .i64 (i : Int) ∧ ov = .slice B i d ∧ i ≤ d ∧ Box (VDL (l.take i) zs TE) ∧ Fr [] w wr (.own w.heap.size 37 35 (.slice B i d) i zs :: TE))
 case atStart => exact ⟨0, none, 0, [], [], by omega, box rfl, rfl, rfl, by omega, box rfl, hF1⟩
 case round =>
  clear hF0 hF1
  obtain ⟨i, B, d, zs, TE, hi, hgi, rfl, rfl, hid, hT, hF⟩ := hrel
  have hkk : Box (_ = n - i) := hgi
  clear hgi
  have hr' := hr.below hF.below
  by_cases hlt : i < n
  ·obtain ⟨x, hxi⟩ : ∃ x, l[i]? = some x := ⟨l[i]'(by rw [← hn.out]; exact hlt), by simp⟩
   obtain ⟨D, k, q, hd32, hcs, hk, hkb, hrk⟩ := hx.out i x hxi
   have hbd1 := box (fun w' (hb : Below w.heap.size w w') => backDesc_any x _ D k q w' hd32 rfl hk hkb (hrk.on hb))
   have hcl := box (dsL_len (m := x.media) (z := x.size) (nt := .slice D k q) hd32)
   have htk : l.take (i + 1) = l.take i ++ [x] := by rw [List.take_add_one, hxi]; rfl
   replace htk := box htk
   replace hcs := box hcs
   clear hxi hd32 hk hkb hrk
   go_wp2_with (first | (with_reducible refine lst (by with_unfolding_all rfl) (wp_indexAddr T_descs hr' (by with_unfolding_all exact ⟨_, _, _, _, rfl, rfl, rfl⟩) (by omega) (by omega) ?_)) | (with_reducible refine lst (by with_unfolding_all rfl) (wp_loadA hr' Tryz.underlying28 rfl (by with_unfolding_all exact ⟨_, rfl, rfl⟩) (ds := (dsL x.media x.dig x.size (.slice D k q))) (by rw [hcl.out]; kernel_rfl) (by rw [hcl.out]; with_unfolding_all exact hcs.out) ?_)) | ((with_reducible refine lst (by with_unfolding_all rfl) (wp_falloc hF (cs := ds0) (z := .agg (List.toArray (ds0))) rfl (by kernel_rfl) (by with_unfolding_all rfl) ?_)); intro w2 g2 hF2 hz2) | ((with_reducible refine lst (by with_unfolding_all rfl) (wp_fstA0 hF2 (by with_unfolding_all exact ⟨_, _, rfl, rfl, rfl⟩) (by rw [hcl.out]; kernel_rfl) dsL_one (by rw [hcl.out, ds0_len]; decide) (spl_all (by rw [hcl.out, ds0_len])) ?_)); intro w3 hF3 hz3) | (with_reducible refine lst (by with_unfolding_all rfl) (wp_fldA0 hF3 Tryz.underlying28 rfl (by with_unfolding_all exact ⟨_, rfl, rfl⟩) (ds := (dsL x.media x.dig x.size (.slice D k q))) (by rw [hcl.out]; kernel_rfl) (take_all _) ?_)))
   refine (hbd1.out _ hF3.below).mono ?_
   rintro e w4 ⟨c4, es4, rfl, hvd, h4⟩
   have hF4 := hF3.joinR h4
   simp only [List.cons_append] at hF4
   have hdl := box hvd.len
   have hdo := box hvd.ones
   have hT2 := box (VDL.snoc (hT.out.mono (es' := TE ++ es4) (fun _ h => List.mem_append_left _ h)) (hvd.mono (fun _ h => List.mem_append_right _ h)))
   rw [← htk.out] at hT2
   clear hvd h4 hbd1
   go_wp2_with (first | ((with_reducible refine lst (by with_unfolding_all rfl) (wp_fbs1 T_rdescs hF4 (by with_unfolding_all rfl) (ds := c4) (by with_unfolding_all rfl) hdl.out (by decide) ?_)); intro w7 g7 hF7 hz7) | ((with_reducible refine lst (by with_unfolding_all rfl) (wp_fappG T_rdescs hF7 (i := 2) rfl (Nat.le_refl _) (hF7.rdOwn (i := 0) rfl) hdo.out (by with_unfolding_all exact ⟨_, _, rfl, rfl, rfl⟩) (by unfold maxLen; omega) (by omega) ?_)); intro v8 w8 hF8 hz8; simp only [List.set_cons_zero, List.set_cons_succ] at hF8; obtain ⟨A8, c8, rfl, hc8⟩ := hF8.ownParts (i := 2) rfl))
   go_roundg (n - (i + 1))
   case rel => exact ⟨i + 1, A8, c8, zs ++ c4, TE ++ es4, by omega, box rfl, by go_num, rfl, hc8, hT2, hF8.tail.tail⟩
   case measure => have := hkk.out; omega
  ·obtain rfl : n = i := by omega
   have hta : Box (l.take n = l) := box (List.take_of_length_le (by rw [hn.out]; exact Nat.le_refl _))
   rw [hta.out] at hT
   go_wp2_with fail
   go_ret
   have hF3 := hF.toRd (i := 0) rfl
   exact ⟨_, _, rfl, ⟨B, n, d, zs, hid, hn.out, rfl, hT.out.mono (fun _ h => by simp [h]), .inr (by simp)⟩, hF3⟩
end Go.Proofs.YtlhicfpmlncomaaGreatDoor

namespace Go.Proofs.YtlhicfpmlncomaaGreatDoor
open Go.RowKit
set_option linter.unusedSimpArgs false
set_option linter.unusedVariables false
/-- Memory reads as notes, a descriptor, descriptors, a document. -/
def RdN (w : World) (l : List MNote) (nt : Value) : Prop := ∃ A n c, n ≤ c ∧ n = l.length ∧ nt = .slice A n c ∧ Rd w (· < w.heap.size) A 2 n (ntsL l)
def RdD (w : World) (d : MDesc) (cs : List Value) : Prop := ∃ nt, d.dig.length = 32 ∧ RdN w d.notes nt ∧ cs = dsL d.media d.dig d.size nt
def RdE (w : World) (l : List MDesc) (v : Value) : Prop := ∃ A n c xs, n ≤ c ∧ n = l.length ∧ v = .slice A n c ∧ Rd w (· < w.heap.size) A 35 n xs ∧ ∀ i d, l[i]? = some d → RdD w d ((xs.drop (i * 35)).take 35)
def RdDoc (w : World) (d : MDoc) (cs : List Value) : Prop := ∃ cf eg sj nt, RdD w d.config cf ∧ RdE w d.edges eg ∧ RdD w d.subject sj ∧ RdN w d.notes nt ∧ cs = docL d.media d.type cf eg sj d.has nt
/-- No list of a document is longer than any machine bears. -/
def MB (d : MDoc) : Prop := d.config.notes.length ≤ 1048576 ∧ d.edges.length ≤ 1048576 ∧ (∀ x ∈ d.edges, x.notes.length ≤ 1048576) ∧ d.subject.notes.length ≤ 1048576 ∧ d.notes.length ≤ 1048576
section
variable {w w' : World}
theorem RdN.on {l : List MNote} {nt : Value} (h : RdN w l nt) (hb : Below w.heap.size w w') : RdN w' l nt := by
 obtain ⟨A, n, c, h1, h2, h3, h4⟩ := h
 exact ⟨A, n, c, h1, h2, h3, h4.on hb⟩
theorem RdD.on {d : MDesc} {cs : List Value} (h : RdD w d cs) (hb : Below w.heap.size w w') : RdD w' d cs := by
 obtain ⟨nt, h1, h2, h3⟩ := h
 exact ⟨nt, h1, h2.on hb, h3⟩
theorem RdE.on {l : List MDesc} {v : Value} (h : RdE w l v) (hb : Below w.heap.size w w') : RdE w' l v := by
 obtain ⟨A, n, c, xs, h1, h2, h3, h4, h5⟩ := h
 exact ⟨A, n, c, xs, h1, h2, h3, h4.on hb, fun i d hi => (h5 i d hi).on hb⟩
theorem RdDoc.on {d : MDoc} {cs : List Value} (h : RdDoc w d cs) (hb : Below w.heap.size w w') : RdDoc w' d cs := by
 obtain ⟨cf, eg, sj, nt, h1, h2, h3, h4, h5⟩ := h
 exact ⟨cf, eg, sj, nt, h1.on hb, h2.on hb, h3.on hb, h4.on hb, h5⟩
theorem RdD.len {d : MDesc} {cs : List Value} (h : RdD w d cs) : cs.length = 35 := by
 obtain ⟨nt, h1, _, rfl⟩ := h
 exact dsL_len h1
theorem RdD.ones {d : MDesc} {cs : List Value} (h : RdD w d cs) : ∀ u ∈ cs, u.oneCell' = true := by
 obtain ⟨nt, h1, ⟨A, n, c, _, _, rfl, _⟩, rfl⟩ := h
 exact dsL_one
variable {X : List Nat} {w0 : World} {es es' : List Ent}
theorem VN.rdN {l : List MNote} {nt : Value} (h : VN l nt es) (hF : Fr X w0 w es') (hs : ∀ e ∈ es, e ∈ es') : RdN w l nt := (h.mono hs).rd hF
theorem VD.rdD {d : MDesc} {cs : List Value} (h : VD d cs es) (hF : Fr X w0 w es') (hs : ∀ e ∈ es, e ∈ es') : RdD w d cs := by
 obtain ⟨nt, h1, h2, h3⟩ := h
 exact ⟨nt, h1, h2.rdN hF hs, h3⟩
theorem VE.rdE {l : List MDesc} {v : Value} (h : VE l v es) (hF : Fr X w0 w es') (hs : ∀ e ∈ es, e ∈ es') : RdE w l v := by
 obtain ⟨A, n, c, xs, h1, h2, h3, h4, h5⟩ := (h.mono hs).rd hF
 exact ⟨A, n, c, xs, h1, h2, h3, h5, fun i d hi => (h4.at hi).rdD hF (fun _ h => h)⟩
theorem VDoc.rdDoc {d : MDoc} {cs : List Value} (h : VDoc d cs es) (hF : Fr X w0 w es') (hs : ∀ e ∈ es, e ∈ es') : RdDoc w d cs := by
 obtain ⟨cf, eg, sj, nt, h1, h2, h3, h4, h5⟩ := h
 exact ⟨cf, eg, sj, nt, h1.rdD hF hs, h2.rdE hF hs, h3.rdD hF hs, h4.rdN hF hs, h5⟩
end
theorem doc_fill {m t : List UInt8} {cf sj : List Value} {A B : Option Addr} {n c n' c' : Nat} {has : Bool} (h1 : cf.length = 35) (h2 : sj.length = 35) :
  Instr.fill (fun i : Nat => docP[i]?) doc0.toArray [(0, .string ⟨m.toArray⟩), (1, .string ⟨t.toArray⟩), (2, .agg cf.toArray), (3, .slice A n c), (4, .agg sj.toArray), (5, .bool has), (6, .slice B n' c')] = some (docL m t cf (.slice A n c) sj has (.slice B n' c')).toArray := by
 unfold doc0
 rw [fill_step (off := 0) (size := 1) rfl rfl (by rw [docL_len ds0_len ds0_len]; omega), show (Value.string ⟨m.toArray⟩).cells.toList = [.string ⟨m.toArray⟩] from rfl, docL_0s,
  fill_step (off := 1) (size := 1) rfl rfl (by rw [docL_len ds0_len ds0_len]; omega), show (Value.string ⟨t.toArray⟩).cells.toList = [.string ⟨t.toArray⟩] from rfl, docL_1s,
  fill_step (off := 2) (size := 35) rfl (by simpa [Value.cells] using h1) (by rw [docL_len ds0_len ds0_len]; omega), show (Value.agg cf.toArray).cells.toList = cf from rfl, docL_2 (by rw [ds0_len, h1]),
  fill_step (off := 37) (size := 1) rfl rfl (by rw [docL_len h1 ds0_len]; omega), show (Value.slice A n c).cells.toList = [.slice A n c] from rfl, docL_37 h1,
  fill_step (off := 38) (size := 35) rfl (by simpa [Value.cells] using h2) (by rw [docL_len h1 ds0_len]; omega), show (Value.agg sj.toArray).cells.toList = sj from rfl, docL_38 h1 (by rw [ds0_len, h2]),
  fill_step (off := 73) (size := 1) rfl rfl (by rw [docL_len h1 h2]; omega), show (Value.bool has).cells.toList = [.bool has] from rfl, docL_73 h1 h2,
  fill_step (off := 74) (size := 1) rfl rfl (by rw [docL_len h1 h2]; omega), show (Value.slice B n' c').cells.toList = [.slice B n' c'] from rfl, docL_74 h1 h2]
 rfl
set_option maxRecDepth 20000 in
set_option maxHeartbeats 6400000 in
theorem From_any (d : MDoc) (cs : List Value) (w : World) (hD : RdDoc w d cs) (hB : MB d) :
  Calls Tryz.prog 15 #[.agg cs.toArray] w fun e w' => ∃ cs' es, e = .returned (.agg cs'.toArray) ∧ VDoc d cs' es ∧ Fr [] w w' es := by
 have hF0 := Fr.nil w
 obtain ⟨cf, eg, sj, nt, hC, hE, hS, hN, rfl⟩ := hD
 have hcl := box hC.len
 have hsl := box hS.len
 have hco := hC.ones
 have hso := hS.ones
 obtain ⟨hB1, hB2, hB3, hB4, hB5⟩ := hB
 have hcC : Box (∀ w', Below w.heap.size w w' → Calls Tryz.prog 36 #[.agg cf.toArray] w' fun e w2 => ∃ cs' es, e = .returned (.agg cs'.toArray) ∧ VD d.config cs' es ∧ Fr [] w' w2 es) := box (fun w' hb => by
  obtain ⟨nt, h1, ⟨A, n, c, _, h3, rfl, h5⟩, rfl⟩ := hC.on hb
  exact backDesc_any d.config _ A n c w' h1 rfl h3 (by omega) h5)
 have hcS : Box (∀ w', Below w.heap.size w w' → Calls Tryz.prog 36 #[.agg sj.toArray] w' fun e w2 => ∃ cs' es, e = .returned (.agg cs'.toArray) ∧ VD d.subject cs' es ∧ Fr [] w' w2 es) := box (fun w' hb => by
  obtain ⟨nt, h1, ⟨A, n, c, _, h3, rfl, h5⟩, rfl⟩ := hS.on hb
  exact backDesc_any d.subject _ A n c w' h1 rfl h3 (by omega) h5)
 have hcE : Box (∀ w', Below w.heap.size w w' → Calls Tryz.prog 26 #[eg] w' fun e w2 => ∃ eg' es, e = .returned eg' ∧ VE d.edges eg' es ∧ Fr [] w' w2 es) := box (fun w' hb => by
  obtain ⟨A, n, c, xs, _, h2, rfl, h4, h5⟩ := hE.on hb
  exact backDescs_any A n c d.edges xs w' h2 (by omega) h4 (fun i x hx => by
   obtain ⟨nt, h6, ⟨B, k, q, _, h8, rfl, h9⟩, h10⟩ := h5 i x hx
   have := hB3 x (List.mem_of_getElem? hx)
   exact ⟨B, k, q, h6, h10, h8, by omega, h9⟩))
 have hcN : Box (∀ w', Below w.heap.size w w' → Calls Tryz.prog 37 #[nt] w' fun e w2 => ∃ nt' es, e = .returned nt' ∧ VN d.notes nt' es ∧ Fr [] w' w2 es) := box (fun w' hb => by
  obtain ⟨A, n, c, _, h2, rfl, h4⟩ := hN.on hb
  exact backNotes_any A n c d.notes w' h2 (by omega) h4)
 obtain ⟨Ae, ne, ce, _, _, _, rfl, _, _⟩ := hE
 obtain ⟨An, nn, cn, _, _, rfl, _⟩ := hN
 clear hC hS hB1 hB2 hB3 hB4 hB5 hco hso
 go_enter Tryz.func15, Tryz.ntmps15
 go_upto_region 1 with (first | ((with_reducible refine lst (by with_unfolding_all rfl) (wp_fbox hF0 (cs := (docL d.media d.type cf (.slice Ae ne ce) sj d.has (.slice An nn cn))) rfl (by with_unfolding_all rfl) (by with_unfolding_all rfl) ?_)); intro w1 g1 hF1 hz1) | ((with_reducible refine lst (by with_unfolding_all rfl) (wp_falloc hF1 (cs := doc0) (z := .agg (List.toArray (doc0))) rfl (by kernel_rfl) (by with_unfolding_all rfl) ?_)); intro w2 g2 hF2 hz2))
 have hFd := (hF2.perm (List.Perm.swap _ _ _)).drew
 clear hF0 hF1 hF2
 refine wp_region_held (S := fun w' => w'.heap[g1]? = some (.cells (List.toArray (docL d.media d.type cf (.slice Ae ne ce) sj d.has (.slice An nn cn))) 31 (0, 0))) (by kernel_rfl) ?_
 change wpAnyH _ _ _ _ _ _ _ _ (World.drew _)
 refine tkp 0 (hFd.blk (i := 0) rfl) ?_
 (try simp only [Act.put, List.setIfInBounds_toArray, List.set_cons_zero, List.set_cons_succ])
 refine tky 1 (y := yi_fld (by with_unfolding_all rfl) (fun _ h => h) Tryz.underlying9 rfl (by with_unfolding_all exact ⟨_, rfl, rfl⟩) docL_m0) (s := (hFd.blk (i := 0) rfl)) (h := ?_)
 (try simp only [Act.put, List.setIfInBounds_toArray, List.set_cons_zero, List.set_cons_succ])
 refine tkp 2 (hFd.blk (i := 0) rfl) ?_
 (try simp only [Act.put, List.setIfInBounds_toArray, List.set_cons_zero, List.set_cons_succ])
 refine tky 3 (y := yi_fld (by with_unfolding_all rfl) (fun _ h => h) Tryz.underlying9 rfl (by with_unfolding_all exact ⟨_, rfl, rfl⟩) docL_t0) (s := (hFd.blk (i := 0) rfl)) (h := ?_)
 (try simp only [Act.put, List.setIfInBounds_toArray, List.set_cons_zero, List.set_cons_succ])
 refine tkp 4 (hFd.blk (i := 0) rfl) ?_
 (try simp only [Act.put, List.setIfInBounds_toArray, List.set_cons_zero, List.set_cons_succ])
 refine tky 5 (y := yi_fldA (by with_unfolding_all rfl) (fun _ h => h) Tryz.underlying28 rfl (by with_unfolding_all exact ⟨_, rfl, rfl⟩) (ds := cf) (by rw [hcl.out]; kernel_rfl) (by rw [hcl.out]; exact docL_cf hcl.out)) (s := (hFd.blk (i := 0) rfl)) (h := ?_)
 (try simp only [Act.put, List.setIfInBounds_toArray, List.set_cons_zero, List.set_cons_succ])
 refine tkp 7 (hFd.blk (i := 0) rfl) ?_
 (try simp only [Act.put, List.setIfInBounds_toArray, List.set_cons_zero, List.set_cons_succ])
 refine tky 8 (y := yi_fld (by with_unfolding_all rfl) (fun _ h => h) Tryz.underlying29 rfl (by with_unfolding_all exact ⟨_, rfl, rfl⟩) (docL_eg hcl.out)) (s := (hFd.blk (i := 0) rfl)) (h := ?_)
 (try simp only [Act.put, List.setIfInBounds_toArray, List.set_cons_zero, List.set_cons_succ])
 refine tkp 10 (hFd.blk (i := 0) rfl) ?_
 (try simp only [Act.put, List.setIfInBounds_toArray, List.set_cons_zero, List.set_cons_succ])
 refine tky 11 (y := yi_fldA (by with_unfolding_all rfl) (fun _ h => h) Tryz.underlying28 rfl (by with_unfolding_all exact ⟨_, rfl, rfl⟩) (ds := sj) (by rw [hsl.out]; kernel_rfl) (by rw [hsl.out]; exact docL_sj hcl.out hsl.out)) (s := (hFd.blk (i := 0) rfl)) (h := ?_)
 (try simp only [Act.put, List.setIfInBounds_toArray, List.set_cons_zero, List.set_cons_succ])
 refine tkp 13 (hFd.blk (i := 0) rfl) ?_
 (try simp only [Act.put, List.setIfInBounds_toArray, List.set_cons_zero, List.set_cons_succ])
 refine tky 14 (y := yi_fld (by with_unfolding_all rfl) (fun _ h => h) Tryz.underlying4 rfl (by with_unfolding_all exact ⟨_, rfl, rfl⟩) (docL_has hcl.out hsl.out)) (s := (hFd.blk (i := 0) rfl)) (h := ?_)
 (try simp only [Act.put, List.setIfInBounds_toArray, List.set_cons_zero, List.set_cons_succ])
 refine tkp 15 (hFd.blk (i := 0) rfl) ?_
 (try simp only [Act.put, List.setIfInBounds_toArray, List.set_cons_zero, List.set_cons_succ])
 refine tky 16 (y := yi_fld (by with_unfolding_all rfl) (fun _ h => h) Tryz.underlying26 rfl (by with_unfolding_all exact ⟨_, rfl, rfl⟩) (docL_nt hcl.out hsl.out)) (s := (hFd.blk (i := 0) rfl)) (h := ?_)
 (try simp only [Act.put, List.setIfInBounds_toArray, List.set_cons_zero, List.set_cons_succ])
 refine rdy1 6 (fun K hK => ?_)
 refine stp (by with_unfolding_all rfl) (wp_call Tryz.func36 rfl (by with_unfolding_all rfl) (by with_unfolding_all rfl) (by with_unfolding_all rfl) (hcC.out _ hFd.below) ?_)
 rintro e w31 ⟨nt31, es31, rfl, hvn31, hv31⟩
 refine ⟨_, rfl, ?_⟩
 have hF31 := hFd.joinR hv31
 simp only [List.cons_append, List.nil_append] at hF31
 have hdl31 := box hvn31.len
 have hdo31 := hvn31.ones
 replace hdo31 := box hdo31
 refine hK.out _ _ ((hF31.blk (i := 0) rfl)) (fun _ => ?_)
 clear hK K
 (try simp only [Act.put, List.setIfInBounds_toArray, List.set_cons_zero, List.set_cons_succ])
 refine rdy1 9 (fun K hK => ?_)
 refine stp (by with_unfolding_all rfl) (wp_call Tryz.func26 rfl (by with_unfolding_all rfl) (by with_unfolding_all rfl) (by with_unfolding_all rfl) (hcE.out _ hF31.below) ?_)
 rintro e w32 ⟨nt32, es32, rfl, hvn32, hv32⟩
 refine ⟨_, rfl, ?_⟩
 have hF32 := hF31.joinR hv32
 simp only [List.cons_append, List.nil_append] at hF32
 obtain ⟨A32, l32, c32, xs32, hlc32, hll32, rfl, hT32, hm32⟩ := hvn32
 replace hll32 := box hll32
 refine hK.out _ _ ((hF32.blk (i := 0) rfl)) (fun _ => ?_)
 clear hK K
 (try simp only [Act.put, List.setIfInBounds_toArray, List.set_cons_zero, List.set_cons_succ])
 refine rdy1 12 (fun K hK => ?_)
 refine stp (by with_unfolding_all rfl) (wp_call Tryz.func36 rfl (by with_unfolding_all rfl) (by with_unfolding_all rfl) (by with_unfolding_all rfl) (hcS.out _ hF32.below) ?_)
 rintro e w33 ⟨nt33, es33, rfl, hvn33, hv33⟩
 refine ⟨_, rfl, ?_⟩
 have hF33 := hF32.joinR hv33
 simp only [List.cons_append, List.nil_append] at hF33
 have hdl33 := box hvn33.len
 have hdo33 := hvn33.ones
 replace hdo33 := box hdo33
 refine hK.out _ _ ((hF33.blk (i := 0) rfl)) (fun _ => ?_)
 clear hK K
 (try simp only [Act.put, List.setIfInBounds_toArray, List.set_cons_zero, List.set_cons_succ])
 refine rdy1 17 (fun K hK => ?_)
 refine stp (by with_unfolding_all rfl) (wp_call Tryz.func37 rfl (by with_unfolding_all rfl) (by with_unfolding_all rfl) (by with_unfolding_all rfl) (hcN.out _ hF33.below) ?_)
 rintro e w34 ⟨nt34, es34, rfl, hvn34, hv34⟩
 refine ⟨_, rfl, ?_⟩
 have hF34 := hF33.joinR hv34
 simp only [List.cons_append, List.nil_append] at hF34
 obtain ⟨A34, l34, c34, hlc34, hll34, rfl, hm34⟩ := hvn34
 replace hll34 := box hll34
 refine hK.out _ _ ((hF34.blk (i := 0) rfl)) (fun _ => ?_)
 clear hK K
 (try simp only [Act.put, List.setIfInBounds_toArray, List.set_cons_zero, List.set_cons_succ])
 refine rdy1 18 (fun K hK => ?_)
 refine stp (by with_unfolding_all rfl) (wp_fbuild Tryz.underlying40 (z := .agg (List.toArray doc0)) (by kernel_rfl) (pl := docP) (by kernel_rfl) (cs := (docL d.media d.type nt31 (.slice A32 l32 c32) nt33 d.has (.slice A34 l34 c34))) rfl (vs := [(0, .string ⟨d.media.toArray⟩), (1, .string ⟨d.type.toArray⟩), (2, .agg nt31.toArray), (3, .slice A32 l32 c32), (4, .agg nt33.toArray), (5, .bool d.has), (6, .slice A34 l34 c34)]) (by with_unfolding_all rfl) (doc_fill hdl31.out hdl33.out) ?_)
 refine hK.out _ _ ((hF34.blk (i := 0) rfl)) (fun _ => ?_)
 clear hK K
 (try simp only [Act.put, List.setIfInBounds_toArray, List.set_cons_zero, List.set_cons_succ])
 refine rdy1 19 (fun K hK => ?_)
 refine stp (by with_unfolding_all rfl) (wp_fstA hF34 (i := 1) rfl (ds := (docL d.media d.type nt31 (.slice A32 l32 c32) nt33 d.has (.slice A34 l34 c34))) (by with_unfolding_all exact ⟨_, _, rfl, rfl, rfl⟩) (by rw [docL_len hdl31.out hdl33.out]; kernel_rfl) (docL_one hdo31.out hdo33.out rfl rfl) (by rw [docL_len hdl31.out hdl33.out, doc0_len]; decide) ?_)
 intro w35 hF35 hz35
 (try simp only [List.set_cons_zero, List.set_cons_succ] at hF35)
 rw [(spl_all (by rw [docL_len hdl31.out hdl33.out, doc0_len]) : spl doc0 0 (docL d.media d.type nt31 (.slice A32 l32 c32) nt33 d.has (.slice A34 l34 c34)) = _)] at hF35
 refine hK.out _ _ ((hF35.blk (i := 0) rfl)) (fun _ => ?_)
 clear hK K
 (try simp only [Act.put, List.setIfInBounds_toArray, List.set_cons_zero, List.set_cons_succ])
 refine wpAnyH_done (by kernel_rfl) ?_ _
 go_wp2_with fail
 exact bodyPost_ret (results_cellF rfl _ hF35 (i := 1) rfl rfl Tryz.underlying40 rfl (by rw [docL_len hdl31.out hdl33.out]; kernel_rfl)) rfl ⟨_, _, rfl, ⟨_, _, _, _, hvn31.mono (fun _ h => by simp [h]), ⟨A32, l32, c32, xs32, hlc32, hll32.out, rfl, hT32.mono (fun _ h => by simp [h]), hm32.imp id (fun h => by simp [h])⟩, hvn33.mono (fun _ h => by simp [h]), ⟨A34, l34, c34, hlc34, hll34.out, rfl, hm34.imp id (fun h => by simp [h])⟩, rfl⟩, hF35.tail.tail⟩
end Go.Proofs.YtlhicfpmlncomaaGreatDoor

namespace Go.Proofs.YtlhicfpmlncomaaGreatDoor
set_option linter.unusedSimpArgs false
set_option linter.unusedVariables false
theorem mNotesL_le : ∀ {ns : List (List UInt8)} {ks : List JV} {l : List MNote}, mNotesL ns ks = .ok l → l.length ≤ ks.length
 | [], ks, l, h => by
  rw [mNotesL] at h
  ·injection h with h; subst h; simp
  ·intros; rename_i h1 h2; cases h1
 | _ :: _, [], l, h => by
  rw [mNotesL] at h
  ·injection h with h; subst h; simp
  ·intros; rename_i h1 h2; cases h2
 | n :: ns, k :: ks, l, h => by
  rw [mNotesL] at h
  split at h
  ·cases hm : mNotesL ns ks with
   | error e => rw [hm] at h; cases h
   | ok l2 =>
    rw [hm] at h
    injection h with h
    subst h
    have := mNotesL_le hm
    simp only [List.length_cons]
    omega
  ·cases h
theorem mNotes_le {v : JV} {l : List MNote} (h : mNotes v = .ok l) : l.length ≤ 32 := by
 unfold mNotes at h
 split at h
 ·split at h
  ·cases h
  ·have := mNotesL_le h; omega
 ·cases h
theorem mdStep_le {d d' : MDesc} {h h' : MHad} {n : List UInt8} {k : JV} (hd : d.notes.length ≤ 32) (hs : mdStep d h n k = .ok (d', h')) : d'.notes.length ≤ 32 := by
 unfold mdStep at hs
 split at hs
 ·cases hm : mMedia k with
  | error e => rw [hm] at hs; cases hs
  | ok t => rw [hm] at hs; cases hs; exact hd
 ·split at hs
  ·split at hs
   ·cases hm : dgP k.text with
    | none => rw [hm] at hs; cases hs
    | some x => rw [hm] at hs; cases hs; exact hd
   ·cases hs
  ·split at hs
   ·split at hs
    ·split at hs
     ·cases hs
     ·cases hs; exact hd
    ·cases hs
   ·split at hs
    ·cases hm : mNotes k with
     | error e => rw [hm] at hs; cases hs
     | ok t => rw [hm] at hs; cases hs; exact mNotes_le hm
    ·cases hs
theorem mDescL_le : ∀ {ns : List (List UInt8)} {ks : List JV} {d d' : MDesc} {h : MHad}, d.notes.length ≤ 32 → mDescL d h ns ks = .ok d' → d'.notes.length ≤ 32
 | [], _, d, d', h, hd, hs => by
  rw [mDescL] at hs
  ·split at hs
   ·cases hs; exact hd
   ·cases hs
  ·intros; rename_i h1 h2; cases h1
 | _ :: _, [], d, d', h, hd, hs => by
  rw [mDescL] at hs
  ·split at hs
   ·cases hs; exact hd
   ·cases hs
  ·intros; rename_i h1 h2; cases h2
 | n :: ns, k :: ks, d, d', h, hd, hs => by
  rw [mDescL] at hs
  cases hm : mdStep d h n k with
  | error e => rw [hm] at hs; cases hs
  | ok x => rw [hm] at hs; exact mDescL_le (mdStep_le hd hm) hs
theorem mDesc_le {v : JV} {d : MDesc} (h : mDesc v = .ok d) : d.notes.length ≤ 32 := by
 unfold mDesc at h
 split at h
 ·exact mDescL_le (by simp [MDesc.zero]) h
 ·cases h
theorem mEdgesL_le : ∀ {ks : List JV} {l : List MDesc}, mEdgesL ks = .ok l → l.length ≤ ks.length ∧ ∀ x ∈ l, x.notes.length ≤ 32
 | [], l, h => by rw [mEdgesL] at h; injection h with h; subst h; simp
 | k :: ks, l, h => by
  rw [mEdgesL] at h
  cases hm : mDesc k with
  | error e => rw [hm] at h; cases h
  | ok d =>
   rw [hm] at h
   simp only [] at h
   cases hl : mEdgesL ks with
   | error e => rw [hl] at h; cases h
   | ok l2 =>
    rw [hl] at h
    injection h with h
    subst h
    have h2 := mEdgesL_le hl
    refine ⟨by simp only [List.length_cons]; omega, fun x hx => ?_⟩
    rcases List.mem_cons.1 hx with rfl | hx
    ·exact mDesc_le hm
    ·exact h2.2 x hx
theorem mEdges_le {v : JV} {l : List MDesc} (h : mEdges v = .ok l) : l.length ≤ 64 ∧ ∀ x ∈ l, x.notes.length ≤ 32 := by
 unfold mEdges at h
 split at h
 ·split at h
  ·cases h
  ·have := mEdgesL_le h
   exact ⟨by omega, this.2⟩
 ·cases h
/-- A document is small. -/
def MBs (d : MDoc) : Prop := d.config.notes.length ≤ 32 ∧ d.edges.length ≤ 64 ∧ (∀ x ∈ d.edges, x.notes.length ≤ 32) ∧ d.subject.notes.length ≤ 32 ∧ d.notes.length ≤ 32
theorem MBs.mb {d : MDoc} (h : MBs d) : MB d := ⟨Nat.le_trans h.1 (by decide), Nat.le_trans h.2.1 (by decide), fun x hx => Nat.le_trans (h.2.2.1 x hx) (by decide), Nat.le_trans h.2.2.2.1 (by decide), Nat.le_trans h.2.2.2.2 (by decide)⟩
theorem MBs.zero : MBs .zero := ⟨by simp [MDoc.zero, MDesc.zero], by simp [MDoc.zero], by simp [MDoc.zero], by simp [MDoc.zero, MDesc.zero], by simp [MDoc.zero]⟩
theorem mStep_mb {d : MDoc} {h : MGot} {n : List UInt8} {k : JV} {x : MDoc × MGot} (hd : MBs d) (hs : mStep d h n k = .ok x) : MBs x.1 := by
 unfold mStep at hs
 obtain ⟨h1, h2, h3, h4, h5⟩ := hd
 split at hs
 ·split at hs
  ·cases hs; exact ⟨h1, h2, h3, h4, h5⟩
  ·cases hs
 ·split at hs
  ·split at hs
   ·split at hs
    ·cases hs; exact ⟨h1, h2, h3, h4, h5⟩
    ·cases hs
   ·cases hs
  ·split at hs
   ·cases hm : mMedia k with
    | error e => rw [hm] at hs; cases hs
    | ok t => rw [hm] at hs; cases hs; exact ⟨h1, h2, h3, h4, h5⟩
   ·split at hs
    ·cases hm : mDesc k with
     | error e => rw [hm] at hs; cases hs
     | ok t => rw [hm] at hs; cases hs; exact ⟨mDesc_le hm, h2, h3, h4, h5⟩
    ·split at hs
     ·cases hm : mEdges k with
      | error e => rw [hm] at hs; cases hs
      | ok t => rw [hm] at hs; cases hs; exact ⟨h1, (mEdges_le hm).1, (mEdges_le hm).2, h4, h5⟩
     ·split at hs
      ·cases hm : mEdges k with
       | error e => rw [hm] at hs; cases hs
       | ok t => rw [hm] at hs; cases hs; exact ⟨h1, (mEdges_le hm).1, (mEdges_le hm).2, h4, h5⟩
      ·split at hs
       ·cases hm : mDesc k with
        | error e => rw [hm] at hs; cases hs
        | ok t => rw [hm] at hs; cases hs; exact ⟨h1, h2, h3, mDesc_le hm, h5⟩
       ·split at hs
        ·cases hm : mNotes k with
         | error e => rw [hm] at hs; cases hs
         | ok t => rw [hm] at hs; cases hs; exact ⟨h1, h2, h3, h4, mNotes_le hm⟩
        ·cases hs
theorem mReadL_mb : ∀ {ns : List (List UInt8)} {ks : List JV} {d d' : MDoc} {h : MGot}, MBs d → mReadL d h ns ks = .ok d' → MBs d'
 | [], _, d, d', h, hd, hs => by
  rw [mReadL] at hs
  ·split at hs
   ·cases hs; exact hd
   ·cases hs
  ·intros; rename_i h1 h2; cases h1
 | _ :: _, [], d, d', h, hd, hs => by
  rw [mReadL] at hs
  ·split at hs
   ·cases hs; exact hd
   ·cases hs
  ·intros; rename_i h1 h2; cases h2
 | n :: ns, k :: ks, d, d', h, hd, hs => by
  rw [mReadL] at hs
  cases hm : mStep d h n k with
  | error e => rw [hm] at hs; cases hs
  | ok x => rw [hm] at hs; exact mReadL_mb (mStep_mb hd hm) hs
theorem mRead_mb {v : JV} {d : MDoc} (h : mRead v = .ok d) : MBs d := by
 unfold mRead at h
 split at h
 ·exact mReadL_mb MBs.zero h
 ·cases h
end Go.Proofs.YtlhicfpmlncomaaGreatDoor

namespace Go.Proofs.YtlhicfpmlncomaaGreatDoor
open Go.RowKit
set_option linter.unusedSimpArgs false
set_option linter.unusedVariables false
/-- The fields of a note. -/
structure NoteT (P : Program) (t : TypeId) (f0 f1 : Field) : Prop where
 und : P.underlying t = some (.struct #[f0, f1])
 nam : [f0, f1].all (fun f => f.name != "_") = true
 off : [f0, f1].map (·.offset) = [0, 1]
 typ : [f0, f1].map (fun f => P.underlying f.type) = [some .string, some .string]
 stood : P.stoodInHeld t = false
 grd : P.eqGuardType P.depth t = false
section
variable {P : Program} {o : Oper} {a : Act} {w : World}
theorem run_eqNote {t : TypeId} {f0 f1 : Field} (T : NoteT P t f0 f1) (x : MNote) (k : Nat) (w : World) :
  (Op.equalIn (k + 3) t (.agg (ntL x).toArray) (.agg (ntL x).toArray)).run P w = .ok true w := by
 have hf : P.fieldsOf t = #[f0, f1] := by unfold Program.fieldsOf; rw [T.und]
 have ho := T.off
 have ht := T.typ
 have hn := T.nam
 simp only [List.map_cons, List.map_nil, List.cons.injEq, and_true] at ho ht
 simp only [List.all_cons, List.all_nil, Bool.and_true, Bool.and_eq_true, bne_iff_ne, ne_eq] at hn
 obtain ⟨o0, o1⟩ := ho
 obtain ⟨t0, t1⟩ := ht
 obtain ⟨n0, n1⟩ := hn
 rw [run_equalIn_struct w (k + 2) t _ _ (by rw [hf]; exact T.und) T.stood, hf]
 have p1 : ∀ (f : Field) (v : Value), P.underlying f.type = some .string → (ntL x)[f.offset]? = some v → (Go.part f.type (ntL x).toArray f.offset).run P w = .ok v w := fun f v hu hv => by
  have hagg : (isAgg f.type).run P w = .ok false w := by rw [run_isAgg hu w]; rfl
  simp [Go.part, hagg, hv]
 have e0 : (ntL x)[f0.offset]? = some (.string ⟨x.key.toArray⟩) := by rw [o0]; rfl
 have e1 : (ntL x)[f1.offset]? = some (.string ⟨x.val.toArray⟩) := by rw [o1]; rfl
 have q0 : (Op.equalIn (k + 2) f0.type (.string ⟨x.key.toArray⟩) (.string ⟨x.key.toArray⟩)).run P w = .ok ((⟨x.key.toArray⟩ : ByteArray).toList == (⟨x.key.toArray⟩ : ByteArray).toList) w := run_equalIn_string w (k + 1) _ _ _ t0
 have q1 : (Op.equalIn (k + 2) f1.type (.string ⟨x.val.toArray⟩) (.string ⟨x.val.toArray⟩)).run P w = .ok ((⟨x.val.toArray⟩ : ByteArray).toList == (⟨x.val.toArray⟩ : ByteArray).toList) w := run_equalIn_string w (k + 1) _ _ _ t1
 rw [beq_self_eq_true] at q0 q1
 have x0 := p1 f0 _ t0 e0
 have x1 := p1 f1 _ t1 e1
 simp only [Op.eqFields, n0, n1, not_false_eq_true, if_true, Sem.run_bind, x0, q0, x1, q1, Result.andThen_ok, ne_eq, Bool.not_true, Bool.false_eq_true, if_false]
 simp
theorem yi_neN {S : World → Prop} {ops : Array Oper} (hw : Region.wanted o (yielded ops a.tmps) = true) {t : TypeId} {f0 f1 : Field} (T : NoteT P t f0 f1) {x : MNote}
  {p q : Operand} {ty : TypeId} (ho : o.op = .binOp .neq t p q ty) (hp : a.eval p = .agg (ntL x).toArray) (hq : a.eval q = .agg (ntL x).toArray) : YieldsIf P ops S o (.bool false) a := by
 refine yi_run hw fun w _ => ?_
 have h1 := run_eqGuard_agg (P := P) w .neq t p q (ntL x).toArray (ntL x).toArray T.grd
 have h2 := run_neq_struct (P := P) w t (ntL x).toArray (ntL x).toArray
 have h3 := run_eqNote T x 9997 w
 unfold execOp
 simp only [ho, hp, hq, Sem.run_bind, h1, h2, h3, Result.andThen_ok, Sem.run_pure]
 rfl
end
theorem NT8 : ∃ f0 f1, NoteT Tryz.prog 149 f0 f1 := ⟨_, _, Tryz.underlying149, by kernel_rfl, by kernel_rfl, by kernel_rfl, by kernel_rfl, by kernel_rfl⟩
set_option maxRecDepth 20000 in
set_option maxHeartbeats 3200000 in
theorem sameNotes_any (l : List MNote) (u v : Value) (w : World) (hbd : l.length ≤ 1048576) (h1 : RdN w l u) (h2 : RdN w l v) :
  Calls Tryz.prog 35 #[u, v] w fun e w' => e = .returned (.bool true) ∧ Below w.heap.size w w' := by
 obtain ⟨A1, n, c1, _, hn, rfl, hr1⟩ := h1
 obtain ⟨A2, n2, c2, _, hn2, rfl, hr2⟩ := h2
 obtain rfl : n = n2 := by omega
 obtain ⟨f0, f1, hNT'⟩ := NT8
 have hNT := box hNT'
 clear hNT' hn2
 replace hn := box hn
 replace hbd : n ≤ 1048576 := by rw [hn.out]; exact hbd
 have hF0 := Fr.nil w
 go_enter Tryz.func35, Tryz.ntmps35
 go_wp2_with fail
 go_loopg [5] n (fun g iv wr => ∃ i : Nat, i ≤ n ∧ Box (g = n - i) ∧ iv = .int .i64 (i : Int) ∧ Fr [] w wr [])
 case atStart => exact ⟨0, by omega, box rfl, rfl, hF0⟩
 case round =>
  clear hF0
  obtain ⟨i, hi, hgi, rfl, hF⟩ := hrel
  have hkk : Box (_ = n - i) := hgi
  clear hgi
  by_cases hlt : i < n
  ·obtain ⟨x, hx⟩ : ∃ x, l[i]? = some x := ⟨l[i]'(by rw [← hn.out]; exact hlt), by simp⟩
   have hxc := box (ntsL_at hx)
   clear hx
   go_upto_region 6 with fail
   have hFd := hF.drew
   refine wp_region_held (S := fun w' => Rd w' (· < w.heap.size) A1 2 n (ntsL l) ∧ Rd w' (· < w.heap.size) A2 2 n (ntsL l)) (by kernel_rfl) ?_
   change wpAnyH _ _ _ _ _ _ _ _ (World.drew _)
   refine tkp 0 ⟨hr1.below hFd.below, hr2.below hFd.below⟩ ?_
   (try simp only [Act.put, List.setIfInBounds_toArray, List.set_cons_zero, List.set_cons_succ])
   refine tkp 1 ⟨hr1.below hFd.below, hr2.below hFd.below⟩ ?_
   (try simp only [Act.put, List.setIfInBounds_toArray, List.set_cons_zero, List.set_cons_succ])
   refine tky 2 (y := yi_ix (by with_unfolding_all rfl) T_rnotes (fun h => hr1.some_ h) (k := i) (by with_unfolding_all exact ⟨_, _, _, _, rfl, rfl, rfl⟩) rfl (by omega)) (s := ⟨hr1.below hFd.below, hr2.below hFd.below⟩) (h := ?_)
   (try simp only [Act.put, List.setIfInBounds_toArray, List.set_cons_zero, List.set_cons_succ])
   refine tky 3 (y := yi_ldA (by with_unfolding_all rfl) (fun _ h => h.1) Tryz.underlying149 rfl (by with_unfolding_all exact ⟨_, rfl, rfl⟩) (ds := ntL x) (by kernel_rfl) hxc.out) (s := ⟨hr1.below hFd.below, hr2.below hFd.below⟩) (h := ?_)
   (try simp only [Act.put, List.setIfInBounds_toArray, List.set_cons_zero, List.set_cons_succ])
   refine tkp 4 ⟨hr1.below hFd.below, hr2.below hFd.below⟩ ?_
   (try simp only [Act.put, List.setIfInBounds_toArray, List.set_cons_zero, List.set_cons_succ])
   refine tkp 5 ⟨hr1.below hFd.below, hr2.below hFd.below⟩ ?_
   (try simp only [Act.put, List.setIfInBounds_toArray, List.set_cons_zero, List.set_cons_succ])
   refine tky 6 (y := yi_ix (by with_unfolding_all rfl) T_rnotes (fun h => hr2.some_ h) (k := i) (by with_unfolding_all exact ⟨_, _, _, _, rfl, rfl, rfl⟩) rfl (by omega)) (s := ⟨hr1.below hFd.below, hr2.below hFd.below⟩) (h := ?_)
   (try simp only [Act.put, List.setIfInBounds_toArray, List.set_cons_zero, List.set_cons_succ])
   refine tky 7 (y := yi_ldA (by with_unfolding_all rfl) (fun _ h => h.2) Tryz.underlying149 rfl (by with_unfolding_all exact ⟨_, rfl, rfl⟩) (ds := ntL x) (by kernel_rfl) hxc.out) (s := ⟨hr1.below hFd.below, hr2.below hFd.below⟩) (h := ?_)
   (try simp only [Act.put, List.setIfInBounds_toArray, List.set_cons_zero, List.set_cons_succ])
   refine tky 8 (y := yi_neN (by with_unfolding_all rfl) hNT.out (x := x) (by with_unfolding_all rfl) (by with_unfolding_all rfl) (by with_unfolding_all rfl)) (s := ⟨hr1.below hFd.below, hr2.below hFd.below⟩) (h := ?_)
   (try simp only [Act.put, List.setIfInBounds_toArray, List.set_cons_zero, List.set_cons_succ])
   refine wpAnyH_done (by kernel_rfl) ?_ _
   go_wp2_with fail
   go_roundg (n - (i + 1))
   case rel => exact ⟨i + 1, by omega, box rfl, by go_num, hFd⟩
   case measure => have := hkk.out; omega
  ·go_wp2_with fail
   go_ret
   exact ⟨rfl, hF.below⟩
end Go.Proofs.YtlhicfpmlncomaaGreatDoor
