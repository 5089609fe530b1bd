/-
  WireBack: the law's walk.
  What the second form's bound gives of a slice: its room.
-/
import Derived.Test.YtcnjnkkdidpjiaaJ24
import Derived.Test.YtcnjnkkdidpjiaaJ29
import Derived.Test.YtcnjnkkdidpjiaaRows
namespace Go.Proofs.Ytcnjnkkdidpjiaa
open Go.RowKit

theorem req_two (r : Req) : ((if reqOk r = true then (0 : Int) else 1) = 0 ∧ reqOk r = true ∧ (if reqOk r = true then reqB r else []) = reqB r) ∨ (if reqOk r = true then (0 : Int) else 1) = 1 := by
  by_cases h : reqOk r = true
  · exact .inl ⟨if_pos h, h, if_pos h⟩
  · exact .inr (if_neg h)
theorem rep_two (r : Rep) : ((if repOk r = true then (0 : Int) else 1) = 0 ∧ repOk r = true ∧ (if repOk r = true then repB r else []) = repB r) ∨ (if repOk r = true then (0 : Int) else 1) = 1 := by
  by_cases h : repOk r = true
  · exact .inl ⟨if_pos h, h, if_pos h⟩
  · exact .inr (if_neg h)
theorem dreq_two (l : List UInt8) : (∃ r, decReq l = some r ∧ (if (decReq l).isSome = true then (0 : Int) else 10) = 0 ∧ (decReq l).getD Req.zero = r) ∨ (if (decReq l).isSome = true then (0 : Int) else 10) = 10 := by
  cases h : decReq l with
  | none => exact .inr rfl
  | some r => exact .inl ⟨r, rfl, rfl, rfl⟩
theorem drep_two (l : List UInt8) : (∃ r, decRep l = some r ∧ (if (decRep l).isSome = true then (0 : Int) else 10) = 0 ∧ (decRep l).getD Rep.zero = r) ∨ (if (decRep l).isSome = true then (0 : Int) else 10) = 10 := by
  cases h : decRep l with
  | none => exact .inr rfl
  | some r => exact .inl ⟨r, rfl, rfl, rfl⟩
theorem req_len {r : Req} (h : reqOk r = true) (hd : r.d.length = 32) : (reqB r).length ≤ 140737488355000 := by
  obtain ⟨_, _, h3, h4, h5, h6, h7, h8⟩ := reqOk_iff h
  have h6 := numB_iff h6
  have h7 := numB_iff h7
  have h8 := numB_iff h8
  have a1 := textL_len r.repo.data.toList (by rw [str_len]; omega)
  have a2 := textL_len r.word.data.toList (by rw [str_len]; omega)
  have a3 := textL_len r.body (by omega)
  have b1 := cnt_len64 (n := r.id.toNat) (by omega)
  have b2 := cnt_len64 (n := r.at_.toNat) (by omega)
  have b3 := cnt_len64 (n := r.n.toNat) (by omega)
  rw [str_len] at a1 a2
  simp only [reqB, List.length_append, List.length_cons, List.length_nil]
  omega
theorem rep_len {r : Rep} (h : repOk r = true) (hd : r.d.length = 32) (hs : sums32 r.sums) : (repB r).length ≤ 140737488355000 := by
  obtain ⟨_, _, h3, h4, h5, h6, h7, h8⟩ := repOk_iff h
  have h3 := numB_iff h3
  have h4 := numB_iff h4
  have a3 := textL_len r.body (by omega)
  have b1 := cnt_len64 (n := r.n.toNat) (by omega)
  have b2 := cnt_len64 (n := r.m.toNat) (by omega)
  have b3 := cnt_len64 (n := r.words.length) (by omega)
  have b4 := cnt_len64 (n := r.sums.length) (by omega)
  have c1 := wordsB_len r.words h8
  have c2 := sums_len hs
  simp only [repB, List.length_append, List.length_cons, List.length_nil]
  omega

set_option maxRecDepth 20000 in
set_option maxHeartbeats 6400000 in
theorem wireBack_any (r : Req) (A : Option Addr) (c : Nat) (p : Rep) (A' B' C' : Option Addr) (c' cb' cc' : Nat) (D : Option Addr) (n m : Nat) (l : List UInt8) (w : World) (hd : r.d.length = 32) (hr : Rd w (· < w.heap.size) A 1 r.body.length (r.body.map bv)) (hm : r.body.length ≤ 140737488355000)
    (hR : RepRd w p A' B' C') (hm' : p.body.length ≤ 140737488355000) (hmw : p.words.length ≤ 1000000000) (hms : p.sums.length ≤ 1000000000) (hn : n ≤ 140737488355000) (hnm : n ≤ m) (hrb : Rd w (· < w.heap.size) D 1 n (l.map bv)) :
    Calls Try.prog 6 #[.agg (r.cells A c).toArray, .agg (p.cells A' B' C' c' cb' cc').toArray, .slice D n m] w fun e w' => e = .returned (.bool true) ∧ Below w.heap.size w w' := by
  have hF0 := Fr.nil w
  have hcl := Req.cells_len r A c hd
  replace hcl := box hcl
  have hcp := Rep.cells_len p A' B' C' c' cb' cc' hR.d
  replace hcp := box hcp
  have hrq := rq0_len
  replace hrq := box hrq
  have hrp := rp0_len
  replace hrp := box hrp
  have hE := box (fun A c w h => encReq_any r A c w hd h)
  have hEc := box (req_two r)
  generalize (if reqOk r = true then reqB r else []) = L at *
  generalize (if reqOk r = true then (0 : Int) else 1) = E at *
  have hP := box (fun A B C c cb cc w h => encRep_any p A B C c cb cc w h)
  have hPc := box (rep_two p)
  generalize (if repOk p = true then repB p else []) = M at *
  generalize (if repOk p = true then (0 : Int) else 1) = EP at *
  have hD := box (fun w h => decReq_any D n m l w hn hnm h)
  have hDc := box (dreq_two l)
  unfold ToldReq at hD
  have hx := dec_len l
  have hxb := dec_body l
  generalize (decReq l).getD Req.zero = x at *
  generalize (if (decReq l).isSome = true then (0 : Int) else 10) = ED at *
  have hG := box (fun w h => decRep_any D n m l w hn hnm h)
  have hGc := box (drep_two l)
  unfold ToldRep at hG
  have hy := decRep_d l
  have hy32 := decRep_32 l
  obtain ⟨hy1, hy2, hy3⟩ := decRep_bd l
  generalize (decRep l).getD Rep.zero = y at *
  generalize (if (decRep l).isSome = true then (0 : Int) else 10) = EG at *
  have hcx := box (fun A c => Req.cells_len x A c hx)
  have hcy := box (fun A B C c cb cc => Rep.cells_len y A B C c cb cc hy)
  replace hd := box hd
  replace hx := box hx
  replace hy := box hy
  replace hy32 := box hy32
  have hlb := box hrb.bytes_len
  go_enter Try.func6, Try.ntmps6
  go_wp2_with (first | ((with_reducible refine lst (by with_unfolding_all rfl) (wp_fbox hF0 (cs := (r.cells A c)) rfl (by with_unfolding_all rfl) (by with_unfolding_all rfl) ?_)); intro w1 g1 hF1 hz1) | ((with_reducible refine lst (by with_unfolding_all rfl) (wp_fbox hF1 (cs := (p.cells A' B' C' c' cb' cc')) rfl (by with_unfolding_all rfl) (by with_unfolding_all rfl) ?_)); intro w2 g2 hF2 hz2) | (with_reducible refine lst (by with_unfolding_all rfl) (wp_fldA1 hF2 Try.underlying25 rfl (by with_unfolding_all exact ⟨_, rfl, rfl⟩) (ds := (r.cells A c)) (by rw [hcl.out]; kernel_rfl) (take_all _) ?_)))
  refine (toReq_any r A c w2 hd.out (hF2.rdOld hr) hm).mono ?_
  rintro e w3 ⟨A3, c3, rfl, ho3, hb3⟩
  have hF3 := hF2.call hb3
  go_wp2_with fail
  refine (hE.out A3 c3 w3 (ho3.rd.mono fun k hk => hk.2)).mono ?_
  rintro e w4 ⟨v4, rfl, ho4, hb4⟩
  obtain ⟨A4, c4, rfl, hc4, _⟩ := ho4.arg
  have hF4 := hF3.gotB hb4 ho4
  clear hF1 hF2 hF3 hb3 hb4 ho3 ho4
  go_upto_if 30 with (fail)
  go_cut [3] (fun s3 wx => s3 = .pointer (some ⟨g1, 0, none⟩) ∧ Fr [] w wx [.blk g2 47 (p.cells A' B' C' c' cb' cc'), .blk g1 25 (r.cells A c)])
  case first =>
    rcases hEc.out with ⟨rfl, hok, rfl⟩ | rfl
    · have hdec := dec_enc hok hd.out
      have hlen := req_len hok hd.out
      have hC := box (decReq_any A4 (reqB r).length c4 (reqB r) w4 hlen hc4 (hF4.rdOwn (i := 0) rfl))
      rw [hdec] at hC
      unfold ToldReq at hC
      simp only [Option.getD_some, Option.isSome_some, if_true] at hC
      replace hok := box hok
      replace hdec := box hdec
      clear hE
      go_wp2_with fail
      refine hC.out.mono ?_
      rintro e w5 ⟨A5, c5, rfl, ho5, hb5⟩
      have hF5 := hF4.gotB hb5 ho5
      have hcr := box (fun A c => Req.cells_len r A c hd.out)
      go_wp2_with (first | ((with_reducible refine lst (by with_unfolding_all rfl) (wp_falloc hF5 (cs := rq0) (z := .agg (List.toArray (rq0))) rfl (by kernel_rfl) (by with_unfolding_all rfl) ?_)); intro w6 g6 hF6 hz6) | ((with_reducible refine lst (by with_unfolding_all rfl) (wp_fstA0 hF6 (by with_unfolding_all exact ⟨_, _, rfl, rfl, rfl⟩) (by rw [hcr.out]; kernel_rfl) (Req.cells_one _ _ _) (by rw [hcr.out, hrq.out]; omega) (spl_all (by rw [hcr.out, hrq.out])) ?_)); intro w7 hF7 hz7))
      clear hC hF4 hF5 hF6 hb5 ho5
      have hsx := sameReq_self r
      have hFd := hF7.drew
      refine wp_region_held (S := fun w' => w'.heap[g6]? = some (.cells (List.toArray (r.cells A5 c5)) 31 (0, 0)) ∧ w'.heap[g1]? = some (.cells (List.toArray (r.cells A c)) 25 (0, 0))) (by kernel_rfl) ?_
      change wpAnyH _ _ _ _ _ _ _ _ (World.drew _)
      refine wpAnyH_take (i := 0) (v := ?_) (by simp only [List.getElem?_toArray, List.getElem?_cons_zero]; rfl) (by kernel_rfl) (by kernel_rfl) (by kernel_rfl) (by exact fun _ _ _ h => h) (Or.inl ⟨by with_unfolding_all rfl, ?_⟩) ⟨hFd.blk (i := 0) rfl, hFd.blk (i := 4) rfl⟩ ?_
      rotate_left
      · (intro w hSw; (try dsimp only at hSw); go_simp; try with_reducible rfl)
      (try simp only [Act.put, List.setIfInBounds_toArray, List.set_cons_zero, List.set_cons_succ])
      refine wpAnyH_take (i := 1) (v := ?_) (by simp only [List.getElem?_toArray, List.getElem?_cons_zero, List.getElem?_cons_succ]; rfl) (by kernel_rfl) (by kernel_rfl) (by kernel_rfl) (by exact fun _ _ _ h => h) (Or.inl ⟨by with_unfolding_all rfl, ?_⟩) ⟨hFd.blk (i := 0) rfl, hFd.blk (i := 4) rfl⟩ ?_
      rotate_left
      · (intro w hSw; (try dsimp only at hSw); go_simp; try with_reducible rfl)
      (try simp only [Act.put, List.setIfInBounds_toArray, List.set_cons_zero, List.set_cons_succ])
      refine wpAnyH_take (i := 2) (v := ?_) (by simp only [List.getElem?_toArray, List.getElem?_cons_zero, List.getElem?_cons_succ]; rfl) (by kernel_rfl) (by kernel_rfl) (by kernel_rfl) (by exact fun _ _ _ h => h) (Or.inl ⟨by with_unfolding_all rfl, ?_⟩) ⟨hFd.blk (i := 0) rfl, hFd.blk (i := 4) rfl⟩ ?_
      rotate_left
      · (intro w hSw; (try dsimp only at hSw); go_simp; try with_reducible rfl)
      (try simp only [Act.put, List.setIfInBounds_toArray, List.set_cons_zero, List.set_cons_succ])
      refine wpAnyH_take (i := 3) (by simp only [List.getElem?_toArray, List.getElem?_cons_zero, List.getElem?_cons_succ]; rfl) (by kernel_rfl) (by kernel_rfl) (by kernel_rfl) (by exact fun _ _ _ h => h) (yi_fldA (by with_unfolding_all rfl) (fun _ h => h.1) Try.underlying31 rfl (by with_unfolding_all exact ⟨_, rfl, rfl⟩) (ds := (r.cells A5 c5)) (by rw [hcr.out]; kernel_rfl) (take_all _)) ⟨hFd.blk (i := 0) rfl, hFd.blk (i := 4) rfl⟩ ?_
      (try simp only [Act.put, List.setIfInBounds_toArray, List.set_cons_zero, List.set_cons_succ])
      refine wpAnyH_take (i := 5) (by simp only [List.getElem?_toArray, List.getElem?_cons_zero, List.getElem?_cons_succ]; rfl) (by kernel_rfl) (by kernel_rfl) (by kernel_rfl) (by exact fun _ _ _ h => h) (yi_fldA (by with_unfolding_all rfl) (fun _ h => h.2) Try.underlying25 rfl (by with_unfolding_all exact ⟨_, rfl, rfl⟩) (ds := (r.cells A c)) (by rw [hcl.out]; kernel_rfl) (take_all _)) ⟨hFd.blk (i := 0) rfl, hFd.blk (i := 4) rfl⟩ ?_
      (try simp only [Act.put, List.setIfInBounds_toArray, List.set_cons_zero, List.set_cons_succ])
      refine wpAnyH_ready (rs := [4]) (by kernel_rfl) (by simp) ?_
      refine AllReadyH.cons (by simp only [List.getElem?_toArray, List.getElem?_cons_zero, List.getElem?_cons_succ]; rfl) (fun K hK => ?_) ?_
      · refine stp (by with_unfolding_all rfl) (wp_call Try.func15 rfl (by with_unfolding_all rfl) (by with_unfolding_all rfl) (by with_unfolding_all rfl) (fromReq_any r A5 c5 _ hd.out) ?_)
        rintro e w21 ⟨rfl, hb21⟩
        refine ⟨_, rfl, ?_⟩
        have hF21 := hFd.call hb21
        refine hK.out _ _ (⟨hF21.blk (i := 0) rfl, hF21.blk (i := 4) rfl⟩) (fun _ => ?_)
        clear hK K
        (try simp only [Act.put, List.setIfInBounds_toArray, List.set_cons_zero, List.set_cons_succ])
        refine wpAnyH_ready (rs := [6]) (by kernel_rfl) (by simp) ?_
        refine AllReadyH.cons (by simp only [List.getElem?_toArray, List.getElem?_cons_zero, List.getElem?_cons_succ]; rfl) (fun K hK => ?_) ?_
        · refine stp (by with_unfolding_all rfl) (wp_call Try.func14 rfl (by with_unfolding_all rfl) (by with_unfolding_all rfl) (by with_unfolding_all rfl) (sameReq_any r r A5 A c5 c _ hd.out hd.out (hF21.rdOwn (i := 1) rfl) (hF21.rdOld hr) (by omega)) ?_)
          rintro e w22 ⟨rfl, hb22⟩
          refine ⟨_, rfl, ?_⟩
          have hF22 := hF21.call hb22
          refine hK.out _ _ (⟨hF22.blk (i := 0) rfl, hF22.blk (i := 4) rfl⟩) (fun _ => ?_)
          clear hK K
          (try simp only [Act.put, List.setIfInBounds_toArray, List.set_cons_zero, List.set_cons_succ])
          refine wpAnyH_take (i := 7) (v := ?_) (by simp only [List.getElem?_toArray, List.getElem?_cons_zero, List.getElem?_cons_succ]; rfl) (by kernel_rfl) (by kernel_rfl) (by kernel_rfl) (by exact fun _ _ _ h => h) (Or.inl ⟨by with_unfolding_all rfl, ?_⟩) ⟨hF22.blk (i := 0) rfl, hF22.blk (i := 4) rfl⟩ ?_
          rotate_left
          · (intro w hSw; (try dsimp only at hSw); go_simp; try with_reducible rfl)
          (try simp only [Act.put, List.setIfInBounds_toArray, List.set_cons_zero, List.set_cons_succ])
          refine wpAnyH_take (i := 8) (v := ?_) (by simp only [List.getElem?_toArray, List.getElem?_cons_zero, List.getElem?_cons_succ]; rfl) (by kernel_rfl) (by kernel_rfl) (by kernel_rfl) (by exact fun _ _ _ h => h) (Or.inl ⟨by with_unfolding_all rfl, ?_⟩) ⟨hF22.blk (i := 0) rfl, hF22.blk (i := 4) rfl⟩ ?_
          rotate_left
          · (intro w hSw; (try dsimp only at hSw); go_simp; try with_reducible rfl)
          (try simp only [Act.put, List.setIfInBounds_toArray, List.set_cons_zero, List.set_cons_succ])
          refine wpAnyH_done (by kernel_rfl) ?_ _
          go_wp2_with fail
          go_meet
          exact ⟨rfl, hF22.picks [3, 4] rfl (by decide)⟩
        exact AllReadyH.nil
      exact AllReadyH.nil
    · go_wp2_with fail
      go_meet
      exact ⟨rfl, hF4.picks [1, 2] rfl (by decide)⟩
  case rest =>
  obtain ⟨rfl, hF⟩ := hcut
  clear hF0 hF4 hE hEc
  go_wp2_with (first | (with_reducible refine lst (by with_unfolding_all rfl) (wp_fldA0 hF Try.underlying47 rfl (by with_unfolding_all exact ⟨_, rfl, rfl⟩) (ds := (p.cells A' B' C' c' cb' cc')) (by rw [hcp.out]; kernel_rfl) (take_all _) ?_)))
  refine (toRep_any p A' B' C' c' cb' cc' wc (hR.fr hF) hm' hmw hms).mono ?_
  rintro e w3 ⟨A3, B3, C3, c3, cb3, cc3, rfl, hR3⟩
  have hF3 := hF.call hR3.below
  have hR3 := RepRd.of (i := 0) (j := 1) (k := 2) hR3 hR.d hR.each rfl rfl rfl
  go_wp2_with fail
  refine (hP.out A3 B3 C3 c3 cb3 cc3 w3 hR3).mono ?_
  rintro e w4 ⟨v4, rfl, ho4, hb4⟩
  obtain ⟨A4, c4, rfl, hc4, _⟩ := ho4.arg
  have hF4 := hF3.gotB hb4 ho4
  clear hF hF3 hb4 ho4 hR3
  go_upto_if 52 with (fail)
  go_cut [3] (fun s3 wx => s3 = .pointer (some ⟨g1, 0, none⟩) ∧ Fr [] w wx [.blk g2 47 (p.cells A' B' C' c' cb' cc'), .blk g1 25 (r.cells A c)])
  case first =>
    rcases hPc.out with ⟨rfl, hok, rfl⟩ | rfl
    · have hdec := rep_enc hok hR.d hR.each
      have hlen := rep_len hok hR.d hR.each
      have hC := box (decRep_any A4 (repB p).length c4 (repB p) w4 hlen hc4 (hF4.rdOwn (i := 0) rfl))
      rw [hdec] at hC
      unfold ToldRep at hC
      simp only [Option.getD_some, Option.isSome_some, if_true] at hC
      have hcr := box (fun A B C c cb cc => Rep.cells_len p A B C c cb cc hR.d)
      have hpd := box hR.d
      have hp32 := box hR.each
      replace hok := box hok
      replace hdec := box hdec
      go_wp2_with fail
      refine hC.out.mono ?_
      rintro e w5 ⟨A5, B5, C5, c5, cb5, cc5, rfl, hR5⟩
      have hF5 := hF4.join hR5
      simp only [RepEs, List.cons_append, List.nil_append] at hF5
      clear hR5
      go_wp2_with (first | ((with_reducible refine lst (by with_unfolding_all rfl) (wp_falloc hF5 (cs := rp0) (z := .agg (List.toArray (rp0))) rfl (by kernel_rfl) (by with_unfolding_all rfl) ?_)); intro w6 g6 hF6 hz6) | ((with_reducible refine lst (by with_unfolding_all rfl) (wp_fstA0 hF6 (by with_unfolding_all exact ⟨_, _, rfl, rfl, rfl⟩) (by rw [hcr.out]; kernel_rfl) (Rep.cells_one _ _ _ _ _ _ _) (by rw [hcr.out, hrp.out]; omega) (spl_all (by rw [hcr.out, hrp.out])) ?_)); intro w7 hF7 hz7))
      clear hC hF4 hF5 hF6
      have hsx := sameRep_self p
      have hFd := hF7.drew
      refine wp_region_held (S := fun w' => w'.heap[g6]? = some (.cells (List.toArray (p.cells A5 B5 C5 c5 cb5 cc5)) 51 (0, 0)) ∧ w'.heap[g2]? = some (.cells (List.toArray (p.cells A' B' C' c' cb' cc')) 47 (0, 0))) (by kernel_rfl) ?_
      change wpAnyH _ _ _ _ _ _ _ _ (World.drew _)
      refine wpAnyH_take (i := 0) (v := ?_) (by simp only [List.getElem?_toArray, List.getElem?_cons_zero]; rfl) (by kernel_rfl) (by kernel_rfl) (by kernel_rfl) (by exact fun _ _ _ h => h) (Or.inl ⟨by with_unfolding_all rfl, ?_⟩) ⟨hFd.blk (i := 0) rfl, hFd.blk (i := 5) rfl⟩ ?_
      rotate_left
      · (intro w hSw; (try dsimp only at hSw); go_simp; try with_reducible rfl)
      (try simp only [Act.put, List.setIfInBounds_toArray, List.set_cons_zero, List.set_cons_succ])
      refine wpAnyH_take (i := 1) (v := ?_) (by simp only [List.getElem?_toArray, List.getElem?_cons_zero, List.getElem?_cons_succ]; rfl) (by kernel_rfl) (by kernel_rfl) (by kernel_rfl) (by exact fun _ _ _ h => h) (Or.inl ⟨by with_unfolding_all rfl, ?_⟩) ⟨hFd.blk (i := 0) rfl, hFd.blk (i := 5) rfl⟩ ?_
      rotate_left
      · (intro w hSw; (try dsimp only at hSw); go_simp; try with_reducible rfl)
      (try simp only [Act.put, List.setIfInBounds_toArray, List.set_cons_zero, List.set_cons_succ])
      refine wpAnyH_take (i := 2) (v := ?_) (by simp only [List.getElem?_toArray, List.getElem?_cons_zero, List.getElem?_cons_succ]; rfl) (by kernel_rfl) (by kernel_rfl) (by kernel_rfl) (by exact fun _ _ _ h => h) (Or.inl ⟨by with_unfolding_all rfl, ?_⟩) ⟨hFd.blk (i := 0) rfl, hFd.blk (i := 5) rfl⟩ ?_
      rotate_left
      · (intro w hSw; (try dsimp only at hSw); go_simp; try with_reducible rfl)
      (try simp only [Act.put, List.setIfInBounds_toArray, List.set_cons_zero, List.set_cons_succ])
      refine wpAnyH_take (i := 3) (by simp only [List.getElem?_toArray, List.getElem?_cons_zero, List.getElem?_cons_succ]; rfl) (by kernel_rfl) (by kernel_rfl) (by kernel_rfl) (by exact fun _ _ _ h => h) (yi_fldA (by with_unfolding_all rfl) (fun _ h => h.1) Try.underlying51 rfl (by with_unfolding_all exact ⟨_, rfl, rfl⟩) (ds := (p.cells A5 B5 C5 c5 cb5 cc5)) (by rw [hcr.out]; kernel_rfl) (take_all _)) ⟨hFd.blk (i := 0) rfl, hFd.blk (i := 5) rfl⟩ ?_
      (try simp only [Act.put, List.setIfInBounds_toArray, List.set_cons_zero, List.set_cons_succ])
      refine wpAnyH_take (i := 5) (by simp only [List.getElem?_toArray, List.getElem?_cons_zero, List.getElem?_cons_succ]; rfl) (by kernel_rfl) (by kernel_rfl) (by kernel_rfl) (by exact fun _ _ _ h => h) (yi_fldA (by with_unfolding_all rfl) (fun _ h => h.2) Try.underlying47 rfl (by with_unfolding_all exact ⟨_, rfl, rfl⟩) (ds := (p.cells A' B' C' c' cb' cc')) (by rw [hcp.out]; kernel_rfl) (take_all _)) ⟨hFd.blk (i := 0) rfl, hFd.blk (i := 5) rfl⟩ ?_
      (try simp only [Act.put, List.setIfInBounds_toArray, List.set_cons_zero, List.set_cons_succ])
      refine wpAnyH_ready (rs := [4]) (by kernel_rfl) (by simp) ?_
      refine AllReadyH.cons (by simp only [List.getElem?_toArray, List.getElem?_cons_zero, List.getElem?_cons_succ]; rfl) (fun K hK => ?_) ?_
      · refine stp (by with_unfolding_all rfl) (wp_call Try.func22 rfl (by with_unfolding_all rfl) (by with_unfolding_all rfl) (by with_unfolding_all rfl) (fromRep_any p A5 B5 C5 c5 cb5 cc5 _ (RepRd.of hFd (i := 1) (j := 2) (k := 3) hpd.out hp32.out rfl rfl rfl) (by omega)) ?_)
        rintro e w21 ⟨C21, d21, rfl, hj21⟩
        refine ⟨_, rfl, ?_⟩
        have hF21 := hFd.join hj21
        simp only [List.cons_append, List.nil_append] at hF21
        refine hK.out _ _ (⟨hF21.blk (i := 1) rfl, hF21.blk (i := 6) rfl⟩) (fun _ => ?_)
        clear hK K
        (try simp only [Act.put, List.setIfInBounds_toArray, List.set_cons_zero, List.set_cons_succ])
        refine wpAnyH_ready (rs := [6]) (by kernel_rfl) (by simp) ?_
        refine AllReadyH.cons (by simp only [List.getElem?_toArray, List.getElem?_cons_zero, List.getElem?_cons_succ]; rfl) (fun K hK => ?_) ?_
        · refine stp (by with_unfolding_all rfl) (wp_call Try.func18 rfl (by with_unfolding_all rfl) (by with_unfolding_all rfl) (by with_unfolding_all rfl) (sameRep_any p p A5 B5 C21 A' B' C' c5 cb5 d21 c' cb' cc' _ (RepRd.of hF21 (i := 2) (j := 3) (k := 0) hpd.out hp32.out rfl rfl rfl) (hR.fr hF21) (by omega) (by omega) (by omega)) ?_)
          rintro e w22 ⟨rfl, hb22⟩
          refine ⟨_, rfl, ?_⟩
          have hF22 := hF21.call hb22
          refine hK.out _ _ (⟨hF22.blk (i := 1) rfl, hF22.blk (i := 6) rfl⟩) (fun _ => ?_)
          clear hK K
          (try simp only [Act.put, List.setIfInBounds_toArray, List.set_cons_zero, List.set_cons_succ])
          refine wpAnyH_take (i := 7) (v := ?_) (by simp only [List.getElem?_toArray, List.getElem?_cons_zero, List.getElem?_cons_succ]; rfl) (by kernel_rfl) (by kernel_rfl) (by kernel_rfl) (by exact fun _ _ _ h => h) (Or.inl ⟨by with_unfolding_all rfl, ?_⟩) ⟨hF22.blk (i := 1) rfl, hF22.blk (i := 6) rfl⟩ ?_
          rotate_left
          · (intro w hSw; (try dsimp only at hSw); go_simp; try with_reducible rfl)
          (try simp only [Act.put, List.setIfInBounds_toArray, List.set_cons_zero, List.set_cons_succ])
          refine wpAnyH_take (i := 8) (v := ?_) (by simp only [List.getElem?_toArray, List.getElem?_cons_zero, List.getElem?_cons_succ]; rfl) (by kernel_rfl) (by kernel_rfl) (by kernel_rfl) (by exact fun _ _ _ h => h) (Or.inl ⟨by with_unfolding_all rfl, ?_⟩) ⟨hF22.blk (i := 1) rfl, hF22.blk (i := 6) rfl⟩ ?_
          rotate_left
          · (intro w hSw; (try dsimp only at hSw); go_simp; try with_reducible rfl)
          (try simp only [Act.put, List.setIfInBounds_toArray, List.set_cons_zero, List.set_cons_succ])
          refine wpAnyH_done (by kernel_rfl) ?_ _
          go_wp2_with fail
          go_meet
          exact ⟨rfl, hF22.picks [6, 7] rfl (by decide)⟩
        exact AllReadyH.nil
      exact AllReadyH.nil
    · go_wp2_with fail
      go_meet
      exact ⟨rfl, hF4.picks [1, 2] rfl (by decide)⟩
  case rest =>
  obtain ⟨rfl, hF⟩ := hcut
  clear hF4 hP hPc hcl hcp
  go_wp2_with fail
  refine (hD.out _ (hF.rdOld hrb)).mono ?_
  rintro e w3 ⟨A3, c3, rfl, ho3, hb3⟩
  have hF3 := hF.gotB hb3 ho3
  clear hF hb3 ho3
  go_upto_if 73 with (first | ((with_reducible refine lst (by with_unfolding_all rfl) (wp_falloc hF3 (cs := rq0) (z := .agg (List.toArray (rq0))) rfl (by kernel_rfl) (by with_unfolding_all rfl) ?_)); intro w4 g4 hF4 hz4) | ((with_reducible refine lst (by with_unfolding_all rfl) (wp_fstA0 hF4 (by with_unfolding_all exact ⟨_, _, rfl, rfl, rfl⟩) (by rw [hcx.out]; kernel_rfl) (Req.cells_one _ _ _) (by rw [hcx.out, hrq.out]; omega) (spl_all (by rw [hcx.out, hrq.out])) ?_)); intro w5 hF5 hz5))
  go_cut [3] (fun s3 wx => s3 = .pointer (some ⟨g1, 0, none⟩) ∧ Fr [] w wx [])
  case first =>
    rcases hDc.out with ⟨q, hq, rfl, rfl⟩ | rfl
    · obtain ⟨hok, hqb, hqd⟩ := dec_out hq
      have hC := box (fun A c w h => encReq_any x A c w hqd h)
      rw [if_pos hok, if_pos hok, hqb] at hC
      clear hq hok hqb hqd
      have hcx := box (fun A c => hcx.out A c)
      go_wp2_with (first | (with_reducible refine lst (by with_unfolding_all rfl) (wp_fldA0 hF5 Try.underlying31 rfl (by with_unfolding_all exact ⟨_, rfl, rfl⟩) (ds := (x.cells A3 c3)) (by rw [hcx.out]; kernel_rfl) (take_all _) ?_)))
      refine (hC.out A3 c3 w5 (hF5.rdOwn (i := 1) rfl)).mono ?_
      rintro e w6 ⟨v6, rfl, ho6, hb6⟩
      obtain ⟨A6, c6, rfl, hc6, _⟩ := ho6.arg
      have hF6 := hF5.gotB hb6 ho6
      have hll : (l == l) = true := beq_self_eq_true l
      go_wp2_with fail
      refine (same_any A6 D l.length n c6 m l l w6 (by have := hlb.out; omega) (hF6.rdOwn (i := 0) rfl) (hF6.rdOld hrb)).mono ?_
      rintro e w7 ⟨rfl, hb7⟩
      have hF7 := hF6.call hb7
      go_wp2_with fail
      go_meet
      exact ⟨rfl, hF7.picks [] rfl (by decide)⟩
    · go_wp2_with fail
      go_meet
      exact ⟨rfl, hF5.picks [] rfl (by decide)⟩
  case rest =>
  obtain ⟨rfl, hF⟩ := hcut
  clear hF3 hF4 hF5 hD hDc hcx
  go_wp2_with fail
  refine (hG.out _ (hF.rdOld hrb)).mono ?_
  rintro e w3 ⟨A3, B3, C3, c3, cb3, cc3, rfl, hR3⟩
  have hF3 := hF.join hR3
  simp only [RepEs, List.cons_append, List.nil_append] at hF3
  clear hF hR3
  go_upto_if 93 with (first | ((with_reducible refine lst (by with_unfolding_all rfl) (wp_falloc hF3 (cs := rp0) (z := .agg (List.toArray (rp0))) rfl (by kernel_rfl) (by with_unfolding_all rfl) ?_)); intro w4 g4 hF4 hz4) | ((with_reducible refine lst (by with_unfolding_all rfl) (wp_fstA0 hF4 (by with_unfolding_all exact ⟨_, _, rfl, rfl, rfl⟩) (by rw [hcy.out]; kernel_rfl) (Rep.cells_one _ _ _ _ _ _ _) (by rw [hcy.out, hrp.out]; omega) (spl_all (by rw [hcy.out, hrp.out])) ?_)); intro w5 hF5 hz5))
  go_cut [3] (fun s3 wx => s3 = .pointer (some ⟨g1, 0, none⟩) ∧ Fr [] w wx [])
  case first =>
    rcases hGc.out with ⟨q, hq, rfl, rfl⟩ | rfl
    · obtain ⟨hok, hqb, hqd, hq32⟩ := rep_out hq
      have hC := box (fun A B C c cb cc w h => encRep_any y A B C c cb cc w h)
      rw [if_pos hok, if_pos hok, hqb] at hC
      clear hq hok hqb hqd hq32
      go_wp2_with (first | (with_reducible refine lst (by with_unfolding_all rfl) (wp_fldA0 hF5 Try.underlying51 rfl (by with_unfolding_all exact ⟨_, rfl, rfl⟩) (ds := (y.cells A3 B3 C3 c3 cb3 cc3)) (by rw [hcy.out]; kernel_rfl) (take_all _) ?_)))
      refine (hC.out A3 B3 C3 c3 cb3 cc3 w5 (RepRd.of hF5 (i := 1) (j := 2) (k := 3) hy.out hy32.out rfl rfl rfl)).mono ?_
      rintro e w6 ⟨v6, rfl, ho6, hb6⟩
      obtain ⟨A6, c6, rfl, hc6, _⟩ := ho6.arg
      have hF6 := hF5.gotB hb6 ho6
      have hll : (l == l) = true := beq_self_eq_true l
      go_wp2_with fail
      refine (same_any A6 D l.length n c6 m l l w6 (by have := hlb.out; omega) (hF6.rdOwn (i := 0) rfl) (hF6.rdOld hrb)).mono ?_
      rintro e w7 ⟨rfl, hb7⟩
      have hF7 := hF6.call hb7
      go_wp2_with fail
      go_meet
      exact ⟨rfl, hF7.picks [] rfl (by decide)⟩
    · go_wp2_with fail
      go_meet
      exact ⟨rfl, hF5.picks [] rfl (by decide)⟩
  case rest =>
  obtain ⟨rfl, hF⟩ := hcut
  clear hF3 hF4 hF5 hG hGc hcy
  go_wp2_with fail
  refine (awake_any _).mono ?_
  rintro e w3 ⟨rfl, hb3⟩
  have hF3 := hF.call hb3
  go_wp2_with fail
  go_ret
  exact ⟨rfl, hF3.below⟩
end Go.Proofs.Ytcnjnkkdidpjiaa

namespace Go.Proofs.Ytcnjnkkdidpjiaa

theorem bulk_pos {H : Type} : ∀ d : DataW H, 1 ≤ Rows.uptoBulk d
  | .lit l => by cases l <;> simp [Rows.uptoBulk]
  | .nil => by simp [Rows.uptoBulk]
  | .ptr d => by simp [Rows.uptoBulk]
  | .slice e s => by simp [Rows.uptoBulk]
  | .agg p => by simp [Rows.uptoBulk]
  | .iface t d => by simp [Rows.uptoBulk]
  | .map e => by simp [Rows.uptoBulk]
  | .held h => by simp [Rows.uptoBulk]
theorem bulk_len {H : Type} : ∀ l : List (DataW H), l.length ≤ Rows.uptoBulkAll l
  | [] => Nat.zero_le _
  | d :: r => by have h1 := bulk_pos d; have h2 := bulk_len r; simp only [Rows.uptoBulkAll, List.length_cons]; omega
theorem bulk_cap {H : Type} (e s : List (DataW H)) : e.length + s.length + 1 ≤ Rows.uptoBulk (.slice e s) := by
  have h1 := bulk_len e
  have h2 := bulk_len s
  simp only [Rows.uptoBulk]; omega
end Go.Proofs.Ytcnjnkkdidpjiaa
