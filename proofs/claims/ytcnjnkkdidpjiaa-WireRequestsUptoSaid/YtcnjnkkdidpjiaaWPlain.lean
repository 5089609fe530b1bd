/-
  Layer 19: a request's bytes are read as that request; and what is read has just these bytes. No program is named here.
-/
import Derived.Test.YtcnjnkkdidpjiaaWDec
import Derived.Test.YtcnjnkkdidpjiaaRdtP
namespace Go.Proofs.Ytcnjnkkdidpjiaa
open Go.RowKit

theorem rText_of {p m : List UInt8} {most : Int} (h : (p.length : Int) ≤ most) (h2 : p.length ≤ 1048576) : rText most (some (textL p ++ m)) = (p, some m) := by
  have hb := rdc_back p.length (p ++ m) (by omega)
  have hr : rdt (textL p ++ m) most = (p, (textL p).length, 0) := by
    unfold rdt textL
    rw [List.append_assoc, hb]
    simp only []
    rw [if_neg (by decide), if_neg (by omega), if_neg (by simp only [List.length_append]; omega)]
    simp
  show (if (rdt (textL p ++ m) most).2.2 ≠ 0 then ([], none) else ((rdt (textL p ++ m) most).1, some ((textL p ++ m).drop (rdt (textL p ++ m) most).2.1))) = _
  rw [hr]
  simp
theorem rCount_of {n : Nat} {m : List UInt8} (h : n ≤ 1099511627776) : rCount (some (cnt n ++ m)) = (n, some m) := by
  have hb := rdc_back n m (by omega)
  show (if (rdc 0 0 (cnt n ++ m)).2.2 ≠ 0 ∨ 1099511627776 < (rdc 0 0 (cnt n ++ m)).1 then (0, none) else ((rdc 0 0 (cnt n ++ m)).1, some ((cnt n ++ m).drop (rdc 0 0 (cnt n ++ m)).2.1))) = _
  rw [hb]
  simp only []
  rw [if_neg (by simp; omega)]
  simp
theorem rSum_of {d m : List UInt8} (h : d.length = 32) : rSum (some (d ++ m)) = (d, some m) := by
  show (if (d ++ m).length < 32 then (zeros, none) else ((d ++ m).take 32, some ((d ++ m).drop 32)) : List UInt8 × Option (List UInt8)) = _
  rw [if_neg (by simp; omega), ← h]
  simp
theorem rText_out {most : Int} {s : Option (List UInt8)} {p m : List UInt8} (h : rText most s = (p, some m)) : s = some (textL p ++ m) ∧ (p.length : Int) ≤ most := by
  cases s with
  | none => injection h with _ h; cases h
  | some l =>
    have h : (if (rdt l most).2.2 ≠ 0 then ([], none) else ((rdt l most).1, some (l.drop (rdt l most).2.1)) : List UInt8 × Option (List UInt8)) = (p, some m) := h
    have hu := rdc_used l 0 0
    have hc := rdc_cnt (l := l)
    obtain ⟨hw⟩ := rdt_way (l := l) (n := l.length) rfl most
    generalize (rdc 0 0 l).1 = x at *
    generalize (rdc 0 0 l).2.1 = u at *
    generalize (rdc 0 0 l).2.2 = er at *
    rcases hw with ⟨h0, hr⟩ | ⟨h0, hun, ⟨h1, hr⟩ | ⟨h1, ⟨h2, hr⟩ | ⟨h2, hr⟩⟩⟩
    · rw [hr, if_pos h0] at h; injection h with _ h; cases h
    · rw [hr, if_pos (by simp)] at h; injection h with _ h; cases h
    · rw [hr, if_pos (by simp)] at h; injection h with _ h; cases h
    · rw [hr, if_neg (by simp)] at h
      injection h with h3 h4
      injection h4 with h4
      have hc := (hc h0).1
      have hpl : p.length = x := by rw [← h3, List.length_take, List.length_drop]; omega
      refine ⟨?_, by omega⟩
      congr 1
      unfold textL
      rw [hpl, hc, ← h3, ← h4, ← List.drop_drop, List.append_assoc, List.take_append_drop, List.take_append_drop]
theorem rCount_out {s : Option (List UInt8)} {n : Nat} {m : List UInt8} (h : rCount s = (n, some m)) : s = some (cnt n ++ m) ∧ n ≤ 1099511627776 := by
  cases s with
  | none => injection h with _ h; cases h
  | some l =>
    have h : (if (rdc 0 0 l).2.2 ≠ 0 ∨ 1099511627776 < (rdc 0 0 l).1 then (0, none) else ((rdc 0 0 l).1, some (l.drop (rdc 0 0 l).2.1)) : Nat × Option (List UInt8)) = (n, some m) := h
    have hc := rdc_cnt (l := l)
    by_cases h0 : (rdc 0 0 l).2.2 ≠ 0 ∨ 1099511627776 < (rdc 0 0 l).1
    · rw [if_pos h0] at h; injection h with _ h; cases h
    · rw [if_neg h0] at h
      injection h with h3 h4
      injection h4 with h4
      have hc := (hc (by omega)).1
      rw [h3] at hc h0
      refine ⟨?_, by omega⟩
      rw [hc, ← h4, List.take_append_drop]
theorem rSum_out {s : Option (List UInt8)} {d m : List UInt8} (h : rSum s = (d, some m)) : s = some (d ++ m) ∧ d.length = 32 := by
  cases s with
  | none => injection h with _ h; cases h
  | some l =>
    have h : (if l.length < 32 then (zeros, none) else (l.take 32, some (l.drop 32)) : List UInt8 × Option (List UInt8)) = (d, some m) := h
    by_cases h0 : l.length < 32
    · rw [if_pos h0] at h; injection h with _ h; cases h
    · rw [if_neg h0] at h
      injection h with h3 h4
      injection h4 with h4
      exact ⟨by rw [← h3, ← h4, List.take_append_drop], by rw [← h3]; simp; omega⟩

theorem dec_enc {r : Req} (hok : reqOk r = true) (hd : r.d.length = 32) : decReq (reqB r) = some r := by
  obtain ⟨op, repo, word, d, id, at_, n, body⟩ := r
  obtain ⟨h1, h2, h3, h4, h5, h6, h7, h8⟩ := reqOk_iff hok
  simp only [] at h1 h2 h3 h4 h5 h6 h7 h8 hd
  have h6 := numB_iff h6
  have h7 := numB_iff h7
  have h8 := numB_iff h8
  obtain ⟨o, rfl⟩ := Int.eq_ofNat_of_zero_le (a := op) (by omega)
  obtain ⟨i1, rfl⟩ := Int.eq_ofNat_of_zero_le h6.1
  obtain ⟨i2, rfl⟩ := Int.eq_ofNat_of_zero_le h7.1
  obtain ⟨i3, rfl⟩ := Int.eq_ofNat_of_zero_le h8.1
  have hx : (UInt8.ofNat o).toNat = o := by rw [UInt8.toNat_ofNat']; omega
  have ht : took (textL repo.data.toList ++ (textL word.data.toList ++ (d ++ (cnt i1 ++ (cnt i2 ++ (cnt i3 ++ textL body)))))) = ⟨(repo.data.toList, some (textL word.data.toList ++ (d ++ (cnt i1 ++ (cnt i2 ++ (cnt i3 ++ textL body)))))), (word.data.toList, some (d ++ (cnt i1 ++ (cnt i2 ++ (cnt i3 ++ textL body))))), (d, some (cnt i1 ++ (cnt i2 ++ (cnt i3 ++ textL body)))), (i1, some (cnt i2 ++ (cnt i3 ++ textL body))), (i2, some (cnt i3 ++ textL body)), (i3, some (textL body)), (body, some [])⟩ := by
    have e4 : rText 1048576 (some (textL body)) = (body, some []) := by
      have := rText_of (p := body) (m := []) (most := 1048576) (by omega) h5
      rwa [List.append_nil] at this
    unfold took
    simp only []
    rw [rText_of (by rw [str_len]; omega) (by rw [str_len]; omega)]
    simp only []
    rw [rText_of (by rw [str_len]; omega) (by rw [str_len]; omega)]
    simp only []
    rw [rSum_of hd]
    simp only []
    rw [rCount_of (by omega)]
    simp only []
    rw [rCount_of (by omega)]
    simp only []
    rw [rCount_of (by omega)]
    simp only []
    rw [e4]
  have hb : reqB ⟨(o : Int), repo, word, d, i1, i2, i3, body⟩ = UInt8.ofNat o :: (textL repo.data.toList ++ (textL word.data.toList ++ (d ++ (cnt i1 ++ (cnt i2 ++ (cnt i3 ++ textL body)))))) := by
    simp [reqB]
  rw [hb, decReq, if_neg (by rw [hx]; omega), ht, if_pos rfl]
  unfold Took.req
  simp only [str_eta, hx]
theorem dec_out {b : List UInt8} {r : Req} (h : decReq b = some r) : reqOk r = true ∧ reqB r = b ∧ r.d.length = 32 := by
  cases b with
  | nil => cases h
  | cons x l =>
    rw [decReq] at h
    by_cases hbad : x.toNat < 1 ∨ 20 < x.toNat
    · rw [if_pos hbad] at h; cases h
    · rw [if_neg hbad] at h
      by_cases ht4 : (took l).t4.2 = some []
      · rw [if_pos ht4] at h
        injection h with h
        subst h
        obtain ⟨p4, e4⟩ : ∃ p, (took l).t4 = (p, some []) := ⟨_, by rw [← ht4]⟩
        obtain ⟨a4, b4⟩ := rText_out (show rText 1048576 (took l).n3.2 = _ from e4)
        obtain ⟨q3, e3⟩ : ∃ p, (took l).n3 = (p, some (textL p4 ++ [])) := ⟨_, by rw [← a4]⟩
        obtain ⟨a3, b3⟩ := rCount_out (show rCount (took l).n2.2 = _ from e3)
        obtain ⟨q2, e2⟩ : ∃ p, (took l).n2 = (p, some (cnt q3 ++ (textL p4 ++ []))) := ⟨_, by rw [← a3]⟩
        obtain ⟨a2, b2⟩ := rCount_out (show rCount (took l).n1.2 = _ from e2)
        obtain ⟨q1, e1⟩ : ∃ p, (took l).n1 = (p, some (cnt q2 ++ (cnt q3 ++ (textL p4 ++ [])))) := ⟨_, by rw [← a2]⟩
        obtain ⟨a1, b1⟩ := rCount_out (show rCount (took l).t3.2 = _ from e1)
        obtain ⟨d, e0⟩ : ∃ p, (took l).t3 = (p, some (cnt q1 ++ (cnt q2 ++ (cnt q3 ++ (textL p4 ++ []))))) := ⟨_, by rw [← a1]⟩
        obtain ⟨a0, b0⟩ := rSum_out (show rSum (took l).t2.2 = _ from e0)
        obtain ⟨p2, f2⟩ : ∃ p, (took l).t2 = (p, some (d ++ (cnt q1 ++ (cnt q2 ++ (cnt q3 ++ (textL p4 ++ [])))))) := ⟨_, by rw [← a0]⟩
        obtain ⟨c2, d2⟩ := rText_out (show rText 128 (took l).t1.2 = _ from f2)
        obtain ⟨p1, f1⟩ : ∃ p, (took l).t1 = (p, some (textL p2 ++ (d ++ (cnt q1 ++ (cnt q2 ++ (cnt q3 ++ (textL p4 ++ []))))))) := ⟨_, by rw [← c2]⟩
        obtain ⟨c1, d1⟩ := rText_out (show rText 128 (some l) = _ from f1)
        injection c1 with c1
        have hreq : (took l).req x = ⟨x.toNat, ⟨p1.toArray⟩, ⟨p2.toArray⟩, d, q1, q2, q3, p4⟩ := by unfold Took.req; rw [f1, f2, e0, e1, e2, e3, e4]
        rw [hreq]
        refine ⟨reqOk_of (by simp only []; omega) (by simp only []; omega) (by rw [str_mk_size]; omega) (by rw [str_mk_size]; omega) (by simp only []; omega) (by simp [numB]; omega) (by simp [numB]; omega) (by simp [numB]; omega), ?_, b0⟩
        rw [c1]
        simp [reqB]
      · rw [if_neg ht4] at h; cases h
end Go.Proofs.Ytcnjnkkdidpjiaa
