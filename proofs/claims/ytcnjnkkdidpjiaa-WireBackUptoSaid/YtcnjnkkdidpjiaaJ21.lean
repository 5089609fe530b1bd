/-
  Layer 19: a request's bytes are read as that request; and what is read has just these bytes. No program is named here.
  Layer 19: a reply's bytes are read as that reply; and what is read has just these bytes. No program is named here.
  Layer 19: what of memory a reply reads, out of a frame of blocks. No program is named here.
-/
import Derived.Test.YtcnjnkkdidpjiaaJ07
import Derived.Test.YtcnjnkkdidpjiaaJ11
import Derived.Test.YtcnjnkkdidpjiaaJ10
namespace Go.Proofs.Ytcnjnkkdidpjiaa
open Go.RowKit

theorem rText_of {p m : List UInt8} {most : Int} (h : (p.length : Int) ≤ most) (h2 : p.length ≤ 1048576) : rText most (some (textL p ++ m)) = (p, some m) := by
  have hb := rdc_back p.length (p ++ m) (by omega)
  have hr : rdt (textL p ++ m) most = (p, (textL p).length, 0) := by
    unfold rdt textL
    rw [List.append_assoc, hb]
    simp only []
    rw [if_neg (by decide), if_neg (by omega), if_neg (by simp only [List.length_append]; omega)]
    simp
  show (if (rdt (textL p ++ m) most).2.2 ≠ 0 then ([], none) else ((rdt (textL p ++ m) most).1, some ((textL p ++ m).drop (rdt (textL p ++ m) most).2.1))) = _
  rw [hr]
  simp
theorem rCount_of {n : Nat} {m : List UInt8} (h : n ≤ 1099511627776) : rCount (some (cnt n ++ m)) = (n, some m) := by
  have hb := rdc_back n m (by omega)
  show (if (rdc 0 0 (cnt n ++ m)).2.2 ≠ 0 ∨ 1099511627776 < (rdc 0 0 (cnt n ++ m)).1 then (0, none) else ((rdc 0 0 (cnt n ++ m)).1, some ((cnt n ++ m).drop (rdc 0 0 (cnt n ++ m)).2.1))) = _
  rw [hb]
  simp only []
  rw [if_neg (by simp; omega)]
  simp
theorem rSum_of {d m : List UInt8} (h : d.length = 32) : rSum (some (d ++ m)) = (d, some m) := by
  show (if (d ++ m).length < 32 then (zeros, none) else ((d ++ m).take 32, some ((d ++ m).drop 32)) : List UInt8 × Option (List UInt8)) = _
  rw [if_neg (by simp; omega), ← h]
  simp
theorem rText_out {most : Int} {s : Option (List UInt8)} {p m : List UInt8} (h : rText most s = (p, some m)) : s = some (textL p ++ m) ∧ (p.length : Int) ≤ most := by
  cases s with
  | none => injection h with _ h; cases h
  | some l =>
    have h : (if (rdt l most).2.2 ≠ 0 then ([], none) else ((rdt l most).1, some (l.drop (rdt l most).2.1)) : List UInt8 × Option (List UInt8)) = (p, some m) := h
    have hu := rdc_used l 0 0
    have hc := rdc_cnt (l := l)
    obtain ⟨hw⟩ := rdt_way (l := l) (n := l.length) rfl most
    generalize (rdc 0 0 l).1 = x at *
    generalize (rdc 0 0 l).2.1 = u at *
    generalize (rdc 0 0 l).2.2 = er at *
    rcases hw with ⟨h0, hr⟩ | ⟨h0, hun, ⟨h1, hr⟩ | ⟨h1, ⟨h2, hr⟩ | ⟨h2, hr⟩⟩⟩
    · rw [hr, if_pos h0] at h; injection h with _ h; cases h
    · rw [hr, if_pos (by simp)] at h; injection h with _ h; cases h
    · rw [hr, if_pos (by simp)] at h; injection h with _ h; cases h
    · rw [hr, if_neg (by simp)] at h
      injection h with h3 h4
      injection h4 with h4
      have hc := (hc h0).1
      have hpl : p.length = x := by rw [← h3, List.length_take, List.length_drop]; omega
      refine ⟨?_, by omega⟩
      congr 1
      unfold textL
      rw [hpl, hc, ← h3, ← h4, ← List.drop_drop, List.append_assoc, List.take_append_drop, List.take_append_drop]
theorem rCount_out {s : Option (List UInt8)} {n : Nat} {m : List UInt8} (h : rCount s = (n, some m)) : s = some (cnt n ++ m) ∧ n ≤ 1099511627776 := by
  cases s with
  | none => injection h with _ h; cases h
  | some l =>
    have h : (if (rdc 0 0 l).2.2 ≠ 0 ∨ 1099511627776 < (rdc 0 0 l).1 then (0, none) else ((rdc 0 0 l).1, some (l.drop (rdc 0 0 l).2.1)) : Nat × Option (List UInt8)) = (n, some m) := h
    have hc := rdc_cnt (l := l)
    by_cases h0 : (rdc 0 0 l).2.2 ≠ 0 ∨ 1099511627776 < (rdc 0 0 l).1
    · rw [if_pos h0] at h; injection h with _ h; cases h
    · rw [if_neg h0] at h
      injection h with h3 h4
      injection h4 with h4
      have hc := (hc (by omega)).1
      rw [h3] at hc h0
      refine ⟨?_, by omega⟩
      rw [hc, ← h4, List.take_append_drop]
theorem rSum_out {s : Option (List UInt8)} {d m : List UInt8} (h : rSum s = (d, some m)) : s = some (d ++ m) ∧ d.length = 32 := by
  cases s with
  | none => injection h with _ h; cases h
  | some l =>
    have h : (if l.length < 32 then (zeros, none) else (l.take 32, some (l.drop 32)) : List UInt8 × Option (List UInt8)) = (d, some m) := h
    by_cases h0 : l.length < 32
    · rw [if_pos h0] at h; injection h with _ h; cases h
    · rw [if_neg h0] at h
      injection h with h3 h4
      injection h4 with h4
      exact ⟨by rw [← h3, ← h4, List.take_append_drop], by rw [← h3]; simp; omega⟩

theorem dec_enc {r : Req} (hok : reqOk r = true) (hd : r.d.length = 32) : decReq (reqB r) = some r := by
  obtain ⟨op, repo, word, d, id, at_, n, body⟩ := r
  obtain ⟨h1, h2, h3, h4, h5, h6, h7, h8⟩ := reqOk_iff hok
  simp only [] at h1 h2 h3 h4 h5 h6 h7 h8 hd
  have h6 := numB_iff h6
  have h7 := numB_iff h7
  have h8 := numB_iff h8
  obtain ⟨o, rfl⟩ := Int.eq_ofNat_of_zero_le (a := op) (by omega)
  obtain ⟨i1, rfl⟩ := Int.eq_ofNat_of_zero_le h6.1
  obtain ⟨i2, rfl⟩ := Int.eq_ofNat_of_zero_le h7.1
  obtain ⟨i3, rfl⟩ := Int.eq_ofNat_of_zero_le h8.1
  have hx : (UInt8.ofNat o).toNat = o := by rw [UInt8.toNat_ofNat']; omega
  have ht : took (textL repo.data.toList ++ (textL word.data.toList ++ (d ++ (cnt i1 ++ (cnt i2 ++ (cnt i3 ++ textL body)))))) = ⟨(repo.data.toList, some (textL word.data.toList ++ (d ++ (cnt i1 ++ (cnt i2 ++ (cnt i3 ++ textL body)))))), (word.data.toList, some (d ++ (cnt i1 ++ (cnt i2 ++ (cnt i3 ++ textL body))))), (d, some (cnt i1 ++ (cnt i2 ++ (cnt i3 ++ textL body)))), (i1, some (cnt i2 ++ (cnt i3 ++ textL body))), (i2, some (cnt i3 ++ textL body)), (i3, some (textL body)), (body, some [])⟩ := by
    have e4 : rText 1048576 (some (textL body)) = (body, some []) := by
      have := rText_of (p := body) (m := []) (most := 1048576) (by omega) h5
      rwa [List.append_nil] at this
    unfold took
    simp only []
    rw [rText_of (by rw [str_len]; omega) (by rw [str_len]; omega)]
    simp only []
    rw [rText_of (by rw [str_len]; omega) (by rw [str_len]; omega)]
    simp only []
    rw [rSum_of hd]
    simp only []
    rw [rCount_of (by omega)]
    simp only []
    rw [rCount_of (by omega)]
    simp only []
    rw [rCount_of (by omega)]
    simp only []
    rw [e4]
  have hb : reqB ⟨(o : Int), repo, word, d, i1, i2, i3, body⟩ = UInt8.ofNat o :: (textL repo.data.toList ++ (textL word.data.toList ++ (d ++ (cnt i1 ++ (cnt i2 ++ (cnt i3 ++ textL body)))))) := by
    simp [reqB]
  rw [hb, decReq, if_neg (by rw [hx]; omega), ht, if_pos rfl]
  unfold Took.req
  simp only [str_eta, hx]
theorem dec_out {b : List UInt8} {r : Req} (h : decReq b = some r) : reqOk r = true ∧ reqB r = b ∧ r.d.length = 32 := by
  cases b with
  | nil => cases h
  | cons x l =>
    rw [decReq] at h
    by_cases hbad : x.toNat < 1 ∨ 20 < x.toNat
    · rw [if_pos hbad] at h; cases h
    · rw [if_neg hbad] at h
      by_cases ht4 : (took l).t4.2 = some []
      · rw [if_pos ht4] at h
        injection h with h
        subst h
        obtain ⟨p4, e4⟩ : ∃ p, (took l).t4 = (p, some []) := ⟨_, by rw [← ht4]⟩
        obtain ⟨a4, b4⟩ := rText_out (show rText 1048576 (took l).n3.2 = _ from e4)
        obtain ⟨q3, e3⟩ : ∃ p, (took l).n3 = (p, some (textL p4 ++ [])) := ⟨_, by rw [← a4]⟩
        obtain ⟨a3, b3⟩ := rCount_out (show rCount (took l).n2.2 = _ from e3)
        obtain ⟨q2, e2⟩ : ∃ p, (took l).n2 = (p, some (cnt q3 ++ (textL p4 ++ []))) := ⟨_, by rw [← a3]⟩
        obtain ⟨a2, b2⟩ := rCount_out (show rCount (took l).n1.2 = _ from e2)
        obtain ⟨q1, e1⟩ : ∃ p, (took l).n1 = (p, some (cnt q2 ++ (cnt q3 ++ (textL p4 ++ [])))) := ⟨_, by rw [← a2]⟩
        obtain ⟨a1, b1⟩ := rCount_out (show rCount (took l).t3.2 = _ from e1)
        obtain ⟨d, e0⟩ : ∃ p, (took l).t3 = (p, some (cnt q1 ++ (cnt q2 ++ (cnt q3 ++ (textL p4 ++ []))))) := ⟨_, by rw [← a1]⟩
        obtain ⟨a0, b0⟩ := rSum_out (show rSum (took l).t2.2 = _ from e0)
        obtain ⟨p2, f2⟩ : ∃ p, (took l).t2 = (p, some (d ++ (cnt q1 ++ (cnt q2 ++ (cnt q3 ++ (textL p4 ++ [])))))) := ⟨_, by rw [← a0]⟩
        obtain ⟨c2, d2⟩ := rText_out (show rText 128 (took l).t1.2 = _ from f2)
        obtain ⟨p1, f1⟩ : ∃ p, (took l).t1 = (p, some (textL p2 ++ (d ++ (cnt q1 ++ (cnt q2 ++ (cnt q3 ++ (textL p4 ++ []))))))) := ⟨_, by rw [← c2]⟩
        obtain ⟨c1, d1⟩ := rText_out (show rText 128 (some l) = _ from f1)
        injection c1 with c1
        have hreq : (took l).req x = ⟨x.toNat, ⟨p1.toArray⟩, ⟨p2.toArray⟩, d, q1, q2, q3, p4⟩ := by unfold Took.req; rw [f1, f2, e0, e1, e2, e3, e4]
        rw [hreq]
        refine ⟨reqOk_of (by simp only []; omega) (by simp only []; omega) (by rw [str_mk_size]; omega) (by rw [str_mk_size]; omega) (by simp only []; omega) (by simp [numB]; omega) (by simp [numB]; omega) (by simp [numB]; omega), ?_, b0⟩
        rw [c1]
        simp [reqB]
      · rw [if_neg ht4] at h; cases h
end Go.Proofs.Ytcnjnkkdidpjiaa

namespace Go.Proofs.Ytcnjnkkdidpjiaa
open Go.RowKit

theorem rWords_of : ∀ (ws : List ByteArray) (m : List UInt8), ws.all wordOk = true → rWords ws.length (some (wordsB ws ++ m)) = (ws, some m)
  | [], m, _ => by simp [rWords, wordsB]
  | w :: ws, m, h => by
    simp only [List.all_cons, Bool.and_eq_true] at h
    have hw : w.size ≤ 128 := by simpa [wordOk] using h.1
    have h1 : rText 128 (some (textL w.data.toList ++ (wordsB ws ++ m))) = (w.data.toList, some (wordsB ws ++ m)) := rText_of (by rw [str_len]; omega) (by rw [str_len]; omega)
    rw [List.length_cons, wordsB, List.append_assoc, rWords, h1]
    simp only []
    rw [rWords_of ws m h.2, str_eta]
theorem rSums_of : ∀ (ss : List (List UInt8)) (m : List UInt8), sums32 ss → rSums ss.length (some (ss.flatten ++ m)) = (ss, some m)
  | [], m, _ => by simp [rSums]
  | s :: ss, m, h => by
    have h1 : rSum (some (s ++ (ss.flatten ++ m))) = (s, some (ss.flatten ++ m)) := rSum_of (h s (by simp))
    rw [List.length_cons, List.flatten_cons, List.append_assoc, rSums, h1]
    simp only []
    rw [rSums_of ss m fun u hu => h u (by simp [hu])]
theorem rWords_out : ∀ (n : Nat) (s : Option (List UInt8)) (ws : List ByteArray) (m : List UInt8), rWords n s = (ws, some m) → s = some (wordsB ws ++ m) ∧ ws.all wordOk = true ∧ ws.length = n
  | 0, s, ws, m, h => by
    injection h with h1 h2
    subst h1; subst h2
    exact ⟨by simp [wordsB], rfl, rfl⟩
  | n + 1, none, ws, m, h => by injection h with _ h; cases h
  | n + 1, some l, ws, m, h => by
    rw [rWords] at h
    injection h with h1 h2
    obtain ⟨m1, hm1⟩ : ∃ m1, (rText 128 (some l)).2 = some m1 := by
      cases hq : (rText 128 (some l)).2 with
      | none => rw [hq, rWords_none] at h2; cases h2
      | some m1 => exact ⟨m1, rfl⟩
    obtain ⟨ih1, ih2, ih3⟩ := rWords_out n (some m1) (rWords n (some m1)).1 m (by rw [hm1] at h2; rw [← h2])
    obtain ⟨a, b⟩ := rText_out (show rText 128 (some l) = ((rText 128 (some l)).1, some m1) by rw [← hm1])
    rw [hm1] at h1
    subst h1
    injection ih1 with ih1
    injection a with a
    refine ⟨?_, ?_, by simp [ih3]⟩
    · rw [wordsB, str_mk, List.append_assoc, ← ih1, ← a]
    · rw [List.all_cons, ih2, Bool.and_true]
      unfold wordOk
      rw [str_mk_size]
      exact decide_eq_true (by omega)
theorem rSums_out : ∀ (n : Nat) (s : Option (List UInt8)) (ss : List (List UInt8)) (m : List UInt8), rSums n s = (ss, some m) → s = some (ss.flatten ++ m) ∧ ss.length = n
  | 0, s, ws, m, h => by
    injection h with h1 h2
    subst h1; subst h2
    exact ⟨by simp, rfl⟩
  | n + 1, none, ws, m, h => by injection h with _ h; cases h
  | n + 1, some l, ws, m, h => by
    rw [rSums] at h
    injection h with h1 h2
    obtain ⟨m1, hm1⟩ : ∃ m1, (rSum (some l)).2 = some m1 := by
      cases hq : (rSum (some l)).2 with
      | none => rw [hq, rSums_none] at h2; cases h2
      | some m1 => exact ⟨m1, rfl⟩
    obtain ⟨ih1, ih3⟩ := rSums_out n (some m1) (rSums n (some m1)).1 m (by rw [hm1] at h2; rw [← h2])
    obtain ⟨a, b⟩ := rSum_out (show rSum (some l) = ((rSum (some l)).1, some m1) by rw [← hm1])
    rw [hm1] at h1
    subst h1
    injection ih1 with ih1
    injection a with a
    refine ⟨?_, by simp [ih3]⟩
    rw [List.flatten_cons, List.append_assoc, ← ih1, ← a]

theorem rep_enc {r : Rep} (hok : repOk r = true) (hd : r.d.length = 32) (hs : sums32 r.sums) : decRep (repB r) = some r := by
  obtain ⟨code, d, n, m, body, words, sums⟩ := r
  obtain ⟨h1, h2, h3, h4, h5, h6, h7, h8⟩ := repOk_iff hok
  simp only [] at h1 h2 h3 h4 h5 h6 h7 h8 hd hs
  have h3 := numB_iff h3
  have h4 := numB_iff h4
  obtain ⟨o, rfl⟩ := Int.eq_ofNat_of_zero_le h1
  obtain ⟨i1, rfl⟩ := Int.eq_ofNat_of_zero_le h3.1
  obtain ⟨i2, rfl⟩ := Int.eq_ofNat_of_zero_le h4.1
  have hx : (UInt8.ofNat o).toNat = o := by rw [UInt8.toNat_ofNat']; omega
  have ht : tookP (d ++ (cnt i1 ++ (cnt i2 ++ (textL body ++ (cnt words.length ++ (wordsB words ++ (cnt sums.length ++ sums.flatten))))))) = ⟨(d, some (cnt i1 ++ (cnt i2 ++ (textL body ++ (cnt words.length ++ (wordsB words ++ (cnt sums.length ++ sums.flatten))))))), (i1, some (cnt i2 ++ (textL body ++ (cnt words.length ++ (wordsB words ++ (cnt sums.length ++ sums.flatten)))))), (i2, some (textL body ++ (cnt words.length ++ (wordsB words ++ (cnt sums.length ++ sums.flatten))))), (body, some (cnt words.length ++ (wordsB words ++ (cnt sums.length ++ sums.flatten)))), (words.length, some (wordsB words ++ (cnt sums.length ++ sums.flatten))), (words, some (cnt sums.length ++ sums.flatten)), (sums.length, some sums.flatten), (sums, some [])⟩ := by
    have e4 : rSums sums.length (some sums.flatten) = (sums, some []) := by
      have := rSums_of sums [] hs
      rwa [List.append_nil] at this
    unfold tookP
    simp only []
    rw [rSum_of hd]
    simp only []
    rw [rCount_of (by omega)]
    simp only []
    rw [rCount_of (by omega)]
    simp only []
    rw [rText_of (by omega) h5]
    simp only []
    rw [rCount_of (by omega)]
    simp only []
    rw [rWords_of _ _ h8]
    simp only []
    rw [rCount_of (by omega)]
    simp only []
    rw [e4]
  have hb : repB ⟨(o : Int), d, i1, i2, body, words, sums⟩ = UInt8.ofNat o :: (d ++ (cnt i1 ++ (cnt i2 ++ (textL body ++ (cnt words.length ++ (wordsB words ++ (cnt sums.length ++ sums.flatten))))))) := by
    simp [repB]
  rw [hb, decRep, ht]
  simp only []
  rw [if_neg (by omega), if_neg (by omega), if_pos trivial]
  unfold TookP.rep
  simp only [hx]
theorem rep_out {b : List UInt8} {r : Rep} (h : decRep b = some r) : repOk r = true ∧ repB r = b ∧ r.d.length = 32 ∧ sums32 r.sums := by
  cases b with
  | nil => cases h
  | cons x l =>
    rw [decRep] at h
    by_cases hk : 100 < (tookP l).k.1
    · rw [if_pos hk] at h; cases h
    · rw [if_neg hk] at h
      by_cases hj : 4096 < (tookP l).j.1
      · rw [if_pos hj] at h; cases h
      · rw [if_neg hj] at h
        by_cases hs : (tookP l).ss.2 = some []
        · rw [if_pos hs] at h
          injection h with h
          subst h
          have h32 := tookP_32 l
          obtain ⟨ss, e4⟩ : ∃ p, (tookP l).ss = (p, some []) := ⟨_, by rw [← hs]⟩
          obtain ⟨a4, b4⟩ := rSums_out _ _ _ _ (show rSums (tookP l).j.1 (tookP l).j.2 = _ from e4)
          rw [List.append_nil] at a4
          obtain ⟨j, ej⟩ : ∃ p, (tookP l).j = (p, some ss.flatten) := ⟨_, by rw [← a4]⟩
          obtain ⟨aj, bj⟩ := rCount_out (show rCount (tookP l).ws.2 = _ from ej)
          obtain ⟨ws, ew⟩ : ∃ p, (tookP l).ws = (p, some (cnt j ++ ss.flatten)) := ⟨_, by rw [← aj]⟩
          obtain ⟨aw, bw, cw⟩ := rWords_out _ _ _ _ (show rWords (tookP l).k.1 (tookP l).k.2 = _ from ew)
          obtain ⟨k, ek⟩ : ∃ p, (tookP l).k = (p, some (wordsB ws ++ (cnt j ++ ss.flatten))) := ⟨_, by rw [← aw]⟩
          obtain ⟨ak, bk⟩ := rCount_out (show rCount (tookP l).b.2 = _ from ek)
          obtain ⟨p, ep⟩ : ∃ p, (tookP l).b = (p, some (cnt k ++ (wordsB ws ++ (cnt j ++ ss.flatten)))) := ⟨_, by rw [← ak]⟩
          obtain ⟨ap, bp⟩ := rText_out (show rText 1048576 (tookP l).m.2 = _ from ep)
          obtain ⟨m, em⟩ : ∃ q, (tookP l).m = (q, some (textL p ++ (cnt k ++ (wordsB ws ++ (cnt j ++ ss.flatten))))) := ⟨_, by rw [← ap]⟩
          obtain ⟨am, bm⟩ := rCount_out (show rCount (tookP l).n.2 = _ from em)
          obtain ⟨n, en⟩ : ∃ q, (tookP l).n = (q, some (cnt m ++ (textL p ++ (cnt k ++ (wordsB ws ++ (cnt j ++ ss.flatten)))))) := ⟨_, by rw [← am]⟩
          obtain ⟨an, bn⟩ := rCount_out (show rCount (tookP l).d.2 = _ from en)
          obtain ⟨d, ed⟩ : ∃ q, (tookP l).d = (q, some (cnt n ++ (cnt m ++ (textL p ++ (cnt k ++ (wordsB ws ++ (cnt j ++ ss.flatten))))))) := ⟨_, by rw [← an]⟩
          obtain ⟨ad, bd⟩ := rSum_out (show rSum (some l) = _ from ed)
          injection ad with ad
          have hrep : (tookP l).rep x = ⟨x.toNat, d, n, m, p, ws, ss⟩ := by unfold TookP.rep; rw [ed, en, em, ep, ew, e4]
          rw [hrep]
          have hx := x.toNat_lt
          rw [ek] at hk cw
          rw [ej] at hj b4
          simp only [] at hk hj cw b4
          refine ⟨repOk_of (by simp only []; omega) (by simp only []; omega) (by simp [numB]; omega) (by simp [numB]; omega) (by simp only []; omega) (by simp only []; omega) (by simp only []; omega) bw, ?_, bd, by have := h32.2; rw [e4] at this; exact this⟩
          rw [ad]
          simp [repB, cw, b4]
        · rw [if_neg hs] at h; cases h
end Go.Proofs.Ytcnjnkkdidpjiaa

namespace Go.Proofs.Ytcnjnkkdidpjiaa
open Go.RowKit

theorem RepRd.of {X : List Nat} {w0 w : World} {es : List Ent} (hF : Fr X w0 w es) {r : Rep} {i j k b1 b2 b3 : Nat} {t1 t2 t3 : TypeId} {A B C : Option Addr} {c cb cc n1 n2 n3 : Nat} (hd : r.d.length = 32) (hs : sums32 r.sums)
    (hi : es[i]? = some (.own b1 t1 1 (.slice A r.body.length c) n1 (r.body.map bv))) (hj : es[j]? = some (.own b2 t2 1 (.slice B r.words.length cb) n2 (r.words.map Value.string))) (hk : es[k]? = some (.own b3 t3 32 (.slice C r.sums.length cc) n3 (sumC r.sums))) : RepRd w r A B C :=
  ⟨hd, hF.rdOwn hi, hF.rdOwn hj, hF.rdOwn hk, hs⟩
theorem RepRd.on {w w' : World} {r : Rep} {A B C : Option Addr} (h : RepRd w r A B C) (hb : Below w.heap.size w w') : RepRd w' r A B C := ⟨h.d, h.body.on hb, h.words.on hb, h.sums.on hb, h.each⟩
theorem RepRd.fr {w w' : World} {es : List Ent} {r : Rep} {A B C : Option Addr} (h : RepRd w r A B C) (hF : Fr [] w w' es) : RepRd w' r A B C := h.on hF.below
theorem decRep_d (l : List UInt8) : ((decRep l).getD Rep.zero).d.length = 32 := by
  cases h : decRep l with
  | none => exact zeros_len
  | some r => exact (rep_out h).2.2.1
theorem decRep_32 (l : List UInt8) : sums32 ((decRep l).getD Rep.zero).sums := by
  cases h : decRep l with
  | none => intro s hs; cases hs
  | some r => exact (rep_out h).2.2.2
theorem decRep_bd (l : List UInt8) : ((decRep l).getD Rep.zero).body.length ≤ 1048576 ∧ ((decRep l).getD Rep.zero).words.length ≤ 100 ∧ ((decRep l).getD Rep.zero).sums.length ≤ 4096 := by
  cases h : decRep l with
  | none => exact ⟨Nat.zero_le _, Nat.zero_le _, Nat.zero_le _⟩
  | some r => have := repOk_iff (rep_out h).1; exact ⟨this.2.2.2.2.1, this.2.2.2.2.2.1, this.2.2.2.2.2.2.1⟩
end Go.Proofs.Ytcnjnkkdidpjiaa
