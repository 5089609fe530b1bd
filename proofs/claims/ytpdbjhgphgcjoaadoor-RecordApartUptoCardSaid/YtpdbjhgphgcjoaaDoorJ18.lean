/-
  Layer 14 in plain words: a record's bytes are read as that record, and what is read has just these bytes; the same of heads. No program is named here.
  The walk of the document's ReadCount.
  The walk of the document's ReadText.
  The walk of the document's Get.
-/
import Derived.Test.YtpdbjhgphgcjoaaDoorJ12
import Derived.Test.YtpdbjhgphgcjoaaDoorJ17
import Derived.Test.YtpdbjhgphgcjoaaDoorJ10
namespace Go.Proofs.YtpdbjhgphgcjoaaDoor
open Go.RowKit

theorem getN_putL_from (n : Nat) : ∀ (s a : Nat), (putL n s).foldl (fun m c => m * 256 + c.toNat) a = a * 2 ^ (8 * s) + n % 2 ^ (8 * s)
  | 0, a => by simp [putL, Nat.mod_one]
  | s + 1, a => by
    rw [putL, List.foldl_cons, getN_putL_from n s]
    have h1 : (UInt8.ofNat (n / 2 ^ (8 * s) % 256)).toNat = n / 2 ^ (8 * s) % 256 := by simp
    rw [h1, show 8 * (s + 1) = 8 * s + 8 by omega, Nat.pow_add, show (2 : Nat) ^ 8 = 256 from rfl]
    have h2 : n % (2 ^ (8 * s) * 256) = n % 2 ^ (8 * s) + 2 ^ (8 * s) * (n / 2 ^ (8 * s) % 256) := Nat.mod_mul
    rw [h2, Nat.add_mul, Nat.mul_assoc, Nat.mul_comm 256, Nat.mul_comm (2 ^ (8 * s)) (n / 2 ^ (8 * s) % 256)]
    omega
theorem getN_putL (n s : Nat) : getN (putL n s) = n % 2 ^ (8 * s) := by unfold getN; rw [getN_putL_from, Nat.zero_mul, Nat.zero_add]
theorem getN_put8 {n : Nat} (h : n ≤ 1099511627776) : getN (putL n 8) = n := by rw [getN_putL, Nat.mod_eq_of_lt (by omega)]
theorem foldl_get : ∀ (l : List UInt8) (a : Nat), l.foldl (fun m c => m * 256 + c.toNat) a = a * 2 ^ (8 * l.length) + getN l
  | [], a => by simp [getN]
  | c :: l, a => by
    unfold getN
    rw [List.foldl_cons, List.foldl_cons, foldl_get l, foldl_get l, List.length_cons, show 8 * (l.length + 1) = 8 * l.length + 8 by omega, Nat.pow_add, show (2 : Nat) ^ 8 = 256 from rfl, Nat.zero_mul, Nat.zero_add, Nat.add_mul, Nat.mul_comm (2 ^ (8 * l.length)) 256, ← Nat.mul_assoc, Nat.add_assoc]
theorem putL_add (n q : Nat) : ∀ k, putL (q * 2 ^ (8 * k) + n) k = putL n k
  | 0 => rfl
  | k + 1 => by
    rw [putL, putL]
    have e : q * 2 ^ (8 * (k + 1)) = (q * 256) * 2 ^ (8 * k) := by rw [show 8 * (k + 1) = 8 + 8 * k by omega, Nat.pow_add, ← Nat.mul_assoc]
    rw [e, putL_add n (q * 256) k, Nat.add_comm (q * 256 * 2 ^ (8 * k)) n, Nat.add_mul_div_right _ _ (Nat.two_pow_pos _)]
    congr 2
    omega
theorem putL_getN : ∀ (l : List UInt8), putL (getN l) l.length = l
  | [] => rfl
  | c :: l => by
    have h1 : getN (c :: l) = c.toNat * 2 ^ (8 * l.length) + getN l := by
      show (c :: l).foldl _ 0 = _
      rw [List.foldl_cons, foldl_get]; simp
    have hlt := getN_lt l.length l (Nat.le_refl _)
    rw [h1, List.length_cons, putL, putL_add, putL_getN l]
    congr 1
    rw [Nat.add_comm, Nat.add_mul_div_right _ _ (Nat.two_pow_pos _), Nat.div_eq_of_lt hlt, Nat.zero_add, Nat.mod_eq_of_lt c.toNat_lt]
    simp
theorem putL_get8 {l : List UInt8} (h : l.length = 8) : putL (getN l) 8 = l := by rw [← h]; exact putL_getN l
theorem rdt_of {p m : List UInt8} (h : p.length ≤ 128) : rdt (textL p ++ m) 128 = (p, (textL p).length, 0) := by
  have hb := rdc_back p.length (p ++ m) (by omega)
  unfold rdt textL
  rw [List.append_assoc, hb]
  simp only []
  rw [if_neg (by decide), if_neg (by omega), if_neg (by simp only [List.length_append]; omega)]
  simp
theorem rdt_text {l : List UInt8} {most : Int} (h : (rdt l most).2.2 = 0) : l = textL (rdt l most).1 ++ l.drop (rdt l most).2.1 := by
  have hu := rdc_used l 0 0
  have hc := rdc_cnt (l := l)
  obtain ⟨hw⟩ := rdt_way (l := l) (n := l.length) rfl most
  generalize (rdc 0 0 l).1 = x at *
  generalize (rdc 0 0 l).2.1 = u at *
  generalize (rdc 0 0 l).2.2 = er at *
  generalize rdt l most = r at *
  rcases hw with ⟨h0, rfl⟩ | ⟨rfl, hu, ⟨h1, rfl⟩ | ⟨h1, ⟨h2, rfl⟩ | ⟨h2, rfl⟩⟩⟩
  · exact absurd h h0
  · simp at h
  · simp at h
  · obtain ⟨hc1, hc2⟩ := hc rfl
    have hlen : ((l.drop u).take x).length = x := by rw [List.length_take, List.length_drop]; omega
    simp only []
    rw [textL, hlen, hc1, List.append_assoc]
    conv => lhs; rw [← List.take_append_drop u l]
    congr 1
    rw [Nat.add_comm, ← List.drop_drop, List.drop_drop, Nat.add_comm x u, ← List.drop_drop, List.take_append_drop]

/-- What the document reads, behind the two texts. -/
def recY (k : Int) (repo tag rest l : List UInt8) : Rec × Int :=
  if rest.length < 8 then recF else
    if getN (rest.drop (rest.length - 8)) ≤ 1099511627776 then
      if recOk ⟨k, ⟨repo.toArray⟩, ⟨tag.toArray⟩, if k = 1 then rest.take 32 ++ zeros.drop rest.length else zeros, (getN (rest.drop (rest.length - 8)) : Int)⟩ = true then
        if recB ⟨k, ⟨repo.toArray⟩, ⟨tag.toArray⟩, if k = 1 then rest.take 32 ++ zeros.drop rest.length else zeros, (getN (rest.drop (rest.length - 8)) : Int)⟩ = l then
          (⟨k, ⟨repo.toArray⟩, ⟨tag.toArray⟩, if k = 1 then rest.take 32 ++ zeros.drop rest.length else zeros, (getN (rest.drop (rest.length - 8)) : Int)⟩, 0)
        else recF
      else recF
    else recF
theorem recB_eq (x : UInt8) (repo tag rest d : List UInt8) (t : Nat) :
    recB ⟨(x.toNat : Int), ⟨repo.toArray⟩, ⟨tag.toArray⟩, d, (t : Int)⟩ = [x] ++ textL repo ++ textL tag ++ rest ↔ (if (x.toNat : Int) = 1 then d else []) ++ putL t 8 = rest := by
  unfold recB
  simp only [Int.toNat_natCast, List.append_assoc]
  rw [show UInt8.ofNat x.toNat = x by simp]
  simp
theorem fill_len (rest : List UInt8) : (rest.take 32 ++ zeros.drop rest.length).length = 32 := by
  rw [List.length_append, List.length_take, List.length_drop, zeros_32]; omega
theorem recY_eq (x : UInt8) (repo tag rest : List UInt8) : recY (x.toNat : Int) repo tag rest ([x] ++ textL repo ++ textL tag ++ rest) = recM (x.toNat : Int) repo tag rest := by
  unfold recY recM
  simp only [recB_eq]
  generalize (x.toNat : Int) = k
  by_cases k1 : k = 1
  · subst k1
    simp only [if_true]
    by_cases h40 : rest.length = 40
    · rw [if_neg (show ¬ rest.length < 8 by omega), if_pos (show 32 ≤ rest.length by omega)]
      unfold recT
      have h8 : (rest.drop 32).length = 8 := by rw [List.length_drop]; omega
      have hz : zeros.drop rest.length = [] := List.drop_of_length_le (by rw [zeros_32]; omega)
      rw [if_pos h8, show rest.length - 8 = 32 by omega, hz, List.append_nil, putL_get8 h8, List.take_append_drop]
      simp only [if_true]
    · have hne : ∀ t : Nat, ¬ rest.take 32 ++ zeros.drop rest.length ++ putL t 8 = rest := fun t he => by
        have := congrArg List.length he
        rw [List.length_append, fill_len, putL_len] at this
        omega
      have hR : (if 32 ≤ rest.length then recT 1 repo tag (rest.take 32) (rest.drop 32) else recF) = recF := by
        split
        · unfold recT; rw [if_neg (by rw [List.length_drop]; omega)]
        · rfl
      rw [hR]
      simp only [hne, if_false]
      repeat' split
      all_goals rfl
  · simp only [if_neg k1]
    simp only [List.nil_append]
    unfold recT
    by_cases h8 : rest.length = 8
    · rw [if_neg (by omega), if_pos h8, show rest.length - 8 = 0 by omega, List.drop_zero, putL_get8 h8]
      simp only [if_true]
    · have hne : ∀ t : Nat, ¬ putL t 8 = rest := fun t he => by
        have := congrArg List.length he
        rw [putL_len] at this
        omega
      rw [if_neg h8]
      simp only [hne, if_false]
      repeat' split
      all_goals rfl
/-- What any bytes are, as they are cut. -/
theorem rec_parts {x : UInt8} {l : List UInt8} (hx : l[0]? = some x) (h1 : (rdt (l.drop 1) 128).2.2 = 0) (h2 : (rdt (l.drop (1 + (rdt (l.drop 1) 128).2.1)) 128).2.2 = 0) :
    l = [x] ++ textL (rdt (l.drop 1) 128).1 ++ textL (rdt (l.drop (1 + (rdt (l.drop 1) 128).2.1)) 128).1 ++ l.drop (1 + (rdt (l.drop 1) 128).2.1 + (rdt (l.drop (1 + (rdt (l.drop 1) 128).2.1)) 128).2.1) := by
  have t1 := rdt_text h1
  have t2 := rdt_text h2
  cases l with
  | nil => cases hx
  | cons y l =>
    injection hx with hx
    subst hx
    rw [List.drop_drop] at t1
    rw [List.drop_drop] at t2
    rw [List.append_assoc, List.append_assoc, ← t2, ← t1]
    rfl
/-- What the document reads. -/
def recX (l : List UInt8) : Rec × Int :=
  match l[0]? with
  | none => recF
  | some x =>
    if (rdt (l.drop 1) 128).2.2 = 0 then
      if (rdt (l.drop (1 + (rdt (l.drop 1) 128).2.1)) 128).2.2 = 0 then
        recY (x.toNat : Int) (rdt (l.drop 1) 128).1 (rdt (l.drop (1 + (rdt (l.drop 1) 128).2.1)) 128).1 (l.drop (1 + (rdt (l.drop 1) 128).2.1 + (rdt (l.drop (1 + (rdt (l.drop 1) 128).2.1)) 128).2.1)) l
      else recF
    else recF
theorem recX_eq (l : List UInt8) : recX l = recD l := by
  unfold recX recD
  cases hx : l[0]? with
  | none => rfl
  | some x =>
    simp only []
    by_cases h1 : (rdt (l.drop 1) 128).2.2 = 0
    · rw [if_pos h1, if_pos h1]
      by_cases h2 : (rdt (l.drop (1 + (rdt (l.drop 1) 128).2.1)) 128).2.2 = 0
      · rw [if_pos h2, if_pos h2, ← recY_eq, ← rec_parts hx h1 h2]
      · rw [if_neg h2, if_neg h2]
    · rw [if_neg h1, if_neg h1]
theorem recY_out {k : Int} {repo tag rest l : List UInt8} : (recY k repo tag rest l).2 = 0 ∧ recOk (recY k repo tag rest l).1 = true ∧ recB (recY k repo tag rest l).1 = l ∧ (recY k repo tag rest l).1.d.length = 32 ∨ recY k repo tag rest l = recF := by
  unfold recY
  have hlen : (if k = 1 then rest.take 32 ++ zeros.drop rest.length else zeros).length = 32 := by
    split
    · exact fill_len _
    · exact zeros_32
  generalize (if k = 1 then rest.take 32 ++ zeros.drop rest.length else zeros) = d at *
  split
  · exact .inr rfl
  · split
    · split
      · rename_i hok
        split
        · rename_i hb
          exact .inl ⟨rfl, hok, hb, hlen⟩
        · exact .inr rfl
      · exact .inr rfl
    · exact .inr rfl
/-- What is read has just these bytes. -/
theorem recD_out (l : List UInt8) : (recD l).2 = 0 ∧ recOk (recD l).1 = true ∧ recB (recD l).1 = l ∧ (recD l).1.d.length = 32 ∨ recD l = recF := by
  rw [← recX_eq]
  unfold recX
  split
  · exact .inr rfl
  · split
    · split
      · exact recY_out
      · exact .inr rfl
    · exact .inr rfl
/-- A record is read back from its bytes. -/
theorem recD_back {r : Rec} (hd : r.d.length = 32) (h : recOk r = true) : recD (recB r) = (r, 0) := by
  obtain ⟨hk, hr, ht, h0, h1⟩ := recOk_iff h
  obtain ⟨kind, repo, tag, d, t⟩ := r
  simp only [] at hd hr ht h0 h1
  obtain ⟨i, rfl⟩ := Int.eq_ofNat_of_zero_le h0
  have hrs := repo_size hr
  have hts := tag_size ht
  have hkk : kind = 1 ∨ kind = 2 ∧ d = zeros := by simpa only [kindB, Bool.or_eq_true, Bool.and_eq_true, beq_iff_eq] using hk
  have hi : i ≤ 1099511627776 := by omega
  obtain ⟨k, rfl, hk12⟩ : ∃ k : Nat, kind = (k : Int) ∧ (k = 1 ∨ k = 2 ∧ d = zeros) := by
    rcases hkk with rfl | ⟨rfl, hz⟩
    · exact ⟨1, rfl, .inl rfl⟩
    · exact ⟨2, rfl, .inr ⟨rfl, hz⟩⟩
  have hx : (UInt8.ofNat k).toNat = k := by rcases hk12 with rfl | ⟨rfl, _⟩ <;> rfl
  have e : recB ⟨(k : Int), repo, tag, d, (i : Int)⟩ = UInt8.ofNat k :: (textL repo.data.toList ++ (textL tag.data.toList ++ ((if (k : Int) = 1 then d else []) ++ putL i 8))) := by
    unfold recB
    simp only [Int.toNat_natCast, List.append_assoc]
    rfl
  have e1 : (recB ⟨(k : Int), repo, tag, d, (i : Int)⟩).drop 1 = textL repo.data.toList ++ (textL tag.data.toList ++ ((if (k : Int) = 1 then d else []) ++ putL i 8)) := by rw [e]; rfl
  have e2 : (recB ⟨(k : Int), repo, tag, d, (i : Int)⟩).drop (1 + (textL repo.data.toList).length) = textL tag.data.toList ++ ((if (k : Int) = 1 then d else []) ++ putL i 8) := by
    rw [← List.drop_drop, e1, List.drop_left]
  have e3 : (recB ⟨(k : Int), repo, tag, d, (i : Int)⟩).drop (1 + (textL repo.data.toList).length + (textL tag.data.toList).length) = (if (k : Int) = 1 then d else []) ++ putL i 8 := by
    rw [← List.drop_drop, e2, List.drop_left]
  have r1 := rdt_of (p := repo.data.toList) (m := textL tag.data.toList ++ ((if (k : Int) = 1 then d else []) ++ putL i 8)) hrs
  have r2 := rdt_of (p := tag.data.toList) (m := (if (k : Int) = 1 then d else []) ++ putL i 8) hts
  have hx0 : (recB ⟨(k : Int), repo, tag, d, (i : Int)⟩)[0]? = some (UInt8.ofNat k) := by rw [e]; rfl
  unfold recD
  rw [hx0]
  simp only [e1, r1, e2, r2, e3, if_true, hx]
  have heta : ∀ s : ByteArray, (⟨s.data.toList.toArray⟩ : ByteArray) = s := str_eta
  have T : ∀ d', d' = d → recT (k : Int) repo.data.toList tag.data.toList d' (putL i 8) = (⟨(k : Int), repo, tag, d, (i : Int)⟩, 0) := fun d' hd' => by
    subst hd'
    unfold recT
    rw [if_pos (putL_len _ _), getN_put8 hi, if_pos hi, heta, heta, if_pos h]
  unfold recM
  rcases hk12 with rfl | ⟨rfl, rfl⟩
  · have l1 : (if ((1 : Nat) : Int) = 1 then d else []) = d := if_pos rfl
    rw [l1, if_pos (show ((1 : Nat) : Int) = 1 from rfl), if_pos (by rw [List.length_append]; omega), List.take_left' hd, List.drop_left' hd]
    exact T d rfl
  · have l1 : (if ((2 : Nat) : Int) = 1 then zeros else []) = [] := if_neg (by decide)
    rw [l1, if_neg (show ¬ ((2 : Nat) : Int) = 1 by decide), List.nil_append]
    exact T zeros rfl
/-- A head is read back from its bytes. -/
theorem hdD_back {h : Hd} (hr : h.root.length = 32) (ho : hdOk h = true) : hdD (hdB h) = (h, 0) := by
  obtain ⟨h1, h2, h3, h4⟩ := hdOk_iff ho
  obtain ⟨s, root, t⟩ := h
  simp only [] at hr h1 h2 h3 h4
  obtain ⟨a, rfl⟩ := Int.eq_ofNat_of_zero_le h1
  obtain ⟨b, rfl⟩ := Int.eq_ofNat_of_zero_le h3
  have ha : a ≤ 1048576 := by omega
  have hb : b ≤ 1099511627776 := by omega
  have e : hdB ⟨(a : Int), root, (b : Int)⟩ = 7 :: (putL a 8 ++ (root ++ putL b 8)) := by
    unfold hdB; simp only [Int.toNat_natCast, List.append_assoc]; rfl
  have pa := putL_len a 8
  have pb := putL_len b 8
  have hlen : (hdB ⟨(a : Int), root, (b : Int)⟩).length = 49 := by rw [e]; simp only [List.length_cons, List.length_append]; omega
  have n1 : hdN (hdB ⟨(a : Int), root, (b : Int)⟩) = a := by
    unfold hdN
    rw [e, show (9 : Nat) = 8 + 1 from rfl, List.take_succ_cons, List.drop_succ_cons, List.drop_zero, List.take_left' pa]
    exact getN_put8 (by omega)
  have n2 : hdT (hdB ⟨(a : Int), root, (b : Int)⟩) = b := by
    unfold hdT
    rw [List.take_of_length_le (by omega), e, show (41 : Nat) = 40 + 1 from rfl, List.drop_succ_cons, show (40 : Nat) = 8 + 32 from rfl, ← List.drop_drop, List.drop_left' pa, List.drop_left' hr]
    exact getN_put8 hb
  have n3 : hdR (hdB ⟨(a : Int), root, (b : Int)⟩) = root := by
    unfold hdR
    rw [e, show (41 : Nat) = 40 + 1 from rfl, List.take_succ_cons, show (9 : Nat) = 8 + 1 from rfl, List.drop_succ_cons, List.drop_take, List.drop_left' pa, show 40 - 8 = 32 from rfl, List.take_left' hr]
  unfold hdD
  rw [if_pos hlen, if_pos (by rw [e]; rfl), n1, n2, n3, if_pos ha, if_pos hb]
theorem hdD_root (l : List UInt8) : (hdD l).1.root.length = 32 := by
  unfold hdD
  split
  · repeat' split
    all_goals first | exact zeros_32 | (show (hdR l).length = 32; unfold hdR; simp only [List.length_drop, List.length_take]; omega)
  · exact zeros_32
theorem hdD_code (l : List UInt8) : (hdD l).2 = 0 ∨ (hdD l).2 = 10 := by
  unfold hdD
  repeat' split
  all_goals first | exact .inl rfl | exact .inr rfl
/-- A record's bytes are no head's. -/
theorem hdD_rec {r : Rec} (h : recOk r = true) : hdD (recB r) = (Hd.zero, 10) := by
  obtain ⟨hk, _⟩ := recOk_iff h
  have hkk : r.kind = 1 ∨ r.kind = 2 ∧ r.d = zeros := by simpa only [kindB, Bool.or_eq_true, Bool.and_eq_true, beq_iff_eq] using hk
  have hx : ∃ x, (recB r)[0]? = some x ∧ x ≠ 7 := by
    refine ⟨UInt8.ofNat r.kind.toNat, by unfold recB; simp, ?_⟩
    rcases hkk with h | ⟨h, _⟩ <;> rw [h] <;> decide
  obtain ⟨x, hx, h7⟩ := hx
  unfold hdD
  split
  · rw [if_neg (by rw [hx]; simpa using h7)]
  · rfl
/-- Two records with one list of bytes are one. -/
theorem recB_inj {r s : Rec} (hr : r.d.length = 32) (hs : s.d.length = 32) (h1 : recOk r = true) (h2 : recOk s = true) (h : recB r = recB s) : r = s := by
  have e1 := recD_back hr h1
  have e2 := recD_back hs h2
  rw [h, e2] at e1
  injection e1 with e1
  exact e1.symm
end Go.Proofs.YtpdbjhgphgcjoaaDoor

namespace Go.Proofs.YtpdbjhgphgcjoaaDoor
open Go.RowKit

set_option maxRecDepth 20000 in
set_option maxHeartbeats 800000 in
theorem rreadCount_any (A : Option Addr) (n c : Nat) (l : List UInt8) (w : World) (hm : n ≤ 9223372036854775807) (hr : Rd w (· < w.heap.size) A 1 n (l.map bv)) :
    Calls Tryd.prog 43 #[.slice A n c] w fun e w' => e = .returned (.tuple #[.int .u64 (rdc 0 0 l).1, .int .i64 (rdc 0 0 l).2.1, .int .i64 (rdc 0 0 l).2.2]) ∧ w = w' := by
  have hl := box hr.bytes_len
  go_enter Tryd.func43, Tryd.ntmps43
  go_wp2
  go_loop [5, 6] (fun x i => ∃ k C : Nat, k ≤ 9 ∧ k ≤ n ∧ Box (RdcAt l k C) ∧ i = .int .i64 k ∧ x = .int .u64 (C : Nat)) (fun _ i => n - (intOf i).toNat)
  case atStart => exact ⟨0, 0, by omega, by omega, box ⟨by omega, by simp, by simp⟩, rfl, rfl⟩
  case round =>
    obtain ⟨k, C, hk9, hk, HR, rfl, rfl⟩ := hrel
    by_cases hlt : k < n
    · obtain ⟨d, hd⟩ : ∃ d, l[k]? = some d := ⟨l[k]'(by have := hl.out; omega), by simp⟩
      have hs := rdc_step HR.out hd
      replace hd := box hd
      have dlt : d.toNat < 256 := d.toNat_lt
      have hz : ((d.toNat : Int) == 0) = true ∧ Box (d.toNat = 0) ∨ ((d.toNat : Int) == 0) = false ∧ Box (d.toNat ≠ 0) := by
        by_cases h0 : d.toNat = 0
        · exact .inl ⟨by simp [h0], box h0⟩
        · exact .inr ⟨by simp; omega, box h0⟩
      have h9 : ((k : Int) == 9) = true ∧ Box (k = 9) ∨ ((k : Int) == 9) = false ∧ Box (k ≠ 9) := by
        by_cases h0 : k = 9
        · exact .inl ⟨by simp; omega, box h0⟩
        · exact .inr ⟨by simp; omega, box h0⟩
      by_cases hA : (k = 9 ∧ 1 < d.toNat) ∨ (0 < k ∧ d.toNat = 0)
      · rw [if_pos hA] at hs
        replace hs := box hs
        replace hA := box hA
        rcases hz with ⟨hz, hz'⟩ | ⟨hz, hz'⟩ <;> rcases h9 with ⟨h9, h9'⟩ | ⟨h9, h9'⟩
        · have hk0 : 0 < (k : Int) := by have := h9'.out; omega
          have h1 : ¬ 1 < (d.toNat : Int) := by have := hz'.out; omega
          go_wp2_with (first | (with_reducible refine lst (by with_unfolding_all rfl) (wp_indexAddr T_u8 hr (by with_unfolding_all exact ⟨_, _, _, _, rfl, rfl, rfl⟩) (by omega) (by omega) ?_)) | (with_reducible refine lst (by with_unfolding_all rfl) (wp_loadC hr hd Tryd.underlying5 rfl (by with_unfolding_all exact ⟨_, rfl, rfl⟩) (by first | (simp; done) | (simp; omega) | omega) ?_)))
          go_ret3
          exact ⟨by rw [hs.out]; rfl, rfl⟩
        · have hk0 : 0 < (k : Int) := by
            rcases hA.out with h | h
            · exact absurd h.1 h9'.out
            · omega
          go_wp2_with (first | (with_reducible refine lst (by with_unfolding_all rfl) (wp_indexAddr T_u8 hr (by with_unfolding_all exact ⟨_, _, _, _, rfl, rfl, rfl⟩) (by omega) (by omega) ?_)) | (with_reducible refine lst (by with_unfolding_all rfl) (wp_loadC hr hd Tryd.underlying5 rfl (by with_unfolding_all exact ⟨_, rfl, rfl⟩) (by first | (simp; done) | (simp; omega) | omega) ?_)))
          go_ret3
          exact ⟨by rw [hs.out]; rfl, rfl⟩
        · have h1 : 1 < (d.toNat : Int) := by
            rcases hA.out with h | h
            · omega
            · exact absurd h.2 hz'.out
          go_wp2_with (first | (with_reducible refine lst (by with_unfolding_all rfl) (wp_indexAddr T_u8 hr (by with_unfolding_all exact ⟨_, _, _, _, rfl, rfl, rfl⟩) (by omega) (by omega) ?_)) | (with_reducible refine lst (by with_unfolding_all rfl) (wp_loadC hr hd Tryd.underlying5 rfl (by with_unfolding_all exact ⟨_, rfl, rfl⟩) (by first | (simp; done) | (simp; omega) | omega) ?_)))
          go_ret3
          exact ⟨by rw [hs.out]; rfl, rfl⟩
        · exact absurd hA.out (fun h => h.elim (fun h => h9'.out h.1) (fun h => hz'.out h.2))
      · rw [if_neg hA] at hs
        obtain ⟨T, hT⟩ : ∃ T, T = d.toNat % 128 * 2 ^ (7 * k) := ⟨_, rfl⟩
        rw [← hT] at hs
        have hT1 := (rdc_shift d k T hk9 (fun h => by omega) hT).1
        have hO := rdc_add C T (rdc_sum HR.out.2.1 hk9 (fun h => by omega) hT)
        replace hT := box hT
        by_cases hd8 : d.toNat < 128
        · rw [if_pos hd8] at hs
          replace hs := box hs
          replace hA := box hA
          rcases hz with ⟨hz, hz'⟩ | ⟨hz, hz'⟩ <;> rcases h9 with ⟨h9, h9'⟩ | ⟨h9, h9'⟩
          · exact absurd (Or.inr ⟨by have := h9'.out; omega, hz'.out⟩) hA.out
          · have hk0 : ¬ 0 < (k : Int) := fun h => hA.out (.inr ⟨by omega, hz'.out⟩)
            go_wp2_with (first | (with_reducible refine lst (by with_unfolding_all rfl) (wp_indexAddr T_u8 hr (by with_unfolding_all exact ⟨_, _, _, _, rfl, rfl, rfl⟩) (by omega) (by omega) ?_)) | (with_reducible refine lst (by with_unfolding_all rfl) (wp_loadC hr hd Tryd.underlying5 rfl (by with_unfolding_all exact ⟨_, rfl, rfl⟩) (by first | (simp; done) | (simp; omega) | omega) ?_)))
            go_ret3
            exact ⟨by rw [hs.out]; rfl, rfl⟩
          · have h1 : ¬ 1 < (d.toNat : Int) := fun h => hA.out (.inl ⟨h9'.out, by omega⟩)
            go_wp2_with (first | (with_reducible refine lst (by with_unfolding_all rfl) (wp_indexAddr T_u8 hr (by with_unfolding_all exact ⟨_, _, _, _, rfl, rfl, rfl⟩) (by omega) (by omega) ?_)) | (with_reducible refine lst (by with_unfolding_all rfl) (wp_loadC hr hd Tryd.underlying5 rfl (by with_unfolding_all exact ⟨_, rfl, rfl⟩) (by first | (simp; done) | (simp; omega) | omega) ?_)))
            all_goals go_ret3
            all_goals exact ⟨by rw [hs.out]; rfl, rfl⟩
          · go_wp2_with (first | (with_reducible refine lst (by with_unfolding_all rfl) (wp_indexAddr T_u8 hr (by with_unfolding_all exact ⟨_, _, _, _, rfl, rfl, rfl⟩) (by omega) (by omega) ?_)) | (with_reducible refine lst (by with_unfolding_all rfl) (wp_loadC hr hd Tryd.underlying5 rfl (by with_unfolding_all exact ⟨_, rfl, rfl⟩) (by first | (simp; done) | (simp; omega) | omega) ?_)))
            all_goals go_ret3
            all_goals exact ⟨by rw [hs.out]; rfl, rfl⟩
        · rw [if_neg hd8] at hs
          have hkn : k + 1 ≤ 9 := by omega
          have h9 : ((k : Int) == 9) = false := by simp; omega
          have hz : ((d.toNat : Int) == 0) = false := by simp; omega
          replace hs : Box (RdcAt l (k + 1) (C + T)) := box ⟨hkn, rdc_next HR.out.2.1 hT.out, hs⟩
          replace hA := box hA
          go_wp2_with (first | (with_reducible refine lst (by with_unfolding_all rfl) (wp_indexAddr T_u8 hr (by with_unfolding_all exact ⟨_, _, _, _, rfl, rfl, rfl⟩) (by omega) (by omega) ?_)) | (with_reducible refine lst (by with_unfolding_all rfl) (wp_loadC hr hd Tryd.underlying5 rfl (by with_unfolding_all exact ⟨_, rfl, rfl⟩) (by first | (simp; done) | (simp; omega) | omega) ?_)))
          all_goals
            go_round
            case rel => exact ⟨k + 1, C + T, hkn, by omega, hs, by go_num, by go_num⟩
            case measure => simp [intOf]; omega
    · have hs := HR.out.2.2
      rw [List.drop_of_length_le (by have := hl.out; omega), rdc] at hs
      replace hs := box hs
      go_wp2
      go_ret3
      exact ⟨by rw [hs.out]; rfl, rfl⟩
end Go.Proofs.YtpdbjhgphgcjoaaDoor

namespace Go.Proofs.YtpdbjhgphgcjoaaDoor
open Go.RowKit

set_option maxRecDepth 20000 in
set_option maxHeartbeats 800000 in
theorem rreadText_any (A : Option Addr) (n c : Nat) (l : List UInt8) (most : Int) (w : World) (hm : n ≤ 140737488355000) (hmo : most ≤ 9223372036854775807) (hr : Rd w (· < w.heap.size) A 1 n (l.map bv)) :
    Calls Tryd.prog 33 #[.slice A n c, .int .i64 most] w fun e w' => ∃ v, e = .returned (.tuple #[v, .int .i64 (rdt l most).2.1, .int .i64 (rdt l most).2.2]) ∧ OwnB w' w.heap.size 5 v (rdt l most).1 ∧ Below w.heap.size w w' := by
  have hrc := box (rreadCount_any A n c l w (by omega) hr)
  have hl := box hr.bytes_len
  have hway := rdt_way hr.bytes_len most
  have h64 := box (rdc_lt l)
  have herr := rdc_err l 0 0
  generalize (rdc 0 0 l).1 = x at *
  generalize (rdc 0 0 l).2.1 = u at *
  generalize (rdc 0 0 l).2.2 = er at *
  generalize rdt l most = r at *
  have herr' : er ≤ 10 := by omega
  clear herr
  rcases hway.way with ⟨h0, rfl⟩ | ⟨rfl, hu, ⟨h1, rfl⟩ | ⟨h1, ⟨h2, rfl⟩ | ⟨h2, rfl⟩⟩⟩
  · clear hway
    have hne : ((er : Int) != 0) = true := by simp; omega
    go_enter Tryd.func33, Tryd.ntmps33
    go_wp2_with fail
    refine hrc.out.mono ?_
    rintro e w1 ⟨rfl, rfl⟩
    go_wp2
    go_ret3
    exact ⟨_, rfl, OwnB.nil _ _ _, Below.refl _ _⟩
  · clear hway
    by_cases hmn : most < 0
    all_goals
      go_enter Tryd.func33, Tryd.ntmps33
      go_wp2_with fail
      refine hrc.out.mono ?_
      rintro e w1 ⟨rfl, rfl⟩
      go_wp2
      go_ret3
      exact ⟨_, rfl, OwnB.nil _ _ _, Below.refl _ _⟩
  · clear hway
    have hmn : ¬ most < 0 := by omega
    go_enter Tryd.func33, Tryd.ntmps33
    go_wp2_with fail
    refine hrc.out.mono ?_
    rintro e w1 ⟨rfl, rfl⟩
    go_wp2
    go_ret3
    exact ⟨_, rfl, OwnB.nil _ _ _, Below.refl _ _⟩
  · clear hway
    have hmn : ¬ most < 0 := by omega
    go_enter Tryd.func33, Tryd.ntmps33
    go_wp2_with fail
    refine hrc.out.mono ?_
    rintro e w1 ⟨rfl, rfl⟩
    go_wp2
    go_loopw [10, 11] (fun v i wr => ∃ k : Nat, k ≤ x ∧ i = .int .i64 k ∧ OwnB wr w.heap.size 5 v ((l.drop u).take k) ∧ Below w.heap.size w wr ∧ w.heap.size ≤ wr.heap.size) (fun _ i _ => x - (intOf i).toNat)
    case atStart => exact ⟨0, by omega, rfl, OwnB.nil _ _ _, Below.refl _ _, Nat.le_refl _⟩
    case round =>
      obtain ⟨k, hk, rfl, hown, hb, hB⟩ := hrel
      have hr' := hr.below hb
      have hroom : ((l.drop u).take k).length + 1 ≤ 140737488355328 := by rw [List.length_take]; omega
      by_cases hlt : k < x
      · obtain ⟨d, hd⟩ : ∃ d, l[u + k]? = some d := ⟨l[u + k]'(by have := hl.out; omega), by simp⟩
        have hd2 : (l.drop u)[k]? = some d := by rw [List.getElem?_drop]; exact hd
        have dlt : d.toNat < 256 := d.toNat_lt
        replace hd := box hd
        replace hd2 := box hd2
        go_wp2_with (first | (at_builtin; go_must (with_reducible refine lst (by with_unfolding_all rfl) (wp_appB1 T_u8 hown hb (by with_unfolding_all exact ⟨_, _, rfl, rfl, rfl⟩) hroom hB ?_ ?_); exact byte_of (by omega) (by omega); intro v' w1 c hc hown1 hb1 hB1)) | (with_reducible refine lst (by with_unfolding_all rfl) (wp_indexAddr T_u8 hr' (by with_unfolding_all exact ⟨_, _, _, _, rfl, rfl, rfl⟩) (by omega) (by omega) ?_)) | (with_reducible refine lst (by with_unfolding_all rfl) (wp_loadC hr' hd Tryd.underlying5 rfl (by with_unfolding_all exact ⟨_, rfl, rfl⟩) (by first | (simp; done) | (simp; omega) | omega) ?_)))
        go_roundw
        have hcd := byte_eq hc
        subst hcd
        case rel => exact ⟨k + 1, by omega, by go_num, by rw [take_snoc hd2.out]; exact hown1, hb1, hB1⟩
        case measure => simp [intOf]; omega
      · go_wp2
        go_ret3
        obtain rfl : k = x := by omega
        exact ⟨_, ret3 rfl (int_eq (by simp)) rfl, hown, hb⟩
end Go.Proofs.YtpdbjhgphgcjoaaDoor

namespace Go.Proofs.YtpdbjhgphgcjoaaDoor
open Go.RowKit

set_option maxRecDepth 20000 in
set_option maxHeartbeats 400000 in
theorem rget_any (A : Option Addr) (n c : Nat) (l : List UInt8) (w : World) (hm : n ≤ 9223372036854775807) (hr : Rd w (· < w.heap.size) A 1 n (l.map bv)) :
    Calls Tryd.prog 34 #[.slice A n c] w fun e w' => e = .returned (.tuple #[.int .u64 (if n ≤ 8 then (getN l : Nat) else 0 : Nat), .bool (decide (n ≤ 8))]) ∧ w = w' := by
  have hl := box hr.bytes_len
  by_cases h8 : n ≤ 8
  · rw [if_pos h8, decide_eq_true h8]
    go_enter Tryd.func34, Tryd.ntmps34
    go_wp2
    go_loop [4, 5] (fun x i => ∃ k : Nat, k ≤ n ∧ i = .int .i64 k ∧ x = .int .u64 (getN (l.take k))) (fun _ i => n - (intOf i).toNat)
    case atStart => exact ⟨0, by omega, rfl, rfl⟩
    case round =>
      obtain ⟨k, hk, rfl, rfl⟩ := hrel
      by_cases hlt : k < n
      · obtain ⟨d, hd⟩ : ∃ d, l[k]? = some d := ⟨l[k]'(by have := hl.out; omega), by simp⟩
        obtain ⟨C, hC⟩ : ∃ C, C = getN (l.take k) := ⟨_, rfl⟩
        have hx := getN_next (show k < 8 by omega) hd
        rw [← hC] at hx ⊢
        have dlt : d.toNat < 256 := d.toNat_lt
        have hg := get_mul C d hx.2.1
        replace hd := box hd
        replace hx := box hx
        replace hC := box hC
        obtain ⟨hg1, hg2, hg3⟩ := hg
        go_wp2_with (first | (with_reducible refine lst (by with_unfolding_all rfl) (wp_indexAddr T_u8 hr (by with_unfolding_all exact ⟨_, _, _, _, rfl, rfl, rfl⟩) (by omega) (by omega) ?_)) | (with_reducible refine lst (by with_unfolding_all rfl) (wp_loadC hr hd Tryd.underlying5 rfl (by with_unfolding_all exact ⟨_, rfl, rfl⟩) (by first | (simp; done) | (simp; omega) | omega) ?_)))
        go_round
        case rel => exact ⟨k + 1, by omega, by go_num, by rw [hx.out.1]; go_num⟩
        case measure => simp [intOf]; omega
      · go_wp2
        go_ret2
        exact ⟨by rw [show l.take k = l from List.take_of_length_le (by have := hl.out; omega)]; rfl, rfl⟩
  · rw [if_neg h8, decide_eq_false h8]
    go_enter Tryd.func34, Tryd.ntmps34
    go_wp2
    go_ret2
    exact ⟨rfl, rfl⟩
end Go.Proofs.YtpdbjhgphgcjoaaDoor
