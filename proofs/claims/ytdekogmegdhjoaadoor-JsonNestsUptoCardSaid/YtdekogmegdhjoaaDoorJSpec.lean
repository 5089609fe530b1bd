/-
  Layer 6 in plain words: JSON texts read and written. No program is named here.
-/
namespace Go.Proofs.YtdekogmegdhjoaaDoor

/-- A value. -/
inductive JV where
  | mk (kind num : Int) (text : List UInt8) (names : List (List UInt8)) (kids : List JV)
def JV.kind : JV → Int | .mk k _ _ _ _ => k
def JV.num : JV → Int | .mk _ n _ _ _ => n
def JV.text : JV → List UInt8 | .mk _ _ t _ _ => t
def JV.names : JV → List (List UInt8) | .mk _ _ _ ns _ => ns
def JV.kids : JV → List JV | .mk _ _ _ _ ks => ks
def JV.null : JV := .mk 0 0 [] [] []

/-- What is wrong: where, and which fault. -/
abbrev JR (α : Type) := Except (Nat × Nat) α

def jBlank (c : UInt8) : Bool := c == 32 || (c == 9 || (c == 10 || c == 13))
/-- The place behind blanks. -/
def jBlanks (b : List UInt8) (p : Nat) : Nat := p + ((b.drop p).takeWhile jBlank).length
def jNext (b : List UInt8) (p : Nat) : JR UInt8 :=
  match b[p]? with
  | none => .error (b.length, 9)
  | some c => .ok c
def jWord (b : List UInt8) : List UInt8 → Nat → JR Nat
  | [], p => .ok p
  | c :: w, p => match b[p]? with
    | none => .error (b.length, 9)
    | some x => if x = c then jWord b w (p + 1) else .error (p, 10)
def jDig (c : UInt8) : Bool := decide (48 ≤ c.toNat) && decide (c.toNat ≤ 57)
/-- What a number may be of. -/
def jNumC (c : UInt8) : Bool := jDig c || (c == 45 || (c == 43 || (c == 46 || (c == 101 || c == 69))))
def jDigs (l : List UInt8) : Nat := l.foldl (fun n c => 10 * n + (c.toNat - 48)) 0
/-- The number that signs are. -/
def jNum (s : List UInt8) : Option Int :=
  let neg := s.head? == some 45
  let t := if neg then s.tail else s
  if t ≠ [] ∧ t.length ≤ 16 ∧ (t.head? ≠ some 48 ∨ t.length = 1 ∧ neg = false) ∧ t.all jDig = true ∧ jDigs t ≤ 9007199254740991 then
    some (if neg then -(jDigs t : Int) else (jDigs t : Int))
  else none
def jNumber (b : List UInt8) (p : Nat) : JR (Int × Nat) :=
  let s := (b.drop p).takeWhile jNumC
  match jNum s with
  | none => .error (p, 63)
  | some n => .ok (n, p + s.length)
def jHex (c : UInt8) : Option Nat :=
  if 48 ≤ c.toNat ∧ c.toNat ≤ 57 then some (c.toNat - 48)
  else if 97 ≤ c.toNat ∧ c.toNat ≤ 102 then some (c.toNat - 87)
  else if 65 ≤ c.toNat ∧ c.toNat ≤ 70 then some (c.toNat - 55)
  else none
/-- So many digits of an escape that begins at a place. -/
def jUnit (b : List UInt8) (start : Nat) : Nat → Nat → Nat → JR Nat
  | 0, n, _ => .ok n
  | k + 1, n, p => match b[p]? with
    | none => .error (b.length, 9)
    | some c => match jHex c with
      | none => .error (start, 62)
      | some d => jUnit b start k (16 * n + d) (p + 1)
/-- A sign in UTF-8. -/
def jSign (n : Nat) : List UInt8 :=
  if n < 128 then [UInt8.ofNat n]
  else if n < 2048 then [UInt8.ofNat (192 + n / 64), UInt8.ofNat (128 + n % 64)]
  else if n < 65536 then [UInt8.ofNat (224 + n / 4096), UInt8.ofNat (128 + n / 64 % 64), UInt8.ofNat (128 + n % 64)]
  else [UInt8.ofNat (240 + n / 262144), UInt8.ofNat (128 + n / 4096 % 64), UInt8.ofNat (128 + n / 64 % 64), UInt8.ofNat (128 + n % 64)]
def jCont (c : UInt8) : Bool := decide (128 ≤ c.toNat) && decide (c.toNat ≤ 191)
/-- How many bytes the sign has with which bytes begin; 0: none does. -/
def jSize : List UInt8 → Nat
  | [] => 0
  | c :: l =>
    if c.toNat < 128 then 1
    else if c.toNat < 194 then 0
    else if c.toNat < 224 then match l with
      | x :: _ => if jCont x = true then 2 else 0
      | _ => 0
    else if c.toNat < 240 then match l with
      | x :: y :: _ => if jCont x = true ∧ jCont y = true ∧ 2048 ≤ (c.toNat - 224) * 4096 + (x.toNat - 128) * 64 + (y.toNat - 128) ∧ ¬ (55296 ≤ (c.toNat - 224) * 4096 + (x.toNat - 128) * 64 + (y.toNat - 128) ∧ (c.toNat - 224) * 4096 + (x.toNat - 128) * 64 + (y.toNat - 128) < 57344) then 3 else 0
      | _ => 0
    else if c.toNat < 245 then match l with
      | x :: y :: z :: _ => if jCont x = true ∧ jCont y = true ∧ jCont z = true ∧ 65536 ≤ (c.toNat - 240) * 262144 + (x.toNat - 128) * 4096 + (y.toNat - 128) * 64 + (z.toNat - 128) ∧ (c.toNat - 240) * 262144 + (x.toNat - 128) * 4096 + (y.toNat - 128) * 64 + (z.toNat - 128) ≤ 1114111 then 4 else 0
      | _ => 0
    else 0
/-- What a backslash at a place says, and the place behind. -/
def jEscape (b : List UInt8) (p : Nat) : JR (List UInt8 × Nat) :=
  match b[p + 1]? with
  | none => .error (b.length, 9)
  | some c =>
    if c = 34 ∨ c = 92 ∨ c = 47 then .ok ([c], p + 2)
    else if c = 98 then .ok ([8], p + 2)
    else if c = 102 then .ok ([12], p + 2)
    else if c = 110 then .ok ([10], p + 2)
    else if c = 114 then .ok ([13], p + 2)
    else if c = 116 then .ok ([9], p + 2)
    else if c = 117 then
      match jUnit b p 4 0 (p + 2) with
      | .error x => .error x
      | .ok n =>
        if 55296 ≤ n ∧ n < 56320 then
          match b[p + 6]? with
          | none => .error (b.length, 9)
          | some x => if x ≠ 92 then .error (p, 62) else
            match b[p + 7]? with
            | none => .error (b.length, 9)
            | some y => if y ≠ 117 then .error (p, 62) else
              match jUnit b p 4 0 (p + 8) with
              | .error x => .error x
              | .ok m => if 56320 ≤ m ∧ m < 57344 then .ok (jSign (65536 + (n - 55296) * 1024 + (m - 56320)), p + 12) else .error (p, 62)
        else if 56320 ≤ n ∧ n < 57344 then .error (p, 62)
        else .ok (jSign n, p + 6)
    else .error (p, 62)
/-- What stands in a text from a place on, behind what was read of it; at most so many steps. -/
def jTextL (b : List UInt8) : Nat → Nat → List UInt8 → JR (List UInt8 × Nat)
  | 0, _, _ => .error (b.length, 9)
  | f + 1, p, out => match b[p]? with
    | none => .error (b.length, 9)
    | some c =>
      if c = 34 then .ok (out, p + 1)
      else if c = 92 then match jEscape b p with
        | .error x => .error x
        | .ok (e, q) => jTextL b f q (out ++ e)
      else if c.toNat < 32 then .error (p, 60)
      else if jSize (b.drop p) = 0 then .error (p, 61)
      else jTextL b f (p + jSize (b.drop p)) (out ++ (b.drop p).take (jSize (b.drop p)))
def jText (b : List UInt8) (p : Nat) : JR (List UInt8 × Nat) :=
  match jWord b [34] p with
  | .error x => .error x
  | .ok q => jTextL b (b.length + 1 - q) q []
/-- The name of a member, behind other names; the place of its value. -/
def jName (b : List UInt8) (names : List (List UInt8)) (p : Nat) : JR (List UInt8 × Nat) :=
  match jText b p with
  | .error x => .error x
  | .ok (s, q) =>
    if s ∈ names then .error (p, 7) else
      match jWord b [58] (jBlanks b q) with
      | .error x => .error x
      | .ok r => .ok (s, jBlanks b r)
/-- The members of a list (5) or an object (6), behind those that were read; 'val' reads one value. -/
def jManyL (b : List UInt8) (kind : Int) (fin : UInt8) (val : Nat → Nat → JR (JV × Nat × Nat)) : Nat → Nat → Nat → List (List UInt8) → List JV → JR (JV × Nat × Nat)
  | 0, _, _, _, _ => .error (b.length, 9)
  | f + 1, p, m, names, kids =>
    match (if kind = 6 then jName b names p else .ok ([], p)) with
    | .error x => .error x
    | .ok (s, q) =>
      match val q m with
      | .error x => .error x
      | .ok (v, r, m') =>
        match jNext b (jBlanks b r) with
        | .error x => .error x
        | .ok c =>
          if c = fin then .ok (.mk kind 0 [] (if kind = 6 then names ++ [s] else names) (kids ++ [v]), jBlanks b r + 1, m')
          else match jWord b [44] (jBlanks b r) with
            | .error x => .error x
            | .ok t => jManyL b kind fin val f (jBlanks b t) m' (if kind = 6 then names ++ [s] else names) (kids ++ [v])
/-- A list or an object at a place; 'val': none where no more may be nested. -/
def jMany (b : List UInt8) (kind : Int) (fin : UInt8) (val : Option (Nat → Nat → JR (JV × Nat × Nat))) (p m : Nat) : JR (JV × Nat × Nat) :=
  match val with
  | none => .error (p, 64)
  | some val =>
    match jNext b (jBlanks b (p + 1)) with
    | .error x => .error x
    | .ok c => if c = fin then .ok (.mk kind 0 [] [] [], jBlanks b (p + 1) + 1, m) else jManyL b kind fin val (b.length + 1 - (p + 1)) (jBlanks b (p + 1)) m [] []
def jLit (b : List UInt8) (w : List UInt8) (v : JV) (p m : Nat) : JR (JV × Nat × Nat) :=
  match jWord b w p with
  | .error x => .error x
  | .ok q => .ok (v, q, m)
/-- A value at a place, of which 'many' reads lists and objects. -/
def jValueW (b : List UInt8) (val : Option (Nat → Nat → JR (JV × Nat × Nat))) (p m : Nat) : JR (JV × Nat × Nat) :=
  match b[p]? with
  | none => .error (b.length, 9)
  | some c =>
    if m = 4096 then .error (p, 8)
    else if c = 110 then jLit b [110, 117, 108, 108] .null p (m + 1)
    else if c = 102 then jLit b [102, 97, 108, 115, 101] (.mk 1 0 [] [] []) p (m + 1)
    else if c = 116 then jLit b [116, 114, 117, 101] (.mk 2 0 [] [] []) p (m + 1)
    else if c = 45 ∨ jDig c = true then
      match jNumber b p with
      | .error x => .error x
      | .ok (n, q) => .ok (.mk 3 n [] [] [], q, m + 1)
    else if c = 34 then
      match jText b p with
      | .error x => .error x
      | .ok (s, q) => .ok (.mk 4 0 s [] [], q, m + 1)
    else if c = 91 then jMany b 5 93 val p (m + 1)
    else if c = 123 then jMany b 6 125 val p (m + 1)
    else .error (p, 10)
/-- A value at a place; so many lists and objects may still be nested; so many values were read. -/
def jValue (b : List UInt8) : Nat → Nat → Nat → JR (JV × Nat × Nat)
  | 0, p, m => jValueW b none p m
  | d + 1, p, m => jValueW b (some (jValue b d)) p m
/-- The value that a text is; or the fault, and where. -/
def jParse (b : List UInt8) : JR JV :=
  if 65536 < b.length then .error (0, 8) else
    match jValue b 16 (jBlanks b 0) 0 with
    | .error x => .error x
    | .ok (v, p, _) => if jBlanks b p < b.length then .error (jBlanks b p, 10) else .ok v
end Go.Proofs.YtdekogmegdhjoaaDoor
